/- Kg: keep.Covers, Bars, Fold, Apply. Conditions: sizes. Lpa: entries in form, in plain words (first part). Conditions: none. Ya: the library's stable sort, piece by piece: what each function of it does to the row. Conditions: what is asked of 'less' and of 'swap'. Yb: the library's stable sort: symMerge puts two sorted runs into one. Conditions: what is asked of 'less' and of 'swap'; the order. Yc: the library's stable sort, whole: blocks of 20 by insertion, then merged by pairs. Conditions: what is asked of 'less' and of 'swap'; the order. Yd: the library's stable sort: the one order that it gives (by tags: each element with its place), and sort.SliceStable. Conditions: what is asked of 'less'; the order; the types. Ye: sort.SliceStable, walked. Conditions: what is asked of 'less'; the order; the types. Yg: sort.SliceStable as a call that puts a row of one's own into the stable order. Conditions: 'less' by its contract; the order; the types. Le: lines: the library's sort at entries; copies; what sorted lists come to. Conditions: none. Lf: lines: Sort, Find and what the document says of them. Conditions: sizes. Lh: lines: Union, and the library's Grow and Concat at entries. Conditions: sizes. Lp: entries in form, in plain words. Conditions: none. Lm: lines: Dots, Inside, Outside. Conditions: sizes. Ea: act.Effect, the document's Effect. Conditions: sizes. Eb: the law of Effect. Conditions: sizes. -/
import Derived.Below
import Derived.OwnWalk
import Derived.WalkKit
import Derived.KernelRfl
import Derived.Laws.MakeOwn
import Derived.Laws.OwnMore
import Derived.Laws.Slices
import Derived.Laws.CopyOwn
import Derived.Laws.AppendOwnNone
import Derived.Laws.Rows
import Derived.Orders
import Derived.Test.YtaiepnaokhpmcaaGreatProg
import Derived.DataReads
import Derived.ChangeOld
import Derived.DataElems
import Derived.SizedLaws
import Derived.ChangeKeysEq
import Derived.Sort.LotA
import Derived.Shelf.SlSortFuncK.RowK2
import Derived.Shelf.SlSortCmp.NoneTotal
import Derived.Lib.Walk
import Derived.Shelf.SlLaysE0
import Derived.Shelf.RegionOpenPlain
import Derived.Deep.LoopGhost
import Derived.Lib.SliceRun
import Derived.Lib.Bytealg
import Derived.Shelf.SlSortFuncK.SWK
import Derived.Deep.Cut
import Derived.Deep.CutRange
import Derived.Deep.DeepCutAuto
import Derived.Lib.ReflectliteSwap
import Derived.Laws.Externs
import Derived.Lib.ReflectliteSlice
import Derived.Lib.AppendZeros
import Derived.Test.YtaiepnaokhpmcaaGreatZy4
set_option linter.unusedVariables false
set_option linter.unusedSimpArgs false
set_option linter.unusedSectionVars false
namespace Go.Proofs.YtaiepnaokhpmcaaGreat
open Go.E
set_option maxRecDepth 100000
set_option maxHeartbeats 4000000
def invBr (rs:List Record) (e:Entry) (n i r m:Int) (s:ByteArray) (q:Int):Prop:=r=e.dot.rep∧m=e.dot.num∧s=e.sku∧q=e.qty∧0≤i∧i≤rs.length∧0≤n∧n≤i∧n=barsR (rs.take i.toNat) e
def decBr (rs:List Record) (n i r m:Int) (s:ByteArray) (q:Int):Nat:=(rs.length-i).toNat
def isFo (rs:List Record) (i:Int) (all:Past) (out:List Record):Prop:=foldG all out (rs.drop i.toNat)=foldG ⟨[],[]⟩ [] rs
def invFo (rs:List Record) (i:Int) (v:List Int) (c:List Span) (out:List Record):Prop:=0≤i∧i≤rs.length∧(out.length:Int)≤i∧c.length≤8000000000∧isFo rs i ⟨v,c⟩ out∧(∀ r∈out,r.past=normP r.past)
def decFo (rs:List Record) (i:Int) (v:List Int) (c:List Span) (out:List Record):Nat:=(rs.length-i).toNat
def isGr (rs:List Record) (i j:Int) (ps:List Past):Prop:=ps=((rs.drop i.toNat).take (j-i).toNat).map (fun x=>x.past)∧∀ k:Nat,i≤k→(k:Int) < j→rs[k]!.sku=rs[i.toNat]!.sku
def invGr (rs:List Record) (i:Int) (v0:List Int) (c0:List Span) (o0:List Record) (j:Int) (v:List Int) (c:List Span) (o:List Record) (ps:List Past):Prop:=v=v0∧c=c0∧o=o0∧i≤j∧j≤rs.length∧isGr rs i j ps
def decGr (rs:List Record) (j:Int) (v:List Int) (c:List Span) (o:List Record) (ps:List Past):Nat:=(rs.length-j).toNat
def invAp (es:List Entry) (bars:List Record) (i:Int) (out:List Entry):Prop:=0≤i∧i≤es.length∧(out.length:Int)≤i∧out=(es.take i.toNat).filter fun e=>decide (barsR bars e=0)
def decAp (es:List Entry) (i:Int) (out:List Entry):Nat:=(es.length-i).toNat
theorem while_at {α:Type} [Inhabited α] (p:α→Bool):∀ (l:List α) (n:Nat),n≤l.length→(∀ k:Nat,k < n→p l[k]! = true)→(n < l.length→p l[n]! = false)→l.takeWhile p=l.take n∧l.dropWhile p=l.drop n
 | [],n,hn,_,_=>by simp
 | x :: l,0,_,_,h=>by
  have:=h (by simp)
  have hx:p x=false:=this
  simp [List.takeWhile_cons,List.dropWhile_cons,hx]
 | x :: l,n+1,hn,h,hx=>by
  have h0:p x=true:=h 0 (by omega)
  have ih:=while_at p l n (by simpa using hn) (fun k hk=>by have:=h (k+1) (by omega);simpa using this) (fun hl=>by have:=hx (by simpa using hl);simpa using this)
  simp [List.takeWhile_cons,List.dropWhile_cons,h0,ih.1,ih.2]
theorem dropX {α:Type} [Inhabited α] {a:List α} {i:Int} (h0:0≤i) (h:i < a.length):a.drop i.toNat=a[i.toNat]! :: a.drop (i+1).toNat:=by
 rw [show (i+1).toNat=i.toNat+1 by omega,getElem!_pos a i.toNat (by omega)]
 exact List.drop_eq_getElem_cons (by omega)
theorem bang_drop {α:Type} [Inhabited α] {a:List α} {i k:Nat} (h:i+k < a.length):(a.drop i)[k]! = a[i+k]!:=by
 rw [getElem!_pos (a.drop i) k (by rw [List.length_drop];omega),getElem!_pos a (i+k) h,List.getElem_drop]
theorem gr_end {rs:List Record} {i j:Int} {ps:List Past} (h0:0≤i) (hi:i < rs.length) (hij:i≤j) (hj:j≤rs.length) (he:¬ (j < rs.length∧rs[j.toNat]!.sku=rs[i.toNat]!.sku)) (h:isGr rs i j ps) :
  i < j∧ps=(groupR rs[i.toNat]! (rs.drop (i+1).toNat)).map (fun x=>x.past)∧rs.drop j.toNat=restR rs[i.toNat]! (rs.drop (i+1).toNat):=by
 have hlt:i < j:=by
  apply Classical.byContradiction
  intro k
  have:j=i:=by omega
  subst this
  exact he ⟨hi,rfl⟩
 have hw:=while_at (fun x:Record=>decide (x.sku=rs[i.toNat]!.sku)) (rs.drop i.toNat) (j-i).toNat (by rw [List.length_drop];omega) (fun k hk=>by
  rw [bang_drop (by omega),decide_eq_true_iff]
  exact h.2 (i.toNat+k) (by omega) (by omega)) (fun hl=>by
  rw [List.length_drop] at hl
  rw [bang_drop (by omega),decide_eq_false_iff_not,show i.toNat+(j-i).toNat=j.toNat by omega]
  exact fun k=>he ⟨by omega,k⟩)
 have e1:groupR rs[i.toNat]! (rs.drop (i+1).toNat)=(rs.drop i.toNat).takeWhile fun x=>decide (x.sku=rs[i.toNat]!.sku):=by
  rw [dropX h0 hi,List.takeWhile_cons]
  simp [groupR]
 have e2:restR rs[i.toNat]! (rs.drop (i+1).toNat)=(rs.drop i.toNat).dropWhile fun x=>decide (x.sku=rs[i.toNat]!.sku):=by
  rw [dropX h0 hi,List.dropWhile_cons]
  simp [restR]
 refine ⟨hlt,?_,?_⟩
 ·rw [e1,hw.1];exact h.1
 ·rw [e2,hw.2,List.drop_drop,show i.toNat+(j-i).toNat=j.toNat by omega]
theorem fo_next {rs:List Record} {i j:Int} {ps:List Past} {all:Past} {out:List Record} (h0:0≤i) (hi:i < rs.length) (hij:i≤j) (hj:j≤rs.length) (he:¬ (j < rs.length∧rs[j.toNat]!.sku=rs[i.toNat]!.sku)) (h:isGr rs i j ps) (hf:isFo rs i all out) :
  isFo rs j (if rs[i.toNat]!.sku=noneS then joinP ps else all) (if sizeP (if rs[i.toNat]!.sku=noneS then joinP ps else minusP (joinP ps) all)=0 then out else out++[⟨rs[i.toNat]!.sku,if rs[i.toNat]!.sku=noneS then joinP ps else minusP (joinP ps) all⟩]):=by
 obtain ⟨_,e1,e2⟩:=gr_end h0 hi hij hj he h
 unfold isFo at *
 rw [← hf,dropX h0 hi,foldG_cons,e2,e1]
 rfl
theorem totR_app (a b:List Record):totR (a++b)=totR a+totR b:=by simp [totR]
theorem totR_ge (a:List Record):a.length≤totR a:=by
 induction a with
 | nil=>simp [totR]
 | cons r a ih=>simp only [totR,List.map_cons,List.sum_cons,List.length_cons] at *;omega
theorem totP_map (l:List Record):totP (l.map fun x=>x.past)=totR l:=by simp [totP,totR,Function.comp_def]
theorem gr_tot {rs:List Record} {i j:Int} {ps:List Past} (h:isGr rs i j ps):totP ps≤totR rs:=by
 rw [h.1,totP_map]
 have h1:=totR_app (rs.take i.toNat) (rs.drop i.toNat)
 rw [List.take_append_drop] at h1
 have h2:=totR_app ((rs.drop i.toNat).take (j-i).toNat) ((rs.drop i.toNat).drop (j-i).toNat)
 rw [List.take_append_drop] at h2
 omega
theorem gr_len {rs:List Record} {i j:Int} {ps:List Past} (h:isGr rs i j ps):(ps.length:Int)≤(j-i).toNat:=by
 rw [h.1,List.length_map,List.length_take]
 omega
theorem gr_next {rs:List Record} {i j:Int} {ps:List Past} (h0:0≤i) (hij:i≤j) (hj:j < rs.length) (hs:rs[j.toNat]!.sku=rs[i.toNat]!.sku) (h:isGr rs i j ps):isGr rs i (j+1) (ps++[rs[j.toNat]!.past]):=by
 refine ⟨?_,fun k hk1 hk2=>?_⟩
 ·rw [h.1,show (j+1-i).toNat=(j-i).toNat+1 by omega,List.take_succ_eq_append_getElem (by rw [List.length_drop];omega),List.map_append]
  congr 1
  have hjn:i.toNat+(j-i).toNat < rs.length:=by omega
  have:(rs.drop i.toNat)[(j-i).toNat]'(by rw [List.length_drop];omega)=rs[j.toNat]!:=by
   rw [List.getElem_drop,getElem!_pos rs j.toNat (by omega)]
   congr 1
   omega
  simp only [List.map_cons,List.map_nil,this]
 ·by_cases e:k=j.toNat
  ·rw [e];exact hs
  ·exact h.2 k hk1 (by omega)
theorem norm_sz {p:Past} (h:p=normP p):p.cloud.length≤8000000000:=by
 rw [h]
 exact (tabP_len _).1
theorem join_sz (ps:List Past):(joinP ps).cloud.length≤8000000000:=(tabP_len _).1
theorem minus_sz (a b:Past):(minusP a b).cloud.length≤8000000000:=(tabP_len fun r=>minR (openT [a] r) (openT [b] r)).1
theorem fo_end {rs:List Record} {i:Int} {all:Past} {out:List Record} (hi:¬ i < rs.length) (h:isFo rs i all out):out=foldG ⟨[],[]⟩ [] rs:=by
 unfold isFo at h
 rw [List.drop_of_length_le (by omega),foldG_nil] at h
 exact h
theorem row_head {out:List Record} {b:Go.E.Blk} {n m:Nat} (hb:b.k=.row m (out.map c81)) (h:0 < (out.length:Int)) (hn:n=0):Go.E.rowAt b n (c81 out[0]!):=by
 unfold Go.E.rowAt
 rw [hb,hn]
 cases out with
 | nil=>simp at h
 | cons x l=>rfl
theorem ap_step {es:List Entry} {B:List Record} {i:Int} {o:List Entry} (h0:0≤i) (hi:i < es.length) (ho:o=(es.take i.toNat).filter fun e=>decide (barsR B e=0)) :
  (es.take (i+1).toNat).filter (fun e=>decide (barsR B e=0))=o++if barsR B es[i.toNat]! = 0 then [es[i.toNat]!] else []:=by
 rw [← take_step h0 hi,List.filter_append,ho]
 congr 1
 generalize es[i.toNat]! = x
 split
 ·rename_i h;simp [List.filter_cons,h]
 ·rename_i h;simp [List.filter_cons,h]
theorem ap_fold (es:List Entry) (rs:List Record):es.filter (fun e=>decide (barsR (foldG ⟨[],[]⟩ [] rs) e=0))=es.filter fun e=>decide (barsR rs e=0) :=
 List.filter_congr fun e _=>decide_eq_decide.2 (fold_bars rs e)
theorem con157 (r:Record) (hb:szR r):Con Tryz.prog 157 [.agg (c81 r)] (.agg (c81 ⟨r.sku,normP r.past⟩)) :=
 by
 refine st_con tab_ok (by kernel_rfl) [.cell 2 81] 9 Go.Proofs.Tryz.func157 (by kernel_rfl) (by kernel_rfl) ?_
 intro e0 cx
 refine sq<|rG cx [1,2] [1,2] z0<|sn<|sq<|rA cx [2] [2] (fT (con107 (r.past) ?g0) (oA 4 (.agg [.sl (List.map c3 (normP r.past).vec),.sl (List.map c104 (normP r.past).cloud)]) z0)) ?_;rotate_left
 refine sn<|rT<|qR (.agg [.s (r.sku),.sl (List.map c3 (normP r.past).vec),.sl (List.map c104 (normP r.past).cloud)]) (.eq ?g1);rotate_left
 case g0=>exact hb
 case g1=>exact rfl
theorem con158 (r:Record) (e:Entry):Con Tryz.prog 158 [.agg (c81 r),.agg (c45 e)] (.b (covR r e)) :=
 by
 refine st_con tab_ok (by kernel_rfl) [.tmp 4] 22 Go.Proofs.Tryz.func158 (by kernel_rfl) (by kernel_rfl) ?_
 intro e0 cx
 refine sq<|rG cx [2,3] [2,3] z0<|sn<|sq<|st_join (σ':=⟨[(4,.b (decide (r.sku={ data:=#[]:ByteArray }∧hasP r.past e.dot=true∨¬r.sku={ data:=#[]:ByteArray }∧r.sku=e.sku∧hasP r.past e.dot=true)))],[]⟩) ?_ ?_
 refine st_split (r.sku={ data:=#[]:ByteArray }) (fun h_1=>?_) (fun h_1=>?_)
 refine rG cx [4] [] (tT 2 (told_seqt h_1:AV.b (r.sku.toList == { data:=#[]:ByteArray }.toList)=AV.b true) (fT (con115 (r.past) (e.dot)) (tD 17 (hasP r.past e.dot) (r.sku={ data:=#[]:ByteArray }∧hasP r.past e.dot=true∨¬r.sku={ data:=#[]:ByteArray }∧r.sku=e.sku∧hasP r.past e.dot=true) (by simp only [eq_true h_1,tsl]) (oA 15 (.b (hasP r.past e.dot)) z0)))) ?_
 exact ⟨rfl,by kernel_rfl⟩
 refine st_split (r.sku=e.sku) (fun h_2=>?_) (fun h_2=>?_)
 refine rG cx [4] [] (tT 2 (told_seqf h_1:AV.b (r.sku.toList == { data:=#[]:ByteArray }.toList)=AV.b false) (tT 8 (told_seqt h_2:AV.b (r.sku.toList == e.sku.toList)=AV.b true) (fT (con115 (r.past) (e.dot)) (tD 17 (hasP r.past e.dot) (r.sku={ data:=#[]:ByteArray }∧hasP r.past e.dot=true∨¬r.sku={ data:=#[]:ByteArray }∧r.sku=e.sku∧hasP r.past e.dot=true) (by simp only [eq_false h_1,eq_true h_2,tsl]) (oA 15 (.b (hasP r.past e.dot)) z0))))) ?_
 exact ⟨rfl,by kernel_rfl⟩
 refine rG cx [4] [] (tT 2 (told_seqf h_1:AV.b (r.sku.toList == { data:=#[]:ByteArray }.toList)=AV.b false) (tT 8 (told_seqf h_2:AV.b (r.sku.toList == e.sku.toList)=AV.b false) (tD 17 false (r.sku={ data:=#[]:ByteArray }∧hasP r.past e.dot=true∨¬r.sku={ data:=#[]:ByteArray }∧r.sku=e.sku∧hasP r.past e.dot=true) (by simp only [eq_false h_1,eq_false h_2,tsl]) z0))) ?_
 exact ⟨rfl,by kernel_rfl⟩
 refine sn<|rT<|qR (.b (decide (r.sku={ data:=#[]:ByteArray }∧hasP r.past e.dot=true∨¬r.sku={ data:=#[]:ByteArray }∧r.sku=e.sku∧hasP r.past e.dot=true))) (.eq ?g0);rotate_left
 case g0 =>
  refine congrArg AV.b ?_
  rw [Bool.eq_iff_iff,cov_iff,decide_eq_true_iff]
  show (r.sku=noneS∧_∨¬ r.sku=noneS∧_)↔_
  by_cases c:r.sku=noneS <;> simp [c]
theorem con117 (rs:List Record) (e:Entry):Con Tryz.prog 117 [.sl (rs.map c81),.agg (c45 e)] (.i .i64 (barsR rs e)) :=
 by
 have st:∀ {i:Int},0≤i→i < rs.length→barsR (rs.take (i+1).toNat) e=barsR (rs.take i.toNat) e+if covR rs[i.toNat]! e=true then 1 else 0:=by
  intro i h0 h1
  unfold barsR
  rw [← take_step h0 h1,List.filter_append,List.length_append]
  generalize rs[i.toNat]! = x
  split
  ·rename_i h;simp [List.filter_cons,h]
  ·rename_i h;simp [List.filter_cons,h]
 refine con_lens 0 (c81) (rs) (by kernel_rfl) Go.Proofs.Tryz.func117 (by kernel_rfl) fun hl_0=>st_con tab_ok (by kernel_rfl) [.tmp 4] 21 Go.Proofs.Tryz.func117 (by kernel_rfl) (by kernel_rfl) ?_
 intro e0 cx
 refine sq<|rG cx [0,3] [3] z0<|sn<|sq<|rG cx [0,3,5] [3] z0<|sn<|sq<|sq<|rG cx [3,5,8,9,10] [3] (tL 1 c81 rs z0)<|sn<|bL 0<|st_loop (X:=Int×Int×Int×Int×ByteArray×Int) (fun x=>⟨[(3,.ptr (3) (0) (0) (0)),(5,.i .i64 (x.1)),(8,.sl (List.map c81 rs)),(9,.i .i64 ((↑rs.length:Int))),(10,.i .i64 (x.2.1))],[(3,⟨0,45,.var [.i .i64 (x.2.2.1),.i .i64 (x.2.2.2.1),.s (x.2.2.2.2.1),.i .i64 (x.2.2.2.2.2)]⟩)]⟩) (fun x ↦ decBr rs x.1 x.2.1 x.2.2.1 x.2.2.2.1 x.2.2.2.2.1 x.2.2.2.2.2) (fun x ↦ invBr rs e x.1 x.2.1 x.2.2.1 x.2.2.2.1 x.2.2.2.2.1 x.2.2.2.2.2) [3,5,8,9,10] [3] (((0:Int),(0:Int),e.dot.rep,e.dot.num,e.sku,e.qty)) (by kernel_rfl) (by kernel_rfl) (show invBr rs e (0:Int) (0:Int) e.dot.rep e.dot.num e.sku e.qty from ?g0) ?_;rotate_left
 rintro ⟨n0,i1,r2,m3,s4,q5⟩ h_6
 obtain ⟨hh7,hh8,hh9,hh10,h11,h12,h13,h14,h15⟩:r2=e.dot.rep∧m3=e.dot.num∧s4=e.sku∧q5=e.qty∧(0:Int)≤i1∧i1≤(↑rs.length:Int)∧(0:Int)≤n0∧n0≤i1∧n0=barsR (List.take i1.toNat rs) e:=h_6
 refine sq<|rG cx [3,5,8,9,10,11] [3] (tB 0 (i1 < (↑rs.length:Int)) z0)<|sn<|sq<|dC (i1 < (↑rs.length:Int)) (fun h16=>?_) fun h16=>?_
 refine sK<|sn<|sq<|bL 1<|sq<|rG cx [3,5,8,9,10,7] [3,7] (fA ((0:Int)≤i1) (fG c81 rs i1.toNat (fR (3:Nat) (fN 3 3 (oR 0 (c81 rs[i1.toNat]!) z0)))))<|sn<|sq<|rG cx [3,5,8,9,10,16] [3] (fT (con158 (rs[i1.toNat]!) ({ dot:={ rep:=r2,num:=m3:Dot },sku:=s4,qty:=q5:Entry })) (oA 2 (.b (covR rs[i1.toNat]! { dot:={ rep:=r2,num:=m3:Dot },sku:=s4,qty:=q5:Entry })) z0))<|sn<|st_cond (covR rs[i1.toNat]! { dot:={ rep:=r2,num:=m3:Dot },sku:=s4,qty:=q5:Entry }) (by kernel_rfl) (by kernel_rfl) (fun h17=>?_) (fun h17=>?_)
 refine rG cx [3,5,8,9,10] [3] (tW 1 (n0+(1:Int)) z0)<|bN<|sn<|rG cx [3,5,8,9,10] [3] (tW 0 (i1+(1:Int)) z0)<|sn<|loop_next ((n0+(1:Int),i1+(1:Int),r2,m3,s4,q5)) (by kernel_rfl) (show ((↑rs.length:Int)-(i1+(1:Int))).toNat < ((↑rs.length:Int)-i1).toNat from (by omega)) (show invBr rs e (n0+(1:Int)) (i1+(1:Int)) r2 m3 s4 q5 from ?g1);rotate_left
 refine sK<|bN<|sn<|rG cx [3,5,8,9,10] [3] (tW 0 (i1+(1:Int)) z0)<|sn<|loop_next ((n0,i1+(1:Int),r2,m3,s4,q5)) (by kernel_rfl) (show ((↑rs.length:Int)-(i1+(1:Int))).toNat < ((↑rs.length:Int)-i1).toNat from (by omega)) (show invBr rs e n0 (i1+(1:Int)) r2 m3 s4 q5 from ?g2);rotate_left
 refine eX 0<|nE<|nE<|bH<|sn<|sq<|rG cx [4] [] z0<|sn<|rT<|qR (.i .i64 (n0)) (.eq ?g3);rotate_left
 rotate_left
 revert n0 i1 r2 m3 s4 q5 hh7 hh8 hh9 hh10 h11 h12 h13 h14 h15 h16 h17;rotate_left
 revert n0 i1 r2 m3 s4 q5 hh7 hh8 hh9 hh10 h11 h12 h13 h14 h15 h16 h17;rotate_left
 revert n0 i1 r2 m3 s4 q5 hh7 hh8 hh9 hh10 h11 h12 h13 h14 h15 h16;rotate_left
 case g0=>exact ⟨rfl,rfl,rfl,rfl,by omega,by omega,by omega,by omega,by simp [barsR]⟩
 case g1 =>
  intro n i r m s q h0 h1 h2 h3 h4 h5 h6 h7 h8 h9 h10
  subst h0 h1 h2 h3
  refine ⟨rfl,rfl,rfl,rfl,by omega,by omega,by omega,by omega,?_⟩
  rw [st h4 h9,if_pos h10,h8]
 case g2 =>
  intro n i r m s q h0 h1 h2 h3 h4 h5 h6 h7 h8 h9 h10
  subst h0 h1 h2 h3
  refine ⟨rfl,rfl,rfl,rfl,by omega,by omega,by omega,by omega,?_⟩
  have h10:covR rs[i.toNat]! e=false:=h10
  rw [st h4 h9,if_neg (by rw [h10];simp),h8]
  omega
 case g3=>intro n i r m s q h0 h1 h2 h3 h4 h5 h6 h7 h8 h9;rw [h8,List.take_of_length_le (by omega)]
theorem con116 (rs:List Record) (hb:szRs rs) (ht:totR rs*72≤140737488350000):Con Tryz.prog 116 [.sl (rs.map c81)] (.tup [.sl ((foldV rs).1.map c81),.i .i64 (foldV rs).2]) :=
 by
 have hl:=totR_ge rs
 refine con_lens 0 (c81) (rs) (by kernel_rfl) Go.Proofs.Tryz.func116 (by kernel_rfl) fun hl_0=>st_con tab_ok (by kernel_rfl) [.tmp 2,.tmp 3] 89 Go.Proofs.Tryz.func116 (by kernel_rfl) (by kernel_rfl) ?_
 intro e0 cx
 refine sq<|rG cx [0] [] z0<|sn<|sq<|sq<|rG cx [0,12] [] (fT (con83 (rs) (by (with_reducible assumption))) (tN 2 (recE rs) (0:Int) (oA 1 (.i .i64 (recE rs)) z0)))<|sn<|dC (¬recE rs=(0:Int)) (fun hh0=>?_) fun hh0=>?_
 refine sq<|rG cx [2,3] [] z0<|sn<|rT<|nR<|qR (.tup [.nl,.i .i64 ((1:Int))]) (AVle.tup (ZLe.cons (AVle.nl' (show List.map c81 (foldV rs).1=[] from ?g1)) (ZLe.cons (AVle.eq (show AV.i .i64 (1:Int)=AV.i .i64 (foldV rs).2 from ?g0)) ZLe.nil)));rotate_left 2
 refine sK<|sn<|sq<|rG cx [0,4] [4] z0<|sn<|sq<|rG cx [0,4,5] [4] z0<|sn<|sq<|sq<|rG cx [0,4,5,6] [4] z0<|sn<|bL 0<|awp_adopt 5 1005 81 3 (σ':=⟨[(0,.sl (List.map c81 rs)),(4,.ptr (4) (0) (0) (0)),(5,.own 1005 0),(6,.i .i64 ((0:Int)))],[(4,⟨0,26,.var [.nl,.nl]⟩),(1005,⟨0,81,.row 3 (List.map c81 [])⟩)]⟩) (by kernel_rfl)<|awp_nlUp 4 0 (σ':=⟨[(0,.sl (List.map c81 rs)),(4,.ptr (4) (0) (0) (0)),(5,.own 1005 0),(6,.i .i64 ((0:Int)))],[(4,⟨0,26,.var [.sl (List.map c3 []),.nl]⟩),(1005,⟨0,81,.row 3 (List.map c81 [])⟩)]⟩) (by kernel_rfl)<|awp_nlUp 4 1 (σ':=⟨[(0,.sl (List.map c81 rs)),(4,.ptr (4) (0) (0) (0)),(5,.own 1005 0),(6,.i .i64 ((0:Int)))],[(4,⟨0,26,.var [.sl (List.map c3 []),.sl (List.map c104 [])]⟩),(1005,⟨0,81,.row 3 (List.map c81 [])⟩)]⟩) (by kernel_rfl)<|st_loop (X:=Int×List Int×List Span×List Record) (fun x=>⟨[(0,.sl (List.map c81 rs)),(4,.ptr (4) (0) (0) (0)),(5,.own 1005 0),(6,.i .i64 (x.1))],[(4,⟨0,26,.var [.sl (List.map c3 x.2.1),.sl (List.map c104 x.2.2.1)]⟩),(1005,⟨0,81,.row 3 (List.map c81 x.2.2.2)⟩)]⟩) (fun x ↦ decFo rs x.1 x.2.1 x.2.2.1 x.2.2.2) (fun x ↦ invFo rs x.1 x.2.1 x.2.2.1 x.2.2.2) [0,4,5,6] [4,1005] (((0:Int),[],[],[])) (by kernel_rfl) (by kernel_rfl) (show invFo rs (0:Int) [] [] [] from ?g2) ?_;rotate_left
 rintro ⟨i1,v2,cc3,o4⟩ h_5
 obtain ⟨hh6,hh7,h8,h9,h10,h11⟩:(0:Int)≤i1∧i1≤(↑rs.length:Int)∧(↑o4.length:Int)≤i1∧cc3.length≤(8000000000:Nat)∧isFo rs i1 { vec:=v2,cloud:=cc3:Past } o4∧∀ (r:Record),r∈o4→r.past=normP r.past:=h_5
 refine sq<|sq<|rG cx [0,4,5,6,16] [4,1005] (tL 2 c81 rs (tB 3 (i1 < (↑rs.length:Int)) z0))<|sn<|dC (i1 < (↑rs.length:Int)) (fun h12=>?_) fun h12=>?_
 refine sK<|sn<|bL 1<|sq<|rG cx [0,4,5,6,7] [4,1005] z0<|sn<|sq<|rG cx [0,4,5,6,7,8] [4,1005] z0<|sn<|sq<|bL 2<|awp_adopt 8 1008 26 2 (σ':=⟨[(0,.sl (List.map c81 rs)),(4,.ptr (4) (0) (0) (0)),(5,.own 1005 0),(6,.i .i64 (i1)),(7,.i .i64 (i1)),(8,.own 1008 0)],[(4,⟨0,26,.var [.sl (List.map c3 v2),.sl (List.map c104 cc3)]⟩),(1005,⟨0,81,.row 3 (List.map c81 o4)⟩),(1008,⟨0,26,.row 2 (List.map c26 [])⟩)]⟩) (by kernel_rfl)<|st_loop (X:=Int×List Int×List Span×List Record×List Past) (fun x=>⟨[(0,.sl (List.map c81 rs)),(4,.ptr (4) (0) (0) (0)),(5,.own 1005 0),(6,.i .i64 (i1)),(7,.i .i64 (x.1)),(8,.own 1008 0)],[(4,⟨0,26,.var [.sl (List.map c3 x.2.1),.sl (List.map c104 x.2.2.1)]⟩),(1005,⟨0,81,.row 3 (List.map c81 x.2.2.2.1)⟩),(1008,⟨0,26,.row 2 (List.map c26 x.2.2.2.2)⟩)]⟩) (fun x ↦ decGr rs x.1 x.2.1 x.2.2.1 x.2.2.2.1 x.2.2.2.2) (fun x ↦ invGr rs i1 v2 cc3 o4 x.1 x.2.1 x.2.2.1 x.2.2.2.1 x.2.2.2.2) [0,4,5,6,7,8] [4,1005,1008] ((i1,v2,cc3,o4,[])) (by kernel_rfl) (by kernel_rfl) (show invGr rs i1 v2 cc3 o4 i1 v2 cc3 o4 [] from ?g3) ?_;rotate_left
 rintro ⟨j13,v14,c15,o16,p17⟩ h_18
 obtain ⟨h19,h20,h21,h22,h23,h24⟩:v14=v2∧c15=cc3∧o16=o4∧i1≤j13∧j13≤(↑rs.length:Int)∧isGr rs i1 j13 p17:=h_18
 refine sq<|sq<|st_join (σ':=⟨[(0,.sl (List.map c81 rs)),(4,.ptr (4) (0) (0) (0)),(5,.own 1005 0),(6,.i .i64 (i1)),(7,.i .i64 (j13)),(8,.own 1008 0),(34,.b (decide (j13 < (↑rs.length:Int)∧rs[j13.toNat]!.sku=rs[i1.toNat]!.sku)))],[(4,⟨0,26,.var [.sl (List.map c3 v14),.sl (List.map c104 c15)]⟩),(1005,⟨0,81,.row 3 (List.map c81 o16)⟩),(1008,⟨0,26,.row 2 (List.map c26 p17)⟩)]⟩) ?_ ?_
 refine st_split (j13 < (↑rs.length:Int)) (fun h_26=>?_) (fun h_26=>?_)
 refine rA cx [0,4,5,6,7,8,34] [4,1005,1008] (tL 2 c81 rs (tT 3 (told_true h_26) (fO ((0:Int)≤j13) (fG c81 rs j13.toNat (fR (3:Nat) (fA ((0:Int)≤i1) (fG c81 rs i1.toNat (fR (3:Nat) (tT 15 (told_seq:AV.b (rs[j13.toNat]!.sku.toList == rs[i1.toNat]!.sku.toList)=AV.b (decide (rs[j13.toNat]!.sku=rs[i1.toNat]!.sku))) (tD 16 (decide (rs[j13.toNat]!.sku=rs[i1.toNat]!.sku)) (j13 < (↑rs.length:Int)∧rs[j13.toNat]!.sku=rs[i1.toNat]!.sku) (by simp only [eq_true h_26,tsl]) (oR 7 (c81 rs[j13.toNat]!) (oR 12 (c81 rs[i1.toNat]!) z0)))))))))))) ?_
 exact ⟨rfl,by kernel_rfl⟩
 refine rA cx [0,4,5,6,7,8,34] [4,1005,1008] (tL 2 c81 rs (tT 3 (told_false h_26) (tD 16 false (j13 < (↑rs.length:Int)∧rs[j13.toNat]!.sku=rs[i1.toNat]!.sku) (by simp only [eq_false h_26,tsl]) z0))) ?_
 exact ⟨rfl,by kernel_rfl⟩
 refine sn<|dC (j13 < (↑rs.length:Int)∧rs[j13.toNat]!.sku=rs[i1.toNat]!.sku) (fun h27=>?_) fun h27=>?_
 refine sK<|sn<|bL 3<|sq<|rG cx [0,4,5,6,7,8] [4,1005,1008] (fO ((0:Int)≤j13) (fG c81 rs j13.toNat (fR (3:Nat) (fN 2 2 (fR (26:Nat) (fR 2 (fR (2:Nat) (fX c26 [rs[j13.toNat]!.past] 2 (fP ((List.map c26 p17).length+(List.map c26 [rs[j13.toNat]!.past]).length≤maxLen) ?g4 (fP (((List.map c26 p17).length+(List.map c26 [rs[j13.toNat]!.past]).length)*(48:Nat)≤(140737488355328:Nat)) ?g5 (fM c26 p17 [rs[j13.toNat]!.past] (oR 3 (c81 rs[j13.toNat]!) (oV 7 { rows:=some (List.map c26 (p17++[rs[j13.toNat]!.past])) } z0))))))))))))) ?_;rotate_left 2
 refine sn<|rG cx [0,4,5,6,7,8] [4,1005,1008] (tW 1 (j13+(1:Int)) z0)<|bN<|sn<|loop_next ((j13+(1:Int),v14,c15,o16,p17++[rs[j13.toNat]!.past])) (by kernel_rfl) (show ((↑rs.length:Int)-(j13+(1:Int))).toNat < ((↑rs.length:Int)-j13).toNat from (by omega)) (show invGr rs i1 v2 cc3 o4 (j13+(1:Int)) v14 c15 o16 (p17++[rs[j13.toNat]!.past]) from ?g6);rotate_left
 refine eX 2<|nE<|nE<|bH<|sn<|sq<|rA cx [0,4,5,7,9] [4,1005,9] (fA ((0:Int)≤i1) (fG c81 rs i1.toNat (fR (3:Nat) (fT (con55 (p17) ?g7) (oR 2 (c81 rs[i1.toNat]!) (oA 6 (.agg [.sl (List.map c3 (joinP p17).vec),.sl (List.map c104 (joinP p17).cloud)]) z0)))))) ?_;rotate_left
 refine sn<|sq<|sq<|rG cx [0,4,5,7,9,55] [4,1005,9] (tT 2 (told_seq:AV.b (rs[i1.toNat]!.sku.toList == { data:=#[]:ByteArray }.toList)=AV.b (decide (rs[i1.toNat]!.sku={ data:=#[]:ByteArray }))) z0)<|sn<|dC (rs[i1.toNat]!.sku={ data:=#[]:ByteArray }) (fun h28=>?_) fun h28=>?_
 refine rG cx [0,4,5,7,9] [4,1005,9] z0<|sn<|sq<|sq<|rG cx [0,4,5,7,9,66] [4,1005,9] (fT (con98 (joinP p17) ?g8) (tQ 3 (sizeP (joinP p17)=(0:Int)) (oA 2 (.b (decide (sizeP (joinP p17)=(0:Int)))) z0))) ?_;rotate_left
 refine sn<|dC (¬sizeP (joinP p17)=(0:Int)) (fun h29=>?_) fun h29=>?_
 refine rG cx [0,4,5,7] [4,1005] (fR (81:Nat) (fR 3 (fR (3:Nat) (fX c81 [{ sku:=rs[i1.toNat]!.sku,past:=joinP p17:Record }] 3 (fP ((List.map c81 o16).length+(List.map c81 [{ sku:=rs[i1.toNat]!.sku,past:=joinP p17:Record }]).length≤maxLen) ?g9 (fP (((List.map c81 o16).length+(List.map c81 [{ sku:=rs[i1.toNat]!.sku,past:=joinP p17:Record }]).length)*(64:Nat)≤(140737488355328:Nat)) ?g10 (fM c81 o16 [{ sku:=rs[i1.toNat]!.sku,past:=joinP p17:Record }] (oV 3 { rows:=some (List.map c81 (o16++[{ sku:=rs[i1.toNat]!.sku,past:=joinP p17:Record }])) } z0)))))))) ?_;rotate_left 2
 refine sn<|rG cx [0,4,5,6] [4,1005] z0<|bN<|sn<|loop_next ((j13,(joinP p17).vec,(joinP p17).cloud,o16++[{ sku:=rs[i1.toNat]!.sku,past:=joinP p17:Record }])) (by kernel_rfl) (show ((↑rs.length:Int)-j13).toNat < ((↑rs.length:Int)-i1).toNat from ?g11) (show invFo rs j13 (joinP p17).vec (joinP p17).cloud (o16++[{ sku:=rs[i1.toNat]!.sku,past:=joinP p17:Record }]) from ?g12);rotate_left 2
 refine sK<|sn<|rG cx [0,4,5,6] [4,1005] z0<|bN<|sn<|loop_next ((j13,(joinP p17).vec,(joinP p17).cloud,o16)) (by kernel_rfl) (show ((↑rs.length:Int)-j13).toNat < ((↑rs.length:Int)-i1).toNat from ?g13) (show invFo rs j13 (joinP p17).vec (joinP p17).cloud o16 from ?g14);rotate_left 2
 refine rG cx [0,4,5,7,9] [4,1005,9] (fT (con104 (joinP p17) ({ vec:=v14,cloud:=c15:Past }) ?g15 ?g16) (oA 3 (.agg [.sl (List.map c3 (minusP (joinP p17) { vec:=v14,cloud:=c15:Past }).vec),.sl (List.map c104 (minusP (joinP p17) { vec:=v14,cloud:=c15:Past }).cloud)]) z0)) ?_;rotate_left 2
 refine sn<|sq<|sq<|rG cx [0,4,5,7,9,66] [4,1005,9] (fT (con98 (minusP (joinP p17) { vec:=v14,cloud:=c15:Past }) ?g17) (tQ 3 (sizeP (minusP (joinP p17) { vec:=v14,cloud:=c15:Past })=(0:Int)) (oA 2 (.b (decide (sizeP (minusP (joinP p17) { vec:=v14,cloud:=c15:Past })=(0:Int)))) z0))) ?_;rotate_left
 refine sn<|dC (¬sizeP (minusP (joinP p17) { vec:=v14,cloud:=c15:Past })=(0:Int)) (fun h30=>?_) fun h30=>?_
 refine rG cx [0,4,5,7] [4,1005] (fR (81:Nat) (fR 3 (fR (3:Nat) (fX c81 [{ sku:=rs[i1.toNat]!.sku,past:=minusP (joinP p17) { vec:=v14,cloud:=c15:Past }:Record }] 3 (fP ((List.map c81 o16).length+(List.map c81 [{ sku:=rs[i1.toNat]!.sku,past:=minusP (joinP p17) { vec:=v14,cloud:=c15:Past }:Record }]).length≤maxLen) ?g18 (fP (((List.map c81 o16).length+(List.map c81 [{ sku:=rs[i1.toNat]!.sku,past:=minusP (joinP p17) { vec:=v14,cloud:=c15:Past }:Record }]).length)*(64:Nat)≤(140737488355328:Nat)) ?g19 (fM c81 o16 [{ sku:=rs[i1.toNat]!.sku,past:=minusP (joinP p17) { vec:=v14,cloud:=c15:Past }:Record }] (oV 3 { rows:=some (List.map c81 (o16++[{ sku:=rs[i1.toNat]!.sku,past:=minusP (joinP p17) { vec:=v14,cloud:=c15:Past }:Record }])) } z0)))))))) ?_;rotate_left 2
 refine sn<|rG cx [0,4,5,6] [4,1005] z0<|bN<|sn<|loop_next ((j13,v14,c15,o16++[{ sku:=rs[i1.toNat]!.sku,past:=minusP (joinP p17) { vec:=v14,cloud:=c15:Past }:Record }])) (by kernel_rfl) (show ((↑rs.length:Int)-j13).toNat < ((↑rs.length:Int)-i1).toNat from ?g20) (show invFo rs j13 v14 c15 (o16++[{ sku:=rs[i1.toNat]!.sku,past:=minusP (joinP p17) { vec:=v14,cloud:=c15:Past }:Record }]) from ?g21);rotate_left 2
 refine sK<|sn<|rG cx [0,4,5,6] [4,1005] z0<|bN<|sn<|loop_next ((j13,v14,c15,o16)) (by kernel_rfl) (show ((↑rs.length:Int)-j13).toNat < ((↑rs.length:Int)-i1).toNat from ?g22) (show invFo rs j13 v14 c15 o16 from ?g23);rotate_left 2
 refine eX 0<|nE<|nE<|bH<|sn<|sq<|sq<|st_join (σ':=⟨[(5,.own 1005 0),(81,.b (decide ((0:Int) < (↑o4.length:Int)∧o4[0]!.sku={ data:=#[]:ByteArray })))],[(1005,⟨0,81,.row 3 (List.map c81 o4)⟩)]⟩) ?_ ?_
 refine st_split ((0:Int) < (↑o4.length:Int)) (fun h32=>?_) (fun h32=>?_)
 refine rG cx [5,81] [1005] (tL 1 c81 o4 (tT 2 (told_true h32) (fO ((0:Int)≤(0:Int)) (fP (Int.toNat (0:Int) < (List.map c81 o4).length) (by (first | omega | (simp only [List.length_map];omega))) (fR 3 (fP (E.rowAt { ver:=0,ty:=81,k:=BK.row (3) (List.map c81 o4):Blk } (0) (c81 o4[0]!)) ?g24 (tT 8 (told_seq:AV.b (o4[0]!.sku.toList == { data:=#[]:ByteArray }.toList)=AV.b (decide (o4[0]!.sku={ data:=#[]:ByteArray }))) (tD 9 (decide (o4[0]!.sku={ data:=#[]:ByteArray })) ((0:Int) < (↑o4.length:Int)∧o4[0]!.sku={ data:=#[]:ByteArray }) (by simp only [eq_true h32,tsl]) (oR 7 (c81 o4[0]!) z0))))))))) ?_;rotate_left
 exact ⟨rfl,by kernel_rfl⟩
 refine rG cx [5,81] [1005] (tL 1 c81 o4 (tT 2 (told_false h32) (tD 9 false ((0:Int) < (↑o4.length:Int)∧o4[0]!.sku={ data:=#[]:ByteArray }) (by simp only [eq_false h32,tsl]) z0))) ?_
 exact ⟨rfl,by kernel_rfl⟩
 refine sn<|dC ((0:Int) < (↑o4.length:Int)∧o4[0]!.sku={ data:=#[]:ByteArray }) (fun h33=>?_) fun h33=>?_
 refine rG cx [5] [1005] (fO ((0:Int)≤(0:Int)) (fP (Int.toNat (0:Int) < (List.map c81 o4).length) (by (first | omega | (simp only [List.length_map];omega))) (fR 3 (fP (E.rowAt { ver:=0,ty:=81,k:=BK.row (3) (List.map c81 o4):Blk } (0) (c81 o4[0]!)) ?g25 (fP (0+(3:Nat)≤(c81 o4[0]!).length) ?g26 (fT (con157 (o4[0]!) ?g27) (fO ((0:Int)≤(0:Int)) (fP (Int.toNat (0:Int) < (List.map c81 o4).length) (by (first | omega | (simp only [List.length_map];omega))) (fR 3 (fP ((List.map c81 o4)[0]?=some (c81 o4[0]!)) (by ((try simp only [Nat.mul_one,Nat.add_zero,Nat.zero_add]);with_reducible refine get_map ?_;omega)) (fR (3:Nat) (fP (0+(3:Nat)≤3) (by (first | omega | (simp only [List.length_map];omega))) (fP ((List.map c81 o4).set (0) (List.take (0) (c81 o4[0]!)++cellsA (AV.agg [AV.s { sku:=o4[0]!.sku,past:=normP o4[0]!.past:Record }.sku,AV.sl (List.map c3 { sku:=o4[0]!.sku,past:=normP o4[0]!.past:Record }.past.vec),AV.sl (List.map c104 { sku:=o4[0]!.sku,past:=normP o4[0]!.past:Record }.past.cloud)])++List.drop (0+(3:Nat)) (c81 o4[0]!))=List.map c81 (o4.set (0) { sku:=o4[0]!.sku,past:=normP o4[0]!.past:Record })) (by (with_reducible refine set_map ?_;kernel_rfl)) (oR 3 (c81 o4[0]!) (oA 4 (.agg [.s ({ sku:=o4[0]!.sku,past:=normP o4[0]!.past:Record }.sku),.sl (List.map c3 { sku:=o4[0]!.sku,past:=normP o4[0]!.past:Record }.past.vec),.sl (List.map c104 { sku:=o4[0]!.sku,past:=normP o4[0]!.past:Record }.past.cloud)]) (oV 6 { row:=(c81 o4[0]!),rows:=some (List.map c81 (o4.set (0) { sku:=o4[0]!.sku,past:=normP o4[0]!.past:Record })) } z0)))))))))))))))) ?_;rotate_left 3
 refine sn<|sq<|rG cx [2,3] [1005] z0<|sn<|rT<|qR (.tup [.sl (List.map c81 (o4.set (0) { sku:=o4[0]!.sku,past:=normP o4[0]!.past:Record })),.i .i64 ((0:Int))]) (AVle.tup (ZLe.cons (AVle.eq (show AV.sl (List.map c81 (o4.set (0) { sku:=o4[0]!.sku,past:=normP o4[0]!.past:Record }))=AV.sl (List.map c81 (foldV rs).1) from ?g29)) (ZLe.cons (AVle.eq (show AV.i .i64 (0:Int)=AV.i .i64 (foldV rs).2 from ?g28)) ZLe.nil)));rotate_left 2
 refine sK<|sn<|sq<|rG cx [2,3] [1005] z0<|sn<|rT<|qR (.tup [.sl (List.map c81 o4),.i .i64 ((0:Int))]) (AVle.tup (ZLe.cons (AVle.eq (show AV.sl (List.map c81 o4)=AV.sl (List.map c81 (foldV rs).1) from ?g31)) (ZLe.cons (AVle.eq (show AV.i .i64 (0:Int)=AV.i .i64 (foldV rs).2 from ?g30)) ZLe.nil)));rotate_left 2
 revert hh0;rotate_left
 revert hh0;rotate_left
 revert hh0;rotate_left
 revert hh0 i1 v2 cc3 o4 hh6 hh7 h8 h9 h10 h11 h12;rotate_left
 revert hh0 i1 v2 cc3 o4 hh6 hh7 h8 h9 h10 h11 h12 j13 v14 c15 o16 p17 h19 h20 h21 h22 h23 h24 h27;rotate_left
 revert hh0 i1 v2 cc3 o4 hh6 hh7 h8 h9 h10 h11 h12 j13 v14 c15 o16 p17 h19 h20 h21 h22 h23 h24 h27;rotate_left
 revert hh0 i1 v2 cc3 o4 hh6 hh7 h8 h9 h10 h11 h12 j13 v14 c15 o16 p17 h19 h20 h21 h22 h23 h24 h27;rotate_left
 revert hh0 i1 v2 cc3 o4 hh6 hh7 h8 h9 h10 h11 h12 j13 v14 c15 o16 p17 h19 h20 h21 h22 h23 h24 h27;rotate_left
 revert hh0 i1 v2 cc3 o4 hh6 hh7 h8 h9 h10 h11 h12 j13 v14 c15 o16 p17 h19 h20 h21 h22 h23 h24 h27 h28;rotate_left
 revert hh0 i1 v2 cc3 o4 hh6 hh7 h8 h9 h10 h11 h12 j13 v14 c15 o16 p17 h19 h20 h21 h22 h23 h24 h27 h28 h29;rotate_left
 revert hh0 i1 v2 cc3 o4 hh6 hh7 h8 h9 h10 h11 h12 j13 v14 c15 o16 p17 h19 h20 h21 h22 h23 h24 h27 h28 h29;rotate_left
 revert hh0 i1 v2 cc3 o4 hh6 hh7 h8 h9 h10 h11 h12 j13 v14 c15 o16 p17 h19 h20 h21 h22 h23 h24 h27 h28 h29;rotate_left
 revert hh0 i1 v2 cc3 o4 hh6 hh7 h8 h9 h10 h11 h12 j13 v14 c15 o16 p17 h19 h20 h21 h22 h23 h24 h27 h28 h29;rotate_left
 revert hh0 i1 v2 cc3 o4 hh6 hh7 h8 h9 h10 h11 h12 j13 v14 c15 o16 p17 h19 h20 h21 h22 h23 h24 h27 h28 h29;rotate_left
 revert hh0 i1 v2 cc3 o4 hh6 hh7 h8 h9 h10 h11 h12 j13 v14 c15 o16 p17 h19 h20 h21 h22 h23 h24 h27 h28 h29;rotate_left
 revert hh0 i1 v2 cc3 o4 hh6 hh7 h8 h9 h10 h11 h12 j13 v14 c15 o16 p17 h19 h20 h21 h22 h23 h24 h27 h28;rotate_left
 revert hh0 i1 v2 cc3 o4 hh6 hh7 h8 h9 h10 h11 h12 j13 v14 c15 o16 p17 h19 h20 h21 h22 h23 h24 h27 h28;rotate_left
 revert hh0 i1 v2 cc3 o4 hh6 hh7 h8 h9 h10 h11 h12 j13 v14 c15 o16 p17 h19 h20 h21 h22 h23 h24 h27 h28;rotate_left
 revert hh0 i1 v2 cc3 o4 hh6 hh7 h8 h9 h10 h11 h12 j13 v14 c15 o16 p17 h19 h20 h21 h22 h23 h24 h27 h28 h30;rotate_left
 revert hh0 i1 v2 cc3 o4 hh6 hh7 h8 h9 h10 h11 h12 j13 v14 c15 o16 p17 h19 h20 h21 h22 h23 h24 h27 h28 h30;rotate_left
 revert hh0 i1 v2 cc3 o4 hh6 hh7 h8 h9 h10 h11 h12 j13 v14 c15 o16 p17 h19 h20 h21 h22 h23 h24 h27 h28 h30;rotate_left
 revert hh0 i1 v2 cc3 o4 hh6 hh7 h8 h9 h10 h11 h12 j13 v14 c15 o16 p17 h19 h20 h21 h22 h23 h24 h27 h28 h30;rotate_left
 revert hh0 i1 v2 cc3 o4 hh6 hh7 h8 h9 h10 h11 h12 j13 v14 c15 o16 p17 h19 h20 h21 h22 h23 h24 h27 h28 h30;rotate_left
 revert hh0 i1 v2 cc3 o4 hh6 hh7 h8 h9 h10 h11 h12 j13 v14 c15 o16 p17 h19 h20 h21 h22 h23 h24 h27 h28 h30;rotate_left
 revert hh0 i1 v2 cc3 o4 hh6 hh7 h8 h9 h10 h11 h12 h32;rotate_left
 revert hh0 i1 v2 cc3 o4 hh6 hh7 h8 h9 h10 h11 h12 h33;rotate_left
 revert hh0 i1 v2 cc3 o4 hh6 hh7 h8 h9 h10 h11 h12 h33;rotate_left
 revert hh0 i1 v2 cc3 o4 hh6 hh7 h8 h9 h10 h11 h12 h33;rotate_left
 revert hh0 i1 v2 cc3 o4 hh6 hh7 h8 h9 h10 h11 h12 h33;rotate_left
 revert hh0 i1 v2 cc3 o4 hh6 hh7 h8 h9 h10 h11 h12 h33;rotate_left
 revert hh0 i1 v2 cc3 o4 hh6 hh7 h8 h9 h10 h11 h12 h33;rotate_left
 revert hh0 i1 v2 cc3 o4 hh6 hh7 h8 h9 h10 h11 h12 h33;rotate_left
 case g0=>intro h;unfold foldV;rw [if_neg h]
 case g1=>intro h;unfold foldV;rw [if_neg h];rfl
 case g2=>intro h;exact ⟨by omega,by omega,by simp,by simp,rfl,fun r hr=>by cases hr⟩
 case g3=>intro h i v c o h0 h1 h2 h3 h4 h5 h6;exact ⟨rfl,rfl,rfl,by omega,by omega,by simp,fun k hk1 hk2=>by omega⟩
 case g4=>intro h i v c o h0 h1 h2 h3 h4 h5 h6 j v' c' o' ps e1 e2 e3 k0 k1 k2 k3;have:=gr_len k2;simp only [List.length_map,List.length_cons,List.length_nil,Go.maxLen];omega
 case g5=>intro h i v c o h0 h1 h2 h3 h4 h5 h6 j v' c' o' ps e1 e2 e3 k0 k1 k2 k3;have:=gr_len k2;simp only [List.length_map,List.length_cons,List.length_nil];omega
 case g6=>intro h i v c o h0 h1 h2 h3 h4 h5 h6 j v' c' o' ps e1 e2 e3 k0 k1 k2 k3;exact ⟨e1,e2,e3,by omega,by omega,gr_next h0 k0 k3.1 k3.2 k2⟩
 case g7=>intro h i v c o h0 h1 h2 h3 h4 h5 h6 j v' c' o' ps e1 e2 e3 k0 k1 k2 k3;have:=gr_tot k2;omega
 case g8=>intro h i v c o h0 h1 h2 h3 h4 h5 h6 j v' c' o' ps e1 e2 e3 k0 k1 k2 k3 k4;have:=join_sz ps;omega
 case g9=>intro h i v c o h0 h1 h2 h3 h4 h5 h6 j v' c' o' ps e1 e2 e3 k0 k1 k2 k3 k4 k5;subst e3;simp only [List.length_map,List.length_cons,List.length_nil,Go.maxLen];omega
 case g10=>intro h i v c o h0 h1 h2 h3 h4 h5 h6 j v' c' o' ps e1 e2 e3 k0 k1 k2 k3 k4 k5;subst e3;simp only [List.length_map,List.length_cons,List.length_nil];omega
 case g11=>intro h i v c o h0 h1 h2 h3 h4 h5 h6 j v' c' o' ps e1 e2 e3 k0 k1 k2 k3 k4 k5;have:=(gr_end h0 h6 k0 k1 k3 k2).1;omega
 case g13=>intro h i v c o h0 h1 h2 h3 h4 h5 h6 j v' c' o' ps e1 e2 e3 k0 k1 k2 k3 k4 k5;have:=(gr_end h0 h6 k0 k1 k3 k2).1;omega
 case g12 =>
  intro h i v c o h0 h1 h2 h3 h4 h5 h6 j v' c' o' ps e1 e2 e3 k0 k1 k2 k3 k4 k5
  have k4':rs[i.toNat]!.sku=noneS:=k4
  have g:=fo_next h0 h6 k0 k1 k3 k2 h4
  have g2:=(gr_end h0 h6 k0 k1 k3 k2).1
  rw [if_pos k4',if_neg (by rw [if_pos k4'];exact k5),if_pos k4'] at g
  subst e3
  refine ⟨by omega,by omega,by rw [List.length_append,List.length_singleton];omega,join_sz ps,g,fun r hr=>?_⟩
  rcases List.mem_append.1 hr with hr | hr
  ·exact h5 r hr
  ·have:r=⟨rs[i.toNat]!.sku,joinP ps⟩:=by simpa using hr
   subst this
   exact join_form ps
 case g14 =>
  intro h i v c o h0 h1 h2 h3 h4 h5 h6 j v' c' o' ps e1 e2 e3 k0 k1 k2 k3 k4 k5
  have k4':rs[i.toNat]!.sku=noneS:=k4
  have g:=fo_next h0 h6 k0 k1 k3 k2 h4
  have g2:=(gr_end h0 h6 k0 k1 k3 k2).1
  rw [if_pos k4',if_pos (by rw [if_pos k4'];exact Classical.not_not.1 k5)] at g
  subst e3
  exact ⟨by omega,by omega,by omega,join_sz ps,g,h5⟩
 case g15=>intro h i v c o h0 h1 h2 h3 h4 h5 h6 j v' c' o' ps e1 e2 e3 k0 k1 k2 k3 k4;have:=join_sz ps;omega
 case g16=>intro h i v c o h0 h1 h2 h3 h4 h5 h6 j v' c' o' ps e1 e2 e3 k0 k1 k2 k3 k4;subst e2;simp only;omega
 case g17=>intro h i v c o h0 h1 h2 h3 h4 h5 h6 j v' c' o' ps e1 e2 e3 k0 k1 k2 k3 k4;have:=minus_sz (joinP ps) ⟨v',c'⟩;omega
 case g18=>intro h i v c o h0 h1 h2 h3 h4 h5 h6 j v' c' o' ps e1 e2 e3 k0 k1 k2 k3 k4 k5;subst e3;simp only [List.length_map,List.length_cons,List.length_nil,Go.maxLen];omega
 case g19=>intro h i v c o h0 h1 h2 h3 h4 h5 h6 j v' c' o' ps e1 e2 e3 k0 k1 k2 k3 k4 k5;subst e3;simp only [List.length_map,List.length_cons,List.length_nil];omega
 case g20=>intro h i v c o h0 h1 h2 h3 h4 h5 h6 j v' c' o' ps e1 e2 e3 k0 k1 k2 k3 k4 k5;have:=(gr_end h0 h6 k0 k1 k3 k2).1;omega
 case g22=>intro h i v c o h0 h1 h2 h3 h4 h5 h6 j v' c' o' ps e1 e2 e3 k0 k1 k2 k3 k4 k5;have:=(gr_end h0 h6 k0 k1 k3 k2).1;omega
 case g21 =>
  intro h i v c o h0 h1 h2 h3 h4 h5 h6 j v' c' o' ps e1 e2 e3 k0 k1 k2 k3 k4 k5
  have k4':¬ rs[i.toNat]!.sku=noneS:=k4
  have g:=fo_next h0 h6 k0 k1 k3 k2 h4
  have g2:=(gr_end h0 h6 k0 k1 k3 k2).1
  subst e1 e2 e3
  rw [if_neg k4',if_neg (by rw [if_neg k4'];exact k5),if_neg k4'] at g
  refine ⟨by omega,by omega,by rw [List.length_append,List.length_singleton];omega,h3,g,fun r hr=>?_⟩
  rcases List.mem_append.1 hr with hr | hr
  ·exact h5 r hr
  ·have:r=⟨rs[i.toNat]!.sku,minusP (joinP ps) ⟨v',c'⟩⟩:=by simpa using hr
   subst this
   exact minus_form _ _
 case g23 =>
  intro h i v c o h0 h1 h2 h3 h4 h5 h6 j v' c' o' ps e1 e2 e3 k0 k1 k2 k3 k4 k5
  have k4':¬ rs[i.toNat]!.sku=noneS:=k4
  have g:=fo_next h0 h6 k0 k1 k3 k2 h4
  have g2:=(gr_end h0 h6 k0 k1 k3 k2).1
  subst e1 e2 e3
  rw [if_neg k4',if_pos (by rw [if_neg k4'];exact Classical.not_not.1 k5)] at g
  exact ⟨by omega,by omega,by omega,h3,g,h5⟩
 case g24=>intro h i v c o h0 h1 h2 h3 h4 h5 h6 h7;exact row_head rfl h7 rfl
 case g25=>intro h i v c o h0 h1 h2 h3 h4 h5 h6 h7;exact row_head rfl h7.1 rfl
 case g26=>intro h i v c o h0 h1 h2 h3 h4 h5 h6 h7;exact Nat.le_refl 3
 case g27 =>
  intro h i v c o h0 h1 h2 h3 h4 h5 h6 h7
  have:=norm_sz (h5 o[0]! (bang_in (by omega)))
  unfold szR
  omega
 case g28=>intro h i v c o h0 h1 h2 h3 h4 h5 h6 h7;unfold foldV;rw [if_pos (Classical.not_not.1 h)]
 case g29 =>
  intro h i v c o h0 h1 h2 h3 h4 h5 h6 h7
  have e:(⟨o[0]!.sku,normP o[0]!.past⟩:Record)=o[0]!:=by
   have:=h5 o[0]! (bang_in (by omega))
   generalize o[0]! = r at *
   cases r
   simp only at this
   rw [← this]
  have e2:o.set 0 o[0]! = o:=by
   cases o with
   | nil=>rfl
   | cons x l=>rfl
  unfold foldV
  rw [if_pos (Classical.not_not.1 h),← fo_end h6 h4]
  show AV.sl (List.map c81 (o.set 0 ⟨o[0]!.sku,normP o[0]!.past⟩))=_
  rw [e,e2]
 case g30=>intro h i v c o h0 h1 h2 h3 h4 h5 h6 h7;unfold foldV;rw [if_pos (Classical.not_not.1 h)]
 case g31 =>
  intro h i v c o h0 h1 h2 h3 h4 h5 h6 h7
  unfold foldV
  rw [if_pos (Classical.not_not.1 h),← fo_end h6 h4]
theorem con69 (es:List Entry) (rs:List Record) (hb:szRs rs) (ht:totR rs*72≤140737488350000):Con Tryz.prog 69 [.sl (es.map c45),.sl (rs.map c81)] (.tup [.sl ((applyV es rs).1.map c45),.i .i64 (applyV es rs).2]) :=
 by
 have hl:lstE es=0→es.length≤16000000000:=fun h=>okL_len (lst_ok h)
 have hf:recE rs=0→(foldV rs).1=foldG ⟨[],[]⟩ [] rs:=fun h=>by unfold foldV;rw [if_pos h]
 have no:¬lstE es=0∨¬recE rs=0→¬ (lstE es=0∧recE rs=0):=fun h k=>by rcases h with h | h;exact h k.1;exact h k.2
 have yes:¬ (¬lstE es=0∨¬recE rs=0)→lstE es=0∧recE rs=0:=fun h=>⟨Classical.not_not.1 fun k=>h (.inl k),Classical.not_not.1 fun k=>h (.inr k)⟩
 refine con_lens 0 (c45) (es) (by kernel_rfl) Go.Proofs.Tryz.func69 (by kernel_rfl) fun hl_0=>con_lens 1 (c81) (rs) (by kernel_rfl) Go.Proofs.Tryz.func69 (by kernel_rfl) fun hl_1=>st_con tab_ok (by kernel_rfl) [.tmp 4,.tmp 5] 40 Go.Proofs.Tryz.func69 (by kernel_rfl) (by kernel_rfl) ?_
 intro e0 cx
 refine sq<|rG cx [0,1] [] z0<|sn<|sq<|sq<|st_join (σ':=⟨[(0,.sl (List.map c45 es)),(1,.sl (List.map c81 rs)),(18,.b (decide (¬lstE es=(0:Int)∨¬recE rs=(0:Int))))],[]⟩) ?_ ?_
 refine st_split (¬lstE es=(0:Int)) (fun h_1=>?_) (fun h_1=>?_)
 refine rG cx [0,1,18] [] (fT (con65 (es)) (tT 2 (told_neqt h_1:AV.b (lstE es != (0:Int))=AV.b true) (tD 7 true (¬lstE es=(0:Int)∨¬recE rs=(0:Int)) (by simp only [eq_false h_1,tsl]) (oA 1 (.i .i64 (lstE es)) z0)))) ?_
 exact ⟨rfl,by kernel_rfl⟩
 refine rG cx [0,1,18] [] (fT (con65 (es)) (tN 2 (lstE es) (0:Int) (tT 3 (told_false h_1) (fT (con83 (rs) (by (with_reducible assumption))) (tN 6 (recE rs) (0:Int) (tT 7 (by first | (simp only [eq_false h_1,tsl];done) | simp_all:AV.b (decide ¬recE rs=(0:Int))=AV.b (decide (¬lstE es=(0:Int)∨¬recE rs=(0:Int)))) (oA 1 (.i .i64 (lstE es)) (oA 5 (.i .i64 (recE rs)) z0)))))))) ?_
 exact ⟨rfl,by kernel_rfl⟩
 refine sn<|dC (¬lstE es=(0:Int)∨¬recE rs=(0:Int)) (fun hh2=>?_) fun hh2=>?_
 refine sq<|rG cx [4,5] [] z0<|sn<|rT<|nR<|qR (.tup [.nl,.i .i64 ((1:Int))]) (AVle.tup (ZLe.cons (AVle.nl' (show List.map c45 (applyV es rs).1=[] from ?g1)) (ZLe.cons (AVle.eq (show AV.i .i64 (1:Int)=AV.i .i64 (applyV es rs).2 from ?g0)) ZLe.nil)));rotate_left 2
 refine sK<|sn<|sq<|rG cx [0,6] [] (fT (con116 (rs) (by (with_reducible assumption)) (by (with_reducible assumption))) (oA 1 (.tup [.sl (List.map c81 (foldV rs).1),.i .i64 ((foldV rs).2)]) z0))<|sn<|sq<|rG cx [0,6,8] [] z0<|sn<|sq<|sq<|rG cx [6,8,24,25,26] [] (tL 1 c45 es z0)<|sn<|bL 0<|awp_adopt 8 1008 45 4 (σ':=⟨[(6,.sl (List.map c81 (foldV rs).1)),(8,.own 1008 0),(24,.sl (List.map c45 es)),(25,.i .i64 ((↑es.length:Int))),(26,.i .i64 ((0:Int)))],[(1008,⟨0,45,.row 4 (List.map c45 [])⟩)]⟩) (by kernel_rfl)<|st_loop (X:=Int×List Entry) (fun x=>⟨[(6,.sl (List.map c81 (foldV rs).1)),(8,.own 1008 0),(24,.sl (List.map c45 es)),(25,.i .i64 ((↑es.length:Int))),(26,.i .i64 (x.1))],[(1008,⟨0,45,.row 4 (List.map c45 x.2)⟩)]⟩) (fun x ↦ decAp es x.1 x.2) (fun x ↦ invAp es (foldG { vec:=[],cloud:=[]:Past } [] rs) x.1 x.2) [6,8,24,25,26] [1008] (((0:Int),[])) (by kernel_rfl) (by kernel_rfl) (show invAp es (foldG { vec:=[],cloud:=[]:Past } [] rs) (0:Int) [] from ?g2) ?_;rotate_left
 rintro ⟨i3,o4⟩ h_5
 obtain ⟨h6,h7,h8,h9⟩:(0:Int)≤i3∧i3≤(↑es.length:Int)∧(↑o4.length:Int)≤i3∧o4=List.filter (fun e ↦ decide (barsR (foldG { vec:=[],cloud:=[]:Past } [] rs) e=(0:Int))) (List.take i3.toNat es):=h_5
 refine sq<|rG cx [6,8,24,25,26,27] [1008] (tB 0 (i3 < (↑es.length:Int)) z0)<|sn<|sq<|dC (i3 < (↑es.length:Int)) (fun h10=>?_) fun h10=>?_
 refine sK<|sn<|sq<|bL 1<|sq<|rG cx [6,8,24,25,26,10] [1008,10] (fA ((0:Int)≤i3) (fG c45 es i3.toNat (fR (4:Nat) (fN 4 4 (oR 0 (c45 es[i3.toNat]!) z0)))))<|sn<|sq<|rG cx [6,8,24,25,26,10,33] [1008,10] (fT (con117 ((foldV rs).1) (es[i3.toNat]!)) (tB 3 (barsR (foldV rs).1 es[i3.toNat]! = (0:Int)) (oA 2 (.i .i64 (barsR (foldV rs).1 es[i3.toNat]!)) z0)))<|sn<|dC (barsR (foldV rs).1 es[i3.toNat]! = (0:Int)) (fun h11=>?_) fun h11=>?_
 refine rG cx [6,8,24,25,26] [1008] (fR (45:Nat) (fR 4 (fR (4:Nat) (fX c45 [es[i3.toNat]!] 4 (fS c45 o4 c45 [es[i3.toNat]!] (fP (((List.map c45 o4).length+(List.map c45 [es[i3.toNat]!]).length)*(40:Nat)≤(140737488355328:Nat)) ?g3 (fM c45 o4 [es[i3.toNat]!] (oV 3 { rows:=some (List.map c45 (o4++[es[i3.toNat]!])) } z0)))))))) ?_;rotate_left
 refine bN<|sn<|rG cx [6,8,24,25,26] [1008] (tW 0 (i3+(1:Int)) z0)<|sn<|loop_next ((i3+(1:Int),o4++[es[i3.toNat]!])) (by kernel_rfl) (show ((↑es.length:Int)-(i3+(1:Int))).toNat < ((↑es.length:Int)-i3).toNat from (by omega)) (show invAp es (foldG { vec:=[],cloud:=[]:Past } [] rs) (i3+(1:Int)) (o4++[es[i3.toNat]!]) from ?g4);rotate_left
 refine sK<|bN<|sn<|rG cx [6,8,24,25,26] [1008] (tW 0 (i3+(1:Int)) z0)<|sn<|loop_next ((i3+(1:Int),o4)) (by kernel_rfl) (show ((↑es.length:Int)-(i3+(1:Int))).toNat < ((↑es.length:Int)-i3).toNat from (by omega)) (show invAp es (foldG { vec:=[],cloud:=[]:Past } [] rs) (i3+(1:Int)) o4 from ?g5);rotate_left
 refine eX 0<|nE<|nE<|bH<|sn<|sq<|rG cx [4,5] [1008] z0<|sn<|rT<|qR (.tup [.sl (List.map c45 o4),.i .i64 ((0:Int))]) (AVle.tup (ZLe.cons (AVle.eq (show AV.sl (List.map c45 o4)=AV.sl (List.map c45 (applyV es rs).1) from ?g7)) (ZLe.cons (AVle.eq (show AV.i .i64 (0:Int)=AV.i .i64 (applyV es rs).2 from ?g6)) ZLe.nil)));rotate_left 2
 revert hh2;rotate_left
 revert hh2;rotate_left
 revert hh2;rotate_left
 revert hh2 i3 o4 h6 h7 h8 h9 h10 h11;rotate_left
 revert hh2 i3 o4 h6 h7 h8 h9 h10 h11;rotate_left
 revert hh2 i3 o4 h6 h7 h8 h9 h10 h11;rotate_left
 revert hh2 i3 o4 h6 h7 h8 h9 h10;rotate_left
 revert hh2 i3 o4 h6 h7 h8 h9 h10;rotate_left
 case g0=>intro h;unfold applyV;rw [if_neg (no h)]
 case g1=>intro h;unfold applyV;rw [if_neg (no h)];rfl
 case g2=>intro h;exact ⟨by omega,by omega,by simp,by simp⟩
 case g3=>intro h i o h0 h1 h2 h3 h4 h5;have:=hl (yes h).1;simp only [List.length_map,List.length_cons,List.length_nil];omega
 case g4 =>
  intro h i o h0 h1 h2 h3 h4 h5
  rw [hf (yes h).2] at h5
  refine ⟨by omega,by omega,by rw [List.length_append,List.length_singleton];omega,?_⟩
  rw [ap_step h0 h4 h3,if_pos h5]
 case g5 =>
  intro h i o h0 h1 h2 h3 h4 h5
  rw [hf (yes h).2] at h5
  refine ⟨by omega,by omega,by omega,?_⟩
  rw [ap_step h0 h4 h3,if_neg h5,List.append_nil]
 case g6=>intro h i o h0 h1 h2 h3 h4;unfold applyV;rw [if_pos (yes h)]
 case g7 =>
  intro h i o h0 h1 h2 h3 h4
  unfold applyV
  rw [if_pos (yes h),h3,List.take_of_length_le (by omega),ap_fold]
end Go.Proofs.YtaiepnaokhpmcaaGreat
namespace Go.Proofs.YtaiepnaokhpmcaaGreat
open Go.E
set_option maxRecDepth 100000
set_option maxHeartbeats 4000000
theorem dLt_iff {a b:Dot}:dLt a b=true↔a.rep < b.rep∨a.rep=b.rep∧a.num < b.num:=by simp [dLt]
theorem dLt_irr (a:Dot):¬ dLt a a=true:=by rw [dLt_iff];omega
theorem dLt_trans {a b c:Dot} (h1:dLt a b=true) (h2:dLt b c=true):dLt a c=true:=by rw [dLt_iff] at *;omega
theorem dLt_total {a b:Dot} (h1:¬ dLt a b=true) (h2:¬ dLt b a=true):a=b:=by
 rw [dLt_iff] at *
 cases a;cases b
 simp only at *
 congr 1 <;> omega
def upE (es:List Entry):Prop:=es.Pairwise (fun a b=>dLt a.dot b.dot=true)
def formE (es:List Entry):Prop:=(∀ e∈es,entE e=0)∧upE es
theorem okL_iff (es:List Entry):okL es=true↔formE es:=by
 constructor
 ·intro h
  refine ⟨fun e he=>?_,?_⟩
  ·obtain ⟨i,hi,rfl⟩:=List.mem_iff_getElem.1 he
   have:=(okL_at h hi).1
   rwa [getElem!_pos es i hi] at this
  ·unfold upE
   rw [List.pairwise_iff_getElem]
   have step:∀ n i:Nat,(hi:i+n+1 < es.length)→dLt es[i]!.dot es[i+n+1]!.dot=true:=by
    intro n
    induction n with
    | zero =>
     intro i hi
     have:=(okL_at h hi).2
     rcases this with k | k
     ·omega
     ·simpa using k
    | succ n ih =>
     intro i hi
     have h1:=ih i (by omega)
     have h2:=(okL_at h (i:=i+(n+1)+1) hi).2
     rcases h2 with k | k
     ·omega
     ·rw [show i+(n+1)+1-1=i+n+1 by omega] at k;exact dLt_trans h1 k
   intro i j hi hj hij
   have:=step (j-i-1) i (by omega)
   rw [show i+(j-i-1)+1=j by omega,getElem!_pos es i hi,getElem!_pos es j hj] at this
   exact this
 ·rintro ⟨h1,h2⟩
  unfold upE at h2
  rw [List.pairwise_iff_getElem] at h2
  unfold okL
  rw [allUp_iff]
  intro i hi
  rw [okAt_iff]
  refine ⟨h1 _ (bang_mem hi),?_⟩
  by_cases e:i=0
  ·exact .inl e
  ·refine .inr ?_
   have:=h2 (i-1) i (by omega) hi (by omega)
   rwa [getElem!_pos es (i-1) (by omega),getElem!_pos es i hi]
theorem lst_iff (es:List Entry):lstE es=0↔formE es:=by
 rw [← okL_iff]
 exact ⟨lst_ok,fun h=>by unfold lstE;rw [if_pos h]⟩
theorem formE_sub {l es:List Entry} (h:formE es) (hs:l.Sublist es):formE l:=⟨fun e he=>h.1 e (hs.subset he),List.Pairwise.sublist hs h.2⟩
theorem formE_dot {es:List Entry} (h:formE es) {x y:Entry} (hx:x∈es) (hy:y∈es) (hd:x.dot=y.dot):x=y:=by
 obtain ⟨i,hi,rfl⟩:=List.mem_iff_getElem.1 hx
 obtain ⟨j,hj,rfl⟩:=List.mem_iff_getElem.1 hy
 have hp:=List.pairwise_iff_getElem.1 h.2
 by_cases e:i=j
 ·subst e;rfl
 ·rcases Nat.lt_or_gt_of_ne e with e | e
  ·have:=hp i j hi hj e;rw [hd] at this;exact absurd this (dLt_irr _)
  ·have:=hp j i hj hi e;rw [hd] at this;exact absurd this (dLt_irr _)
theorem upE_unique:∀ {a b:List Entry},upE a→upE b→(∀ e,e∈a↔e∈b)→a=b
 | [],[],_,_,_=>rfl
 | [],y :: b,_,_,h=>by have:=(h y).2 (by simp);cases this
 | x :: a,[],_,_,h=>by have:=(h x).1 (by simp);cases this
 | x :: a,y :: b,ha,hb,h=>by
  have pa:=List.pairwise_cons.1 ha
  have pb:=List.pairwise_cons.1 hb
  have e:x=y:=by
   apply Classical.byContradiction
   intro hne
   have h1:x∈b:=by
    rcases List.mem_cons.1 ((h x).1 (by simp)) with k | k
    ·exact absurd k hne
    ·exact k
   have h2:y∈a:=by
    rcases List.mem_cons.1 ((h y).2 (by simp)) with k | k
    ·exact absurd k.symm hne
    ·exact k
   exact dLt_irr _ (dLt_trans (pa.1 y h2) (pb.1 x h1))
  subst e
  rw [upE_unique pa.2 pb.2 fun e=>?_]
  constructor
  ·intro he
   rcases List.mem_cons.1 ((h e).1 (by simp [he])) with k | k
   ·subst k;exact absurd (pa.1 e he) (dLt_irr _)
   ·exact k
  ·intro he
   rcases List.mem_cons.1 ((h e).2 (by simp [he])) with k | k
   ·subst k;exact absurd (pb.1 e he) (dLt_irr _)
   ·exact k
end Go.Proofs.YtaiepnaokhpmcaaGreat
namespace Go.Proofs.YtaiepnaokhpmcaaGreat
open Go.E
set_option maxRecDepth 100000
set_option maxHeartbeats 4000000
open Go Go.Sort Go.RowKit Go.Lib Go.Shelf Go.Proofs
section
variable {α : Type} [Inhabited α] {enc : α → List Value} {k blk off : Nat}
def SwapAt (sf:Nat) (sb:Array Value) (enc:α→List Value) (k blk off size:Nat):Prop :=
 ∀ (W:World) (dk:Array α),HoldsK enc k W blk off dk→dk.size=size→∀ i j:Nat,i < size→j < size→i≠j →
  (callFunc sf (#[.int .i64 i,.int .i64 j]++sb)).run Tryz.prog W=.ok (.value (.tuple #[])) ((W.setCells blk (off+i*k) (enc dk[j]!)).setCells blk (off+j*k) (enc dk[i]!))
def boxW (w:World) (g:Nat) (lb:Array Value) (sf:Nat) (sb:Array Value):World:=w.alloc (.cells #[.func (.func g) #[] lb,.func (.func sf) #[] sb] 204)
theorem boxW_size (w:World) (g:Nat) (lb:Array Value) (sf:Nat) (sb:Array Value):(boxW w g lb sf sb).heap.size=w.heap.size+1:=by simp [boxW]
theorem boxW_fam {w0:World} {d:Array α} (hH:HoldsK enc k w0 blk off d) (g:Nat) (lb:Array Value) (sf:Nat) (sb:Array Value):Fam enc k blk off w0 d (boxW w0 g lb sf sb):=(Fam.start hH).alloc _
theorem boxW_cell {w0:World} (hb:blk < w0.heap.size) (g:Nat) (lb:Array Value) (sf:Nat) (sb:Array Value) {W:World} {d':Array α} (h:Fam enc k blk off (boxW w0 g lb sf sb) d' W) :
  W.cell? ⟨w0.heap.size,0,none⟩=some (.func (.func g) #[] lb)∧W.cell? ⟨w0.heap.size,1,none⟩=some (.func (.func sf) #[] sb):=by
 constructor
 ·rw [h.cell (by show w0.heap.size < _;rw [boxW_size];omega) (by show w0.heap.size≠blk;omega)];simp [boxW]
 ·rw [h.cell (by show w0.heap.size < _;rw [boxW_size];omega) (by show w0.heap.size≠blk;omega)];simp [boxW]
set_option maxHeartbeats 4000000 in
theorem swapRange_walk (hk:∀ x,(enc x).length=k) (g:Nat) (lb:Array Value) (sf:Nat) (sb:Array Value) (w0:World) (d:Array α) (hswap:SwapAt sf sb enc k blk off d.size) (hH:HoldsK enc k w0 blk off d) (hb:blk < w0.heap.size)
  (a b n:Nat) (hab:a+n≤b) (hbn:b+n≤d.size) (hsz:d.size < 4611686018427387904) :
  Calls Tryz.prog 250 #[.agg #[.func (.func g) #[] lb,.func (.func sf) #[] sb],.int .i64 a,.int .i64 b,.int .i64 n] w0 fun e w' =>
   e=.returned (.tuple #[])∧∃ d',Fam enc k blk off w0 d' w'∧d'.size=d.size∧PermIn a (b+n) d d'∧∀ j,d'[j]! = d[swIx a b n j]!:=by
 have HF:Hid (Fam enc k blk off w0 d (boxW w0 g lb sf sb)):=boxW_fam hH g lb sf sb
 have hb1:blk < (boxW w0 g lb sf sb).heap.size:=by rw [boxW_size];omega
 have HH:Hid (HoldsK enc k (boxW w0 g lb sf sb) blk off d):=HF.out.holds hb hH rfl
 have HS:Hid (SwapAt sf sb enc k blk off d.size):=hswap
 clear hswap
 go_enter Tryz.func250,Tryz.ntmps250
 go_wp2
 go_loopw [8] (fun v8 wr=>∃ (i:Nat) (dk:Array α),v8=.int .i64 i∧i≤n∧Hid (dk.size=d.size∧Fam enc k blk off (boxW w0 g lb sf sb) dk wr∧PermIn a (b+n) d dk∧∀ j,dk[j]! = d[swIx a b i j]!)) (fun v8 _=>n-(intOf v8).toNat)
 case atStart=>exact ⟨0,d,by go_num,by omega,rfl,Fam.start HH.out,permIn_refl d _ _,fun j=>by rw [swIx_zero]⟩
 case round =>
  obtain ⟨i,dk,rfl,hin,HI⟩:=hrel
  have c:=(boxW_cell hb g lb sf sb HI.out.2.1).2
  go_wp2
  ·have hlt:i < n:=by omega
   have hs:=HS.out wr dk (HI.out.2.1.holds hb1 HH.out HI.out.1) HI.out.1 (a+i) (b+i) (by omega) (by omega) (by omega)
   rw [show ((a+i:Nat):Int)=(a:Int)+(i:Int) by omega,show ((b+i:Nat):Int)=(b:Int)+(i:Int) by omega] at hs
   rw [hs,Oper.upon_value]
   clear hs
   go_wp2
   go_roundw
   case rel =>
    obtain ⟨e1,e2,e3,e4⟩:=HI.out
    exact ⟨i+1,swp dk (a+i) (b+i),by go_num,by omega,by rw [Sort.size_swp];exact e1,e2.swap hk hb1 _ _ (by omega) (by omega),
     permIn_trans d dk _ _ _ e3 (swp_permIn dk a (b+n) (a+i) (b+i) (by omega) (by omega) (by omega) (by omega) (by omega)),sw_step (by omega) (by omega) e1 e4⟩
   case measure=>simp [intOf];omega
  ·go_end0
   obtain ⟨e1,e2,e3,e4⟩:=HI.out
   have hi:i=n:=by omega
   exact ⟨rfl,dk,HF.out.trans hb e2 e1,e1,e3,fun j=>by rw [e4 j,hi]⟩
set_option maxHeartbeats 4000000 in
theorem rotate_walk (hk:∀ x,(enc x).length=k) (g:Nat) (lb:Array Value) (sf:Nat) (sb:Array Value) (w0:World) (d:Array α) (hswap:SwapAt sf sb enc k blk off d.size) (hH:HoldsK enc k w0 blk off d) (hb:blk < w0.heap.size)
  (a m b:Nat) (ham:a < m) (hmb:m < b) (hbn:b≤d.size) (hsz:d.size < 4611686018427387904) :
  Calls Tryz.prog 242 #[.agg #[.func (.func g) #[] lb,.func (.func sf) #[] sb],.int .i64 a,.int .i64 m,.int .i64 b] w0 fun e w' =>
   e=.returned (.tuple #[])∧∃ d',Fam enc k blk off w0 d' w'∧d'.size=d.size∧PermIn a b d d'∧∀ j,d'[j]! = d[rotIx a m b j]!:=by
 have HF:Hid (Fam enc k blk off w0 d (boxW w0 g lb sf sb)):=boxW_fam hH g lb sf sb
 have hb1:blk < (boxW w0 g lb sf sb).heap.size:=by rw [boxW_size];omega
 have HH:Hid (HoldsK enc k (boxW w0 g lb sf sb) blk off d):=HF.out.holds hb hH rfl
 have HS:Hid (SwapAt sf sb enc k blk off d.size):=hswap
 have u:=run_underlying (P:=Tryz.prog) (tab_ok 204 _ rfl).1
 clear hswap
 go_enter Tryz.func242,Tryz.ntmps242
 go_wp2
 go_loopw [8,9] (fun v8 v9 wr=>∃ (i j:Nat) (dk:Array α),v8=.int .i64 i∧v9=.int .i64 j∧0 < i∧0 < j∧a+i≤m∧m+j≤b∧Hid (dk.size=d.size∧Fam enc k blk off (boxW w0 g lb sf sb) dk wr∧PermIn a b d dk∧∀ q,dk[rotIx (m-i) m (m+j) q]! = d[rotIx a m b q]!)) (fun v8 v9 _=>(intOf v8).toNat+(intOf v9).toNat)
 case atStart =>
  refine ⟨m-a,b-m,d,by go_num,by go_num,by omega,by omega,by omega,by omega,rfl,Fam.start HH.out,permIn_refl d _ _,fun q=>?_⟩
  rw [show m-(m-a)=a by omega,show m+(b-m)=b by omega]
 case round =>
  obtain ⟨i,j,dk,rfl,rfl,hi0,hj0,hi,hj,HI⟩:=hrel
  have c:=boxW_cell hb g lb sf sb HI.out.2.1
  have c0:=c.1
  have c1:=c.2
  clear c
  have hw:=HI.out.2.1.size
  by_cases hij:i=j
  ·subst hij
   have hc:=swapRange_walk hk g lb sf sb wr dk (HI.out.1 ▸ HS.out) (HI.out.2.1.holds hb1 HH.out HI.out.1) (by omega) (m-i) m i (by omega) (by rw [HI.out.1];omega) (by rw [HI.out.1];omega)
   rw [show ((m-i:Nat):Int)=(m:Int)-(i:Int) by omega] at hc
   have HC:=Box.mk hc
   clear hc
   go_wp2_with (go_at_call 250;refine HC.out.mono ?_;rintro e w' ⟨rfl,d',f1,f2,f3,f4⟩)
   go_end0
   obtain ⟨e1,e2,e3,e4⟩:=HI.out
   exact ⟨rfl,d',HF.out.trans hb (e2.trans hb1 f1 (by rw [f2,e1])) (by rw [f2,e1]),by rw [f2,e1],permIn_trans d dk d' _ _ e3 (perm_mono (by omega) (by omega) (by omega) f3),fun q=>by rw [f4 q,rot_same (by omega),e4 q]⟩
  ·by_cases hlt:j < i
   ·have hc:=swapRange_walk hk g lb sf sb wr dk (HI.out.1 ▸ HS.out) (HI.out.2.1.holds hb1 HH.out HI.out.1) (by omega) (m-i) m j (by omega) (by rw [HI.out.1];omega) (by rw [HI.out.1];omega)
    rw [show ((m-i:Nat):Int)=(m:Int)-(i:Int) by omega] at hc
    have HC:=Box.mk hc
    clear hc
    go_wp2_with (go_at_call 250;refine HC.out.mono ?_;rintro e w' ⟨rfl,d',f1,f2,f3,f4⟩)
    go_roundw
    case rel =>
     obtain ⟨e1,e2,e3,e4⟩:=HI.out
     exact ⟨i-j,j,d',by go_num,rfl,by omega,by omega,by omega,by omega,by rw [f2,e1],e2.trans hb1 f1 (by rw [f2]),permIn_trans d dk d' _ _ e3 (perm_mono (by omega) (by omega) (by omega) f3),fun q=>by rw [f4,rot_left (by omega) hj0 hlt,e4 q]⟩
    case measure=>simp [intOf];omega
   ·have hc:=swapRange_walk hk g lb sf sb wr dk (HI.out.1 ▸ HS.out) (HI.out.2.1.holds hb1 HH.out HI.out.1) (by omega) (m-i) (m+j-i) i (by omega) (by rw [HI.out.1];omega) (by rw [HI.out.1];omega)
    rw [show ((m-i:Nat):Int)=(m:Int)-(i:Int) by omega,show ((m+j-i:Nat):Int)=(m:Int)+(j:Int)-(i:Int) by omega] at hc
    have HC:=Box.mk hc
    clear hc
    go_wp2_with (go_at_call 250;refine HC.out.mono ?_;rintro e w' ⟨rfl,d',f1,f2,f3,f4⟩)
    go_roundw
    case rel =>
     obtain ⟨e1,e2,e3,e4⟩:=HI.out
     exact ⟨i,j-i,d',rfl,by go_num,by omega,by omega,by omega,by omega,by rw [f2,e1],e2.trans hb1 f1 (by rw [f2]),permIn_trans d dk d' _ _ e3 (perm_mono (by omega) (by omega) (by omega) f3),fun q=>by rw [f4,rot_right (by omega) hi0 (by omega),e4 q]⟩
    case measure=>simp [intOf];omega
def LessAt (g:Nat) (lb:Array Value) (enc:α→List Value) (k:Nat) (lt:α→α→Bool) (blk off size:Nat) (w0:World):Prop :=
 ∀ (W:World) (dk:Array α),Fam enc k blk off w0 dk W→dk.size=size→∀ i j:Nat,i < size→j < size →
  Calls Tryz.prog g (#[.int .i64 i,.int .i64 j]++lb) W fun e w'=>e=.returned (.bool (lt dk[i]! dk[j]!))∧Below W.heap.size W w'
theorem LessAt.on {g:Nat} {lb:Array Value} {lt:α→α→Bool} {size:Nat} {w0 W:World} {d:Array α} (h:LessAt g lb enc k lt blk off size w0) (hb:blk < w0.heap.size) (hF:Fam enc k blk off w0 d W) (hs:d.size=size):LessAt g lb enc k lt blk off size W :=
 fun W' dk hF' hs' i j hi hj=>h W' dk (hF.trans hb hF' (by omega)) hs' i j hi hj
set_option maxHeartbeats 4000000 in
theorem insertion_walk (hk:∀ x,(enc x).length=k) (lt:α→α→Bool) (g:Nat) (lb:Array Value) (sf:Nat) (sb:Array Value) (w0:World) (d:Array α) (hg:Callable Tryz.prog g) (hless:LessAt g lb enc k lt blk off d.size w0) (hswap:SwapAt sf sb enc k blk off d.size) (hH:HoldsK enc k w0 blk off d) (hb:blk < w0.heap.size)
  (a b:Nat) (hab:a≤b) (hbn:b≤d.size) (hsz:d.size < 4611686018427387904) :
  Calls Tryz.prog 220 #[.agg #[.func (.func g) #[] lb,.func (.func sf) #[] sb],.int .i64 a,.int .i64 b] w0 fun e w' =>
   e=.returned (.tuple #[])∧Fam enc k blk off w0 (Sort.insertionSort lt d a b) w':=by
 have HF:=Box.mk (boxW_fam hH g lb sf sb)
 have hb1:blk < (boxW w0 g lb sf sb).heap.size:=by rw [boxW_size];omega
 have HH:=Box.mk (HF.out.holds hb hH rfl)
 have HS:=Box.mk hswap
 have HL:=Box.mk (hless.on hb HF.out rfl)
 have eg:∀ args w,(callFunc g args).run Tryz.prog w=.ok (.enter g args) w:=fun args w=>run_callFunc hg w
 clear hswap hless
 go_enter Tryz.func220,Tryz.ntmps220
 go_wp2
 go_loopw [6] (fun vi wr=>∃ (i:Nat) (dk:Array α),vi=.int .i64 i∧a < i∧i≤b+1∧dk.size=d.size∧Box (Fam enc k blk off (boxW w0 g lb sf sb) dk wr)∧Box (insOuter lt a b i dk=insOuter lt a b (a+1) d)) (fun vi _=>b+1-(intOf vi).toNat)
 case atStart=>exact ⟨a+1,d,by go_num,by omega,by omega,rfl,⟨Fam.start HH.out⟩,⟨rfl⟩⟩
 case round =>
  obtain ⟨i,dk,rfl,hai,hib,hsk,HW,HO⟩:=hrel
  go_wp2
  ·go_loopw [7] (fun vj wr2=>∃ (j:Nat) (dj:Array α),vj=.int .i64 j∧a≤j∧j≤i∧dj.size=d.size∧Box (Fam enc k blk off (boxW w0 g lb sf sb) dj wr2)∧Box (insInner lt a j dj=insInner lt a i dk)) (fun vj _=>(intOf vj).toNat)
   case atStart=>exact ⟨i,dk,rfl,by omega,Nat.le_refl _,hsk,HW,⟨rfl⟩⟩
   case round =>
    obtain ⟨j,dj,rfl,haj,hji,hsj,HJ,HI⟩:=hrel
    have hlt:i < b:=by assumption
    have c:=boxW_cell hb g lb sf sb HJ.out
    have c0:=c.1
    have c1:=c.2
    clear c
    by_cases hja:a < j
    ·have hl:=HL.out wr dj HJ.out hsj j (j-1) (by omega) (by omega)
     rw [show (((j-1:Nat):Int))=(j:Int)-1 by omega] at hl
     cases hlv:lt dj[j]! dj[j-1]! with
     | true =>
      rw [hlv] at hl
      have HQ:=Box.mk hl
      clear hl
      go_wp2_with (go_at_fn g;refine HQ.out.mono ?_;rintro e w' ⟨rfl,hB⟩;have c2:=(boxW_cell hb g lb sf sb (HJ.out.below hB)).2;have FB:=Box.mk (HJ.out.below hB);clear hB)
      have hs:=HS.out w' dj (FB.out.holds hb1 HH.out hsj) hsj j (j-1) (by omega) (by omega) (by omega)
      rw [show (((j-1:Nat):Int))=(j:Int)-1 by omega] at hs
      rw [hs,Oper.upon_value]
      clear hs
      go_wp2
      go_roundw
      case rel =>
       (repeat apply Exists.intro)
       refine ⟨⟨j-1,swp dj j (j-1),by congr 1 <;> omega,by omega,by omega,by rw [Sort.size_swp];exact hsj,⟨FB.out.swap hk hb1 _ _ (by omega) (by omega)⟩,⟨?_⟩⟩,by rw [decide_eq_true hlt,show ((j-1:Nat):Int)=(j:Int)-1 by omega]⟩
       rw [← HI.out,insInner_go lt a j dj hja hlv]
      case measure=>simp [intOf];omega
     | false =>
      rw [hlv] at hl
      have HQ:=Box.mk hl
      clear hl
      go_wp2_with (go_at_fn g;refine HQ.out.mono ?_;rintro e w' ⟨rfl,hB⟩)
      go_roundw
      case rel=>exact ⟨i+1,dj,by go_num,by omega,by omega,hsj,⟨HJ.out.below hB⟩,⟨by rw [← HO.out,insOuter_go _ _ _ _ _ hlt,← HI.out,insInner_stop _ _ _ _ (Or.inr hlv)]⟩⟩
      case measure=>simp [intOf];omega
    ·go_wp2
     go_roundw
     case rel=>exact ⟨i+1,dj,by go_num,by omega,by omega,hsj,HJ,⟨by rw [← HO.out,insOuter_go _ _ _ _ _ hlt,← HI.out,insInner_stop _ _ _ _ (Or.inl (by omega))]⟩⟩
     case measure=>simp [intOf];omega
  ·have hge:¬ i < b:=by omega
   go_end0
   exact ⟨rfl,by unfold Sort.insertionSort;rw [← HO.out,insOuter_stop _ _ _ _ _ hge];exact HF.out.trans hb HW.out hsk⟩
end
end Go.Proofs.YtaiepnaokhpmcaaGreat
namespace Go.Proofs.YtaiepnaokhpmcaaGreat
open Go.E
set_option maxRecDepth 100000
set_option maxHeartbeats 4000000
open Go Go.Sort Go.RowKit Go.Lib Go.Shelf Go.Proofs
section
variable {α : Type} [Inhabited α] {enc : α → List Value} {k blk off : Nat}
section
variable {lt0 lt : α → α → Bool} {d dA dB dC : Array α} {a m b start h h' : Nat}
theorem so_le (hO:SWO lt) (hs:SortedIn lt a b d) {i j:Nat} (h1:a≤i) (h2:i≤j) (h3:j < b):lt d[j]! d[i]! = false:=by
 rcases Nat.lt_or_ge i j with h | h
 ·exact hs i j h1 h h3
 ·rw [show i=j by omega];exact hO.irrefl _
theorem srA_t (hO:SWO lt) (hs:SortedIn lt m b d) {x:α} (h1:h < b) (ht:lt d[h]! x=true) (h2:m≤h') (h3:h'≤h):lt d[h']! x=true:=by
 cases hc:lt d[h']! x with
 | true=>rfl
 | false=>rw [hO.ntrans _ _ _ (so_le hO hs h2 h3 h1) hc] at ht;cases ht
theorem srA_f (hO:SWO lt) (hs:SortedIn lt m b d) {x:α} (h1:m≤h) (ht:lt d[h]! x=false) (h2:h≤h') (h3:h' < b):lt d[h']! x=false:=hO.ntrans _ _ _ (so_le hO hs h1 h2 h3) ht
theorem srB_f (hO:SWO lt) (hs:SortedIn lt a m d) {x:α} (h1:h < m) (ht:lt x d[h]! = false) (h2:a≤h') (h3:h'≤h):lt x d[h']! = false:=hO.ntrans _ _ _ ht (so_le hO hs h2 h3 h1)
theorem srB_t (hO:SWO lt) (hs:SortedIn lt a m d) {x:α} (h1:a≤h) (ht:lt x d[h]! = true) (h2:h≤h') (h3:h' < m):lt x d[h']! = true:=by
 cases hc:lt x d[h']! with
 | true=>rfl
 | false=>rw [hO.ntrans _ _ _ hc (so_le hO hs h1 h2 h3)] at ht;cases ht
theorem srC_f (hO:SWO lt) (hs1:SortedIn lt a m d) (hs2:SortedIn lt m b d) {p c c':Nat} (hc:c < m) (hpc:m≤p-c) (ht:lt d[p-c]! d[c]! = false) (h2:a≤c') (h3:c'≤c) (h4:p-c' < b):lt d[p-c']! d[c']! = false :=
 hO.ntrans _ _ _ (hO.ntrans _ _ _ (so_le hO hs2 hpc (by omega) h4) ht) (so_le hO hs1 h2 h3 hc)
theorem srC_t (hO:SWO lt) (hs1:SortedIn lt a m d) (hs2:SortedIn lt m b d) {p c c':Nat} (hc:a≤c) (hpc:p-c < b) (ht:lt d[p-c]! d[c]! = true) (h2:c≤c') (h3:c' < m) (h4:m≤p-c'):lt d[p-c']! d[c']! = true:=by
 cases hh:lt d[p-c']! d[c']! with
 | true=>rfl
 | false=>rw [hO.ntrans _ _ _ (hO.ntrans _ _ _ (so_le hO hs2 h4 (by omega) hpc) hh) (so_le hO hs1 hc h2 h3)] at ht;cases ht
theorem rotIx_id {a m b q:Nat} (h:a=m∨m=b) (h1:a≤m) (h2:m≤b):rotIx a m b q=q:=by
 unfold rotIx;rcases h with h | h
 ·subst h;split
  ·omega
  ·rw [if_neg (by omega)]
 ·subst h;rw [if_neg (by omega)];split <;> omega
theorem ord_cut (ham:a < m) (hmb:m < b) (hC:Cut lt a m b start d) (hd:∀ q,dA[q]! = d[rotIx start m ((a+b) / 2+m-start) q]!) (ho:∀ p q,a≤p→p < m→m≤q→q < b→lt0 d[q]! d[p]! = lt d[q]! d[p]!) :
  (∀ p q,a≤p→p < start→start≤q→q < (a+b) / 2→lt0 dA[q]! dA[p]! = lt dA[q]! dA[p]!)∧(∀ p q,(a+b) / 2≤p→p < (a+b) / 2+m-start→(a+b) / 2+m-start≤q→q < b→lt0 dA[q]! dA[p]! = lt dA[q]! dA[p]!):=by
 obtain ⟨c1,c2,c3,c4,c5,c6⟩:=hC
 clear c5 c6
 constructor
 ·intro p q h1 h2 h3 h4
  rw [hd p,hd q]
  have e1:rotIx start m ((a+b) / 2+m-start) p=p:=by unfold rotIx;rw [if_neg (by omega),if_neg (by omega)]
  have e2:rotIx start m ((a+b) / 2+m-start) q=q-start+m:=by unfold rotIx;rw [if_pos (by omega)]
  rw [e1,e2]
  exact ho _ _ h1 (by omega) (by omega) (by omega)
 ·intro p q h1 h2 h3 h4
  rw [hd p,hd q]
  have e1:rotIx start m ((a+b) / 2+m-start) p=p-((a+b) / 2+m-start-m):=by unfold rotIx;rw [if_neg (by omega),if_pos (by omega)]
  have e2:rotIx start m ((a+b) / 2+m-start) q=q:=by unfold rotIx;rw [if_neg (by omega),if_neg (by omega)]
  rw [e1,e2]
  exact ho _ _ (by omega) (by omega) (by omega) (by omega)
theorem ord_keep {mid e:Nat} (h:PermIn a mid dA dB) (ho:∀ p q,mid≤p→p < e→e≤q→q < b→lt0 dA[q]! dA[p]! = lt dA[q]! dA[p]!):∀ p q,mid≤p→p < e→e≤q→q < b→lt0 dB[q]! dB[p]! = lt dB[q]! dB[p]!:=by
 intro p q h1 h2 h3 h4
 rw [h.2.1 p (by omega),h.2.1 q (by omega)];exact ho p q h1 h2 h3 h4
theorem sorted_keep {mid e f:Nat} (h:PermIn a mid dA dB) (hm:mid≤e) (hs:SortedIn lt e f dA):SortedIn lt e f dB:=sorted_same hs fun i h1 h2=>h.2.1 i (by omega)
theorem sym_end {mid:Nat} (ham:a≤mid) (hmb:mid≤b) (hb:b≤d.size) (hA:PermIn a b d dA) (hx:∀ p q,a≤p→p < mid→mid≤q→q < b→lt dA[q]! dA[p]! = false) (hB:PermIn a mid dA dB) (hBs:SortedIn lt a mid dB)
  (hC:PermIn mid b dB dC) (hCs:SortedIn lt mid b dC):PermIn a b d dC∧SortedIn lt a b dC:=by
 have sA:dA.size=d.size:=hA.1
 have sB:dB.size=dA.size:=hB.1
 refine ⟨permIn_trans d dA dC _ _ hA (permIn_trans dA dB dC _ _ (perm_mono (Nat.le_refl _) hmb (by omega) hB) (perm_mono ham (Nat.le_refl _) (by omega) hC)),?_⟩
 exact sorted_halves (sorted_same hBs fun i h1 h2=>hC.2.1 i (by omega)) hCs (cross_perm' ham hmb (by omega) hC (cross_perm ham hmb (by omega) hB hx))
end
set_option maxHeartbeats 8000000 in
theorem symMerge_walk (hk:∀ x,(enc x).length=k) (lt0 lt:α→α→Bool) (hO:SWO lt) (g:Nat) (lb:Array Value) (sf:Nat) (sb:Array Value) (hg:Callable Tryz.prog g):∀ (n:Nat) (w0:World) (d:Array α) (hless:LessAt g lb enc k lt0 blk off d.size w0) (hswap:SwapAt sf sb enc k blk off d.size) (hH:HoldsK enc k w0 blk off d) (hb:blk < w0.heap.size)
  (a m b:Nat) (ham:a < m) (hmb:m < b) (hbn:b≤d.size) (hsz:d.size < 4611686018427387904) (hn:b-a≤n)
  (hord:∀ p q,a≤p→p < m→m≤q→q < b→lt0 d[q]! d[p]! = lt d[q]! d[p]!) (hs1:SortedIn lt a m d) (hs2:SortedIn lt m b d),
  Calls Tryz.prog 221 #[.agg #[.func (.func g) #[] lb,.func (.func sf) #[] sb],.int .i64 a,.int .i64 m,.int .i64 b] w0 fun e w' =>
   e=.returned (.tuple #[])∧∃ d',Fam enc k blk off w0 d' w'∧d'.size=d.size∧PermIn a b d d'∧SortedIn lt a b d':=by
 intro n
 induction n with
 | zero=>intros;omega
 | succ n ih =>
 intro w0 d hless hswap hH hb a m b ham hmb hbn hsz hn hord hs1 hs2
 have HF:=Box.mk (boxW_fam hH g lb sf sb)
 have hb1:blk < (boxW w0 g lb sf sb).heap.size:=by rw [boxW_size];omega
 have HH:=Box.mk (HF.out.holds hb hH rfl)
 have HS:=Box.mk hswap
 have HL:=Box.mk (hless.on hb HF.out rfl)
 have HO:=Box.mk hord
 have H1:=Box.mk hs1
 have H2:=Box.mk hs2
 have IH:=Box.mk ih
 have eg:∀ args w,(callFunc g args).run Tryz.prog w=.ok (.enter g args) w:=fun args w=>run_callFunc hg w
 clear hswap hless hord hs1 hs2 ih
 by_cases hone:m=a+1
 ·have hone1:(m:Int)-a=1:=by omega
  have hma1:m≤a+1:=by omega
  have HM:=Box.mk hone
  clear hone
  go_enter Tryz.func221,Tryz.ntmps221
  go_wp2
  clear hone1
  go_loopw [8,9] (fun v8 v9 wr=>∃ (i j:Nat),v8=.int .i64 i∧v9=.int .i64 j∧m≤i∧i≤j∧j≤b∧Box (Fam enc k blk off (boxW w0 g lb sf sb) d wr)∧Box ((∀ h,m≤h→h < i→lt d[h]! d[a]! = true)∧(∀ h,j≤h→h < b→lt d[h]! d[a]! = false))) (fun v8 v9 _=>(intOf v9).toNat-(intOf v8).toNat)
  case atStart=>exact ⟨m,b,rfl,rfl,by omega,by omega,by omega,⟨Fam.start HH.out⟩,⟨fun h h1 h2=>by omega,fun h h1 h2=>by omega⟩⟩
  case round =>
   obtain ⟨i,j,rfl,rfl,hai,hij,hjb,HW,HI⟩:=hrel
   have c:=boxW_cell hb g lb sf sb HW.out
   have c0:=c.1
   have c1:=c.2
   clear c
   by_cases hlt:i < j
   ·have hl:=HL.out wr d HW.out rfl ((i+j) / 2) a (by omega) (by omega)
    have ho:=HO.out a ((i+j) / 2) (by omega) (by omega) (by omega) (by omega)
    cases hlv:lt d[(i+j) / 2]! d[a]! with
    | true =>
     rw [ho,hlv] at hl
     clear ho
     have HQ:=Box.mk hl
     clear hl
     go_wp2_with (go_at_fn g;refine HQ.out.mono ?_;rintro e w' ⟨rfl,hB⟩;have FB:=Box.mk (HW.out.below hB);clear hB)
     go_roundw
     case rel=>exact ⟨(i+j) / 2+1,j,by go_num,rfl,by omega,by omega,by omega,FB,⟨fun h h1 h2=>srA_t hO H2.out (by omega) hlv h1 (by omega),HI.out.2⟩⟩
     case measure=>simp [intOf];omega
    | false =>
     rw [ho,hlv] at hl
     clear ho
     have HQ:=Box.mk hl
     clear hl
     go_wp2_with (go_at_fn g;refine HQ.out.mono ?_;rintro e w' ⟨rfl,hB⟩;have FB:=Box.mk (HW.out.below hB);clear hB)
     go_roundw
     case rel=>exact ⟨i,(i+j) / 2,rfl,by go_num,by omega,by omega,by omega,FB,⟨HI.out.1,fun h h1 h2=>srA_f hO H2.out (by omega) hlv h1 h2⟩⟩
     case measure=>simp [intOf];omega
   ·obtain rfl:i=j:=by omega
    go_wp2
    go_loopw [11] (fun v11 wz=>∃ (c:Nat) (dk:Array α),v11=.int .i64 c∧a≤c∧c+1≤i∧dk.size=d.size∧Box (Fam enc k blk off (boxW w0 g lb sf sb) dk wz)∧Box (PermIn a b d dk∧∀ q,dk[q]! = d[rotIx a (a+1) (c+1) q]!)) (fun v11 _=>i-(intOf v11).toNat)
    case atStart=>exact ⟨a,d,rfl,by omega,by omega,rfl,HW,⟨permIn_refl d _ _,fun q=>by rw [rotIx_one]⟩⟩
    case round =>
     obtain ⟨c,dk,rfl,hac,hci,hsk,HK,HD⟩:=hrel
     have c1':=(boxW_cell hb g lb sf sb HK.out).2
     clear c0 c1
     by_cases hend:c+1 < i
     ·have hs:=HS.out wr dk (HK.out.holds hb1 HH.out hsk) hsk c (c+1) (by omega) (by omega) (by omega)
      rw [show ((c+1:Nat):Int)=(c:Int)+1 by omega] at hs
      have hend1:(c:Int) < (i:Int)-1:=by omega
      go_wp2
      go_roundw
      case rel =>
       exact ⟨c+1,swp dk c (c+1),by go_num,by omega,by omega,by rw [Sort.size_swp];exact hsk,⟨HK.out.swap hk hb1 _ _ (by omega) (by omega)⟩,
        ⟨permIn_trans d dk _ _ _ HD.out.1 (swp_permIn dk a b c (c+1) (by omega) (by omega) (by omega) (by omega) (by omega)),up_step hac (by omega) hsk HD.out.2⟩⟩
      case measure=>simp [intOf];omega
     ·obtain rfl:i=c+1:=by omega
      have hend1:¬ (c:Int) < ((c+1:Nat):Int)-1:=by omega
      go_wp2
      (try simp only [Exit.inBlock,Exit.then]);refine bodyPost_ret (results_none rfl _ _ _) rfl ?_
      obtain rfl:=HM.out
      exact ⟨rfl,dk,HF.out.trans hb HK.out hsk,hsk,HD.out.1,merge_one_left hO H2.out (by omega) (by omega) (fun h h1 h2=>HI.out.1 h h1 h2) (fun h h1 h2=>HI.out.2 h h1 h2) HD.out.2⟩
 ·by_cases hlast:b=m+1
  ·have hone1:(b:Int)-m=1:=by omega
   have hone0:¬ (m:Int)-a=1:=by omega
   have hma1:b≤m+1:=by omega
   have hma2:a+2≤m:=by omega
   have HM:=Box.mk hlast
   clear hlast hone
   go_enter Tryz.func221,Tryz.ntmps221
   go_wp2
   clear hone1 hone0
   have hx:((m:Int)-a == 1)=false:=beq_false_of_ne (by omega)
   try simp only [hx]
   clear hx
   go_loopw [12,13] (fun v8 v9 wr=>∃ (i j:Nat),v8=.int .i64 i∧v9=.int .i64 j∧a≤i∧i≤j∧j≤m∧Box (Fam enc k blk off (boxW w0 g lb sf sb) d wr)∧Box ((∀ h,a≤h→h < i→lt d[m]! d[h]! = false)∧(∀ h,j≤h→h < m→lt d[m]! d[h]! = true))) (fun v8 v9 _=>(intOf v9).toNat-(intOf v8).toNat)
   case atStart=>exact ⟨a,m,rfl,rfl,by omega,by omega,by omega,⟨Fam.start HH.out⟩,⟨fun h h1 h2=>by omega,fun h h1 h2=>by omega⟩⟩
   case round =>
    obtain ⟨i,j,rfl,rfl,hai,hij,hjb,HW,HI⟩:=hrel
    have c:=boxW_cell hb g lb sf sb HW.out
    have c0:=c.1
    have c1:=c.2
    clear c
    by_cases hlt:i < j
    ·have hl:=HL.out wr d HW.out rfl m ((i+j) / 2) (by omega) (by omega)
     have ho:=HO.out ((i+j) / 2) m (by omega) (by omega) (by omega) (by omega)
     cases hlv:lt d[m]! d[(i+j) / 2]! with
     | false =>
      rw [ho,hlv] at hl
      clear ho
      have HQ:=Box.mk hl
      clear hl
      go_wp2_with (go_at_fn g;refine HQ.out.mono ?_;rintro e w' ⟨rfl,hB⟩;have FB:=Box.mk (HW.out.below hB);clear hB)
      go_roundw
      case rel=>exact ⟨(i+j) / 2+1,j,by go_num,rfl,by omega,by omega,by omega,FB,⟨fun h h1 h2=>srB_f hO H1.out (by omega) hlv h1 (by omega),HI.out.2⟩⟩
      case measure=>simp [intOf];omega
     | true =>
      rw [ho,hlv] at hl
      clear ho
      have HQ:=Box.mk hl
      clear hl
      go_wp2_with (go_at_fn g;refine HQ.out.mono ?_;rintro e w' ⟨rfl,hB⟩;have FB:=Box.mk (HW.out.below hB);clear hB)
      go_roundw
      case rel=>exact ⟨i,(i+j) / 2,rfl,by go_num,by omega,by omega,by omega,FB,⟨HI.out.1,fun h h1 h2=>srB_t hO H1.out (by omega) hlv h1 h2⟩⟩
      case measure=>simp [intOf];omega
    ·obtain rfl:i=j:=by omega
     go_wp2
     go_loopw [15] (fun v11 wz=>∃ (c:Nat) (dk:Array α),v11=.int .i64 c∧i≤c∧c≤m∧dk.size=d.size∧Box (Fam enc k blk off (boxW w0 g lb sf sb) dk wz)∧Box (PermIn a b d dk∧∀ q,dk[q]! = d[rotIx c m (m+1) q]!)) (fun v11 _=>(intOf v11).toNat-i)
     case atStart=>exact ⟨m,d,rfl,by omega,by omega,rfl,HW,⟨permIn_refl d _ _,fun q=>by rw [rotIx_end]⟩⟩
     case round =>
      obtain ⟨c,dk,rfl,hac,hci,hsk,HK,HD⟩:=hrel
      have c1':=(boxW_cell hb g lb sf sb HK.out).2
      clear c0 c1
      by_cases hend:i < c
      ·have hs:=HS.out wr dk (HK.out.holds hb1 HH.out hsk) hsk c (c-1) (by omega) (by omega) (by omega)
       rw [show ((c-1:Nat):Int)=(c:Int)-1 by omega] at hs
       go_wp2
       go_roundw
       case rel =>
        have hd:=down_step (d:=d) (dk:=dk) (c:=c-1) (m:=m) (by omega) (by omega) hsk
        rw [show c-1+1=c by omega] at hd
        exact ⟨c-1,swp dk c (c-1),by go_num,by omega,by omega,by rw [Sort.size_swp];exact hsk,⟨HK.out.swap hk hb1 _ _ (by omega) (by omega)⟩,
         ⟨permIn_trans d dk _ _ _ HD.out.1 (swp_permIn dk a b c (c-1) (by omega) (by omega) (by omega) (by omega) (by omega)),hd HD.out.2⟩⟩
       case measure=>simp [intOf];omega
      ·obtain rfl:i=c:=by omega
       go_wp2
       (try simp only [Exit.inBlock,Exit.then]);refine bodyPost_ret (results_none rfl _ _ _) rfl ?_
       obtain rfl:=HM.out
       exact ⟨rfl,dk,HF.out.trans hb HK.out hsk,hsk,HD.out.1,merge_one_right hO H1.out (by omega) (by omega) (fun h h1 h2=>HI.out.1 h h1 h2) (fun h h1 h2=>HI.out.2 h h1 h2) HD.out.2⟩
  ·have hone1:¬ (b:Int)-m=1:=by omega
   have hone0:¬ (m:Int)-a=1:=by omega
   clear hlast hone
   have hmid1:2*((a+b) / 2)≤a+b:=by omega
   have hmid2:a+b≤2*((a+b) / 2)+1:=by omega
   go_enter Tryz.func221,Tryz.ntmps221
   go_upto_if 106 with fail
   go_cut [18,19] (fun s18 s19 wx=>wx=boxW w0 g lb sf sb∧∃ s0 r0:Nat,s18=.int .i64 s0∧s19=.int .i64 r0∧a≤s0∧(a+b) / 2+m≤b+s0∧(s0=a∨s0+b=(a+b) / 2+m)∧r0≤m∧r0≤(a+b) / 2∧(r0=m∨r0=(a+b) / 2)∧s0≤r0)
   case first =>
    by_cases hm:(a+b) / 2 < m
    ·go_wp2
     go_meet
     case rel=>exact ⟨rfl,(a+b) / 2+m-b,(a+b) / 2,by go_num,by go_num,by omega,by omega,by omega,by omega,by omega,by omega,by omega⟩
    ·go_wp2
     go_meet
     case rel=>exact ⟨rfl,a,m,by go_num,by go_num,by omega,by omega,by omega,by omega,by omega,by omega,by omega⟩
   case rest =>
    obtain ⟨rfl,s0,r0,rfl,rfl,g1,g2,g3,g4,g5,g6,g7⟩:=hcut
    go_wp2
    clear hone0 hone1
    go_loopw [18,19] (fun v8 v9 wr=>∃ (i j:Nat),v8=.int .i64 i∧v9=.int .i64 j∧s0≤i∧i≤j∧j≤r0∧Box (Fam enc k blk off (boxW w0 g lb sf sb) d wr)∧Box ((∀ c,a≤c→(a+b) / 2+m≤b+c→c < i→lt d[(a+b) / 2+m-1-c]! d[c]! = false)∧(∀ c,j≤c→c < m→c < (a+b) / 2→lt d[(a+b) / 2+m-1-c]! d[c]! = true))) (fun v8 v9 _=>(intOf v9).toNat-(intOf v8).toNat)
    case atStart=>exact ⟨s0,r0,rfl,rfl,by omega,by omega,by omega,⟨Fam.start HH.out⟩,⟨fun h h1 h2 h3=>by omega,fun h h1 h2 h3=>by omega⟩⟩
    case round =>
     obtain ⟨i,j,rfl,rfl,hai,hij,hjb,HW,HI⟩:=hrel
     by_cases hlt:i < j
     ·have c:=boxW_cell hb g lb sf sb HW.out
      have c0:=c.1
      have c1:=c.2
      clear c
      have hl:=HL.out wr d HW.out rfl ((a+b) / 2+m-1-(i+j) / 2) ((i+j) / 2) (by omega) (by omega)
      have ho:=HO.out ((i+j) / 2) ((a+b) / 2+m-1-(i+j) / 2) (by omega) (by omega) (by omega) (by omega)
      cases hlv:lt d[(a+b) / 2+m-1-(i+j) / 2]! d[(i+j) / 2]! with
      | false =>
       rw [ho,hlv,show (((a+b) / 2+m-1-(i+j) / 2:Nat):Int)=((a:Int)+b) / 2+m-1-((i:Int)+j) / 2 by omega] at hl
       clear ho
       have HQ:=Box.mk hl
       clear hl
       go_wp2_with (go_at_fn g;refine HQ.out.mono ?_;rintro e w' ⟨rfl,hB⟩;have FB:=Box.mk (HW.out.below hB);clear hB)
       go_roundw
       case rel=>exact ⟨(i+j) / 2+1,j,by go_num,rfl,by omega,by omega,by omega,FB,⟨fun c h1 h2 h3=>srC_f hO H1.out H2.out (by omega) (by omega) hlv h1 (by omega) (by omega),HI.out.2⟩⟩
       case measure=>simp [intOf];omega
      | true =>
       rw [ho,hlv,show (((a+b) / 2+m-1-(i+j) / 2:Nat):Int)=((a:Int)+b) / 2+m-1-((i:Int)+j) / 2 by omega] at hl
       clear ho
       have HQ:=Box.mk hl
       clear hl
       go_wp2_with (go_at_fn g;refine HQ.out.mono ?_;rintro e w' ⟨rfl,hB⟩;have FB:=Box.mk (HW.out.below hB);clear hB)
       go_roundw
       case rel=>exact ⟨i,(i+j) / 2,rfl,by go_num,by omega,by omega,by omega,FB,⟨HI.out.1,fun c h1 h2 h3=>srC_t hO H1.out H2.out (by omega) (by omega) hlv h1 h2 (by omega)⟩⟩
       case measure=>simp [intOf];omega
     ·obtain rfl:i=j:=by omega
      have HC:=Box.mk (Cut.mk (lt:=lt) (a:=a) (m:=m) (b:=b) (start:=i) (d:=d) (by omega) (by omega) (by omega) (by omega) HI.out.1 HI.out.2)
      have he:(((a+b) / 2+m-i:Nat):Int)=((a:Int)+b) / 2+m-i:=by omega
      have HE:=Box.mk he
      clear he
      go_upto_region 40 with fail
      go_cut [145] (fun s wx=>wx=wr∧s=.bool (decide (i < m∧m < (a+b) / 2+m-i)))
      case first =>
       by_cases h1:i < m
       ·by_cases h2:m < (a+b) / 2+m-i
        ·go_wp2
         go_meet
         case rel=>exact ⟨rfl,(congrArg Value.bool (by first | exact (decide_eq_true (by omega)).symm | exact (decide_eq_false (by omega)).symm | exact decide_eq_decide.mpr (by omega)))⟩
        ·go_wp2
         go_meet
         case rel=>exact ⟨rfl,(congrArg Value.bool (by first | exact (decide_eq_true (by omega)).symm | exact (decide_eq_false (by omega)).symm | exact decide_eq_decide.mpr (by omega)))⟩
       ·go_wp2
        go_meet
        case rel=>exact ⟨rfl,(congrArg Value.bool (by first | exact (decide_eq_true (by omega)).symm | exact (decide_eq_false (by omega)).symm | exact decide_eq_decide.mpr (by omega)))⟩
      case rest =>
       obtain ⟨rfl,rfl⟩:=hcut
       go_upto_if 145 with fail
       go_cut [] (fun wx=>∃ dA,Box (Fam enc k blk off (boxW w0 g lb sf sb) dA wx)∧Box (dA.size=d.size)∧Box (PermIn a b d dA∧∀ q,dA[q]! = d[rotIx i m ((a+b) / 2+m-i) q]!))
       case first =>
        by_cases h12:i < m∧m < (a+b) / 2+m-i
        ·have hc:=rotate_walk hk g lb sf sb wc d HS.out (HW.out.holds hb1 HH.out rfl) (by have:=HW.out.size;omega) i m ((a+b) / 2+m-i) h12.1 h12.2 (by omega) hsz
         rw [HE.out] at hc
         have HQ:=Box.mk hc
         have c:=boxW_cell hb g lb sf sb HW.out
         have c0:=c.1
         have c1:=c.2
         clear c
         have h12b:decide (i < m∧m < (a+b) / 2+m-i)=true:=decide_eq_true h12
         clear hc
         go_wp2_with (go_at_call 242;refine HQ.out.mono ?_;rintro e w1 ⟨rfl,dA,f1,f2,f3,f4⟩;have FA:=Box.mk (HW.out.trans hb1 f1 f2);have SA:=Box.mk f2;have PA:=Box.mk f3;have RA:=Box.mk f4;clear f1 f2 f3 f4)
         go_meet
         case rel=>exact ⟨dA,FA,SA,⟨perm_mono (by omega) (by omega) (by omega) PA.out,RA.out⟩⟩
        ·have h12b:decide (i < m∧m < (a+b) / 2+m-i)=false:=decide_eq_false h12
         go_wp2_with fail
         go_meet
         case rel=>exact ⟨d,HW,⟨rfl⟩,⟨permIn_refl d _ _,fun q=>by rw [rotIx_id (by omega) (by omega) (by omega)]⟩⟩
       case rest =>
        obtain ⟨dA,FA,SA,PA⟩:=hcut
        have HP:=Box.mk (cut_parts hO H1.out H2.out ham hmb HC.out PA.out.2)
        have HR:=Box.mk (ord_cut ham hmb HC.out PA.out.2 HO.out)
        clear HW
        go_upto_region 42 with fail
        go_cut [158] (fun s wx=>wx=wc∧s=.bool (decide (a < i∧i < (a+b) / 2)))
        case first =>
         by_cases h1:a < i
         ·by_cases h2:i < (a+b) / 2
          ·go_wp2
           go_meet
           case rel=>exact ⟨rfl,(congrArg Value.bool (by first | exact (decide_eq_true (by omega)).symm | exact (decide_eq_false (by omega)).symm | exact decide_eq_decide.mpr (by omega)))⟩
          ·go_wp2
           go_meet
           case rel=>exact ⟨rfl,(congrArg Value.bool (by first | exact (decide_eq_true (by omega)).symm | exact (decide_eq_false (by omega)).symm | exact decide_eq_decide.mpr (by omega)))⟩
         ·go_wp2
          go_meet
          case rel=>exact ⟨rfl,(congrArg Value.bool (by first | exact (decide_eq_true (by omega)).symm | exact (decide_eq_false (by omega)).symm | exact decide_eq_decide.mpr (by omega)))⟩
        case rest =>
         obtain ⟨rfl,rfl⟩:=hcut
         go_upto_if 158 with fail
         go_cut [] (fun wx=>∃ dB,Box (Fam enc k blk off (boxW w0 g lb sf sb) dB wx)∧Box (dB.size=d.size)∧Box (PermIn a ((a+b) / 2) dA dB∧SortedIn lt a ((a+b) / 2) dB))
         case first =>
          by_cases h12:a < i∧i < (a+b) / 2
          ·have hc:=IH.out wc dA (by rw [SA.out];exact HL.out.on hb1 FA.out SA.out) (by rw [SA.out];exact HS.out) (FA.out.holds hb1 HH.out SA.out) (by have:=FA.out.size;omega) a i ((a+b) / 2) h12.1 h12.2 (by rw [SA.out];omega) (by rw [SA.out];exact hsz) (by omega) HR.out.1 HP.out.1 HP.out.2.1
           rw [show ((((a+b) / 2:Nat)):Int)=((a:Int)+b) / 2 by omega] at hc
           have HQ:=Box.mk hc
           have c:=boxW_cell hb g lb sf sb FA.out
           have c0:=c.1
           have c1:=c.2
           clear c
           have h12b:decide (a < i∧i < (a+b) / 2)=true:=decide_eq_true h12
           clear hc
           go_wp2_with (go_at_call 221;refine HQ.out.mono ?_;rintro e w1 ⟨rfl,dB,f1,f2,f3,f4⟩;have FB:=Box.mk (FA.out.trans hb1 f1 f2);have SB:=Box.mk (f2.trans SA.out);have PB:=Box.mk f3;have RB:=Box.mk f4;clear f1 f2 f3 f4)
           go_meet
           case rel=>exact ⟨dB,FB,SB,⟨PB.out,RB.out⟩⟩
          ·have h12b:decide (a < i∧i < (a+b) / 2)=false:=decide_eq_false h12
           go_wp2_with fail
           go_meet
           case rel =>
            refine ⟨dA,FA,SA,⟨permIn_refl dA _ _,?_⟩⟩
            have q1:=HC.out.hi2
            have q2:=HC.out.lo
            rcases Nat.lt_or_ge a i with q3 | q3
            ·have q4:i=(a+b) / 2:=by omega
             have q5:=HP.out.1
             rw [q4] at q5
             exact q5
            ·have q4:i=a:=by omega
             have q5:=HP.out.2.1
             rw [q4] at q5
             exact q5
         case rest =>
          obtain ⟨dB,FB,SB,PB⟩:=hcut
          go_upto_region 44 with fail
          go_cut [171] (fun s wx=>wx=wc∧s=.bool (decide ((a+b) / 2 < (a+b) / 2+m-i∧(a+b) / 2+m-i < b)))
          case first =>
           by_cases h1:(a+b) / 2 < (a+b) / 2+m-i
           ·by_cases h2:(a+b) / 2+m-i < b
            ·go_wp2
             go_meet
             case rel=>exact ⟨rfl,(congrArg Value.bool (by first | exact (decide_eq_true (by omega)).symm | exact (decide_eq_false (by omega)).symm | exact decide_eq_decide.mpr (by omega)))⟩
            ·go_wp2
             go_meet
             case rel=>exact ⟨rfl,(congrArg Value.bool (by first | exact (decide_eq_true (by omega)).symm | exact (decide_eq_false (by omega)).symm | exact decide_eq_decide.mpr (by omega)))⟩
           ·go_wp2
            go_meet
            case rel=>exact ⟨rfl,(congrArg Value.bool (by first | exact (decide_eq_true (by omega)).symm | exact (decide_eq_false (by omega)).symm | exact decide_eq_decide.mpr (by omega)))⟩
          case rest =>
           obtain ⟨rfl,rfl⟩:=hcut
           have PA1:=PA.out.1
           have HX:=Box.mk (fun dC h1 h2=>sym_end (lt:=lt) (mid:=(a+b) / 2) (dC:=dC) (by omega) (by omega) hbn PA1 HP.out.2.2.2.2 PB.out.1 PB.out.2 h1 h2)
           clear PA1
           by_cases h12:(a+b) / 2 < (a+b) / 2+m-i∧(a+b) / 2+m-i < b
           ·have hc:=IH.out wc dB (by rw [SB.out];exact HL.out.on hb1 FB.out SB.out) (by rw [SB.out];exact HS.out) (FB.out.holds hb1 HH.out SB.out) (by have:=FB.out.size;omega) ((a+b) / 2) ((a+b) / 2+m-i) b h12.1 h12.2 (by rw [SB.out];omega) (by rw [SB.out];exact hsz) (by omega) (ord_keep PB.out.1 HR.out.2) (sorted_keep PB.out.1 (Nat.le_refl _) HP.out.2.2.1) (sorted_keep PB.out.1 (by omega) HP.out.2.2.2.1)
            rw [HE.out,show ((((a+b) / 2:Nat)):Int)=((a:Int)+b) / 2 by omega] at hc
            have HQ:=Box.mk hc
            have c:=boxW_cell hb g lb sf sb FB.out
            have c0:=c.1
            have c1:=c.2
            clear c
            have h12b:decide ((a+b) / 2 < (a+b) / 2+m-i∧(a+b) / 2+m-i < b)=true:=decide_eq_true h12
            clear hc
            go_wp2_with (go_at_call 221;refine HQ.out.mono ?_;rintro e w1 ⟨rfl,dC,f1,f2,f3,f4⟩;have FC:=Box.mk (FB.out.trans hb1 f1 f2);have SC:=Box.mk (f2.trans SB.out);have PC:=Box.mk f3;have RC:=Box.mk f4;clear f1 f2 f3 f4)
            go_end0
            exact ⟨rfl,dC,HF.out.trans hb FC.out SC.out,SC.out,HX.out dC PC.out RC.out⟩
           ·have h12b:decide ((a+b) / 2 < (a+b) / 2+m-i∧(a+b) / 2+m-i < b)=false:=decide_eq_false h12
            go_wp2_with fail
            go_end0
            refine ⟨rfl,dB,HF.out.trans hb FB.out SB.out,SB.out,HX.out dB (permIn_refl dB _ _) ?_⟩
            have q1:=HC.out.hi
            have q2:=HC.out.lo2
            have q6:=HC.out.hi2
            rcases Nat.lt_or_ge ((a+b) / 2) ((a+b) / 2+m-i) with q3 | q3
            ·have q4:(a+b) / 2+m-i=b:=by omega
             have q5:=sorted_keep PB.out.1 (Nat.le_refl _) HP.out.2.2.1
             rw [q4] at q5
             exact q5
            ·have q4:(a+b) / 2+m-i=(a+b) / 2:=by omega
             have q5:=sorted_keep PB.out.1 (by omega) HP.out.2.2.2.1
             rw [q4] at q5
             exact q5
end
end Go.Proofs.YtaiepnaokhpmcaaGreat
namespace Go.Proofs.YtaiepnaokhpmcaaGreat
open Go.E
set_option maxRecDepth 100000
set_option maxHeartbeats 4000000
open Go Go.Sort Go.RowKit Go.Lib Go.Shelf Go.Proofs
section
variable {α : Type} [Inhabited α] {enc : α → List Value} {k blk off : Nat}
section
variable {lt0 lt : α → α → Bool} {d d' dk : Array α} {a b c n B : Nat}
def OB (lt0 lt:α→α→Bool) (n c:Nat) (d:Array α):Prop:=∀ p q,p < c→c≤q→q < n→lt0 d[q]! d[p]! = lt d[q]! d[p]!
theorem OB.keep (h:PermIn a b d d') (hb:b≤d.size) (hc:c≤a∨b≤c) (ho:OB lt0 lt n c d) (hbn:b≤n):OB lt0 lt n c d':=by
 intro p q h1 h2 h3
 rcases hc with hc | hc
 ·rw [h.2.1 p (by omega)]
  by_cases hq:a≤q∧q < b
  ·exact permIn_all d d' a b (fun x=>lt0 x d[p]! = lt x d[p]!) hb h (fun i hi him=>ho p i h1 (by omega) (by omega)) q hq.1 hq.2
  ·rw [h.2.1 q (by omega)];exact ho p q h1 h2 h3
 ·rw [h.2.1 q (by omega)]
  by_cases hp:a≤p∧p < b
  ·exact permIn_all d d' a b (fun x=>lt0 d[q]! x=lt d[q]! x) hb h (fun i hi him=>ho i q (by omega) h2 h3) p hp.1 hp.2
  ·rw [h.2.1 p (by omega)];exact ho p q h1 h2 h3
theorem dvd_le (h1:B ∣ c) (h2:B ∣ a) (h:c < a):c+B≤a:=by
 obtain ⟨x,rfl⟩:=h1
 obtain ⟨y,rfl⟩:=h2
 have hxy:x < y:=by
  rcases Nat.lt_or_ge x y with h' | h'
  ·exact h'
  ·exact absurd h (Nat.not_lt.mpr (Nat.mul_le_mul_left B h'))
 calc B*x+B=B*(x+1):=by rw [Nat.mul_add,Nat.mul_one]
  _≤B*y:=Nat.mul_le_mul_left B hxy
theorem dvd_two (h:2*B ∣ c):B ∣ c:=Nat.dvd_trans ⟨2,Nat.mul_comm 2 B⟩ h
structure Blocks (lt0 lt:α→α→Bool) (B n:Nat) (d:Array α):Prop where
 hi:∀ c,B ∣ c→SortedIn lt c (min (c+B) n) d
 o:∀ c,B ∣ c→OB lt0 lt n c d
structure Pass (lt0 lt:α→α→Bool) (B n a:Nat) (d:Array α):Prop where
 al:2*B ∣ a
 lo:∀ c,2*B ∣ c→c < a→SortedIn lt c (c+2*B) d
 hi:∀ c,B ∣ c→a≤c→SortedIn lt c (min (c+B) n) d
 o1:∀ c,2*B ∣ c→OB lt0 lt n c d
 o2:∀ c,B ∣ c→a≤c→OB lt0 lt n c d
theorem Blocks.start (h:Blocks lt0 lt B n d):Pass lt0 lt B n 0 d:=⟨Nat.dvd_zero _,fun c _ h1=>absurd h1 (Nat.not_lt_zero c),fun c h1 _=>h.hi c h1,fun c h1=>h.o c (dvd_two h1),fun c h1 _=>h.o c h1⟩
theorem Pass.args (h:Pass lt0 lt B n a d) (hb:b≤n) (h1:a+B < b) (h2:b=a+2*B∨(b=n∧b≤a+2*B)) :
  (∀ p q,a≤p→p < a+B→a+B≤q→q < b→lt0 d[q]! d[p]! = lt d[q]! d[p]!)∧SortedIn lt a (a+B) d∧SortedIn lt (a+B) b d:=by
 have hB:B ∣ a:=dvd_two h.al
 have hB2:B ∣ a+B:=Nat.dvd_add hB (Nat.dvd_refl B)
 refine ⟨fun p q _ k2 k3 k4=>h.o2 (a+B) hB2 (by omega) p q k2 k3 (by omega),?_,?_⟩
 ·have:=h.hi a hB (Nat.le_refl _);rw [show min (a+B) n=a+B by omega] at this;exact this
 ·have:=h.hi (a+B) hB2 (by omega);rw [show min (a+B+B) n=b by omega] at this;exact this
theorem Pass.step (h:Pass lt0 lt B n a d) (hB:0 < B) (hn:n=d.size) (hb:a+2*B≤n) (hp:PermIn a (a+2*B) d d') (hs:SortedIn lt a (a+2*B) d'):Pass lt0 lt B n (a+2*B) d':=by
 refine ⟨Nat.dvd_add h.al (Nat.dvd_refl _),fun c h1 h2=>?_,fun c h1 h2=>?_,fun c h1=>?_,fun c h1 h2=>?_⟩
 ·rcases Nat.lt_or_ge c a with h3 | h3
  ·have:=dvd_le h1 h.al h3
   exact sorted_same (h.lo c h1 h3) fun i k1 k2=>hp.2.1 i (by omega)
  ·have h4:c=a:=by
    rcases Nat.lt_or_ge a c with h5 | h5
    ·have:=dvd_le h.al h1 h5;omega
    ·omega
   rw [h4];exact hs
 ·exact sorted_same (h.hi c h1 (by omega)) fun i k1 k2=>hp.2.1 i (by omega)
 ·refine OB.keep hp (by omega) ?_ (h.o1 c h1) hb
  rcases Nat.lt_or_ge a c with h5 | h5
  ·exact Or.inr (dvd_le h.al h1 h5)
  ·exact Or.inl h5
 ·exact OB.keep hp (by omega) (Or.inr h2) (h.o2 c h1 (by omega)) hb
theorem Pass.last (h:Pass lt0 lt B n a d) (hB:0 < B) (hn:n=d.size) (ha:a≤n) (hb:n < a+2*B) (hp:PermIn a n d d') (hs:SortedIn lt a n d'):Blocks lt0 lt (2*B) n d':=by
 refine ⟨fun c h1=>?_,fun c h1=>?_⟩
 ·rcases Nat.lt_or_ge c a with h3 | h3
  ·have:=dvd_le h1 h.al h3
   rw [show min (c+2*B) n=c+2*B by omega]
   exact sorted_same (h.lo c h1 h3) fun i k1 k2=>hp.2.1 i (by omega)
  ·rcases Nat.lt_or_ge a c with h5 | h5
   ·have:=dvd_le h.al h1 h5
    intro i j k1 k2 k3;omega
   ·have h4:c=a:=by omega
    rw [h4,show min (a+2*B) n=n by omega];exact hs
 ·rcases Nat.lt_or_ge a c with h5 | h5
  ·intro p q k1 k2 k3
   have:=dvd_le h.al h1 h5
   omega
  ·exact OB.keep hp (by omega) (Or.inl h5) (h.o1 c h1) (Nat.le_refl _)
theorem Pass.skip (h:Pass lt0 lt B n a d) (hb:n≤a+B):SortedIn lt a n d:=by
 have:=h.hi a (dvd_two h.al) (Nat.le_refl _);rw [show min (a+B) n=n by omega] at this;exact this
theorem Blocks.all (h:Blocks lt0 lt B n d) (hb:n≤B):SortedIn lt 0 n d:=by
 have:=h.hi 0 (Nat.dvd_zero _);rw [show min (0+B) n=n by omega] at this;exact this
theorem insInner_perm (a i:Nat):∀ (j:Nat) (d:Array α),a≤j→j≤i→i < d.size→PermIn a (i+1) d (insInner lt a j d)
 | 0,d,_,_,_=>permIn_refl d _ _
 | j+1,d,h1,h2,h3=>by
  unfold insInner
  split
  ·rename_i hc
   simp only [Bool.and_eq_true,decide_eq_true_eq] at hc
   exact permIn_trans _ _ _ a (i+1) (swp_permIn d a (i+1) (j+1) j (by omega) (by omega) (by omega) (by omega) (by omega)) (insInner_perm a i j (swp d (j+1) j) (by omega) (by omega) (by rw [Sort.size_swp];exact h3))
  ·exact permIn_refl d _ _
theorem insInner_agree (a:Nat):∀ (j:Nat) (d:Array α),j < d.size→(∀ p,a≤p→p < j→lt0 d[j]! d[p]! = lt d[j]! d[p]!)→insInner lt0 a j d=insInner lt a j d
 | 0,d,_,_=>rfl
 | j+1,d,hj,h=>by
  unfold insInner
  by_cases hc:a < j+1
  ·rw [h j (by omega) (by omega)]
   split
   ·refine insInner_agree a j (swp d (j+1) j) (by rw [Sort.size_swp];omega) fun p h1 h2=>?_
    rw [swp_get d (by omega) (by omega),swp_get d (by omega) (by omega)]
    rw [if_pos rfl,if_neg (by omega),if_neg (by omega)]
    exact h p h1 (by omega)
   ·rfl
  ·rw [if_neg (by simp;omega),if_neg (by simp;omega)]
theorem insOuter_agree (a b:Nat):∀ (m i:Nat) (d:Array α),b-i=m→a < i→b≤d.size→(∀ p q,a≤p→p < q→i≤q→q < b→lt0 d[q]! d[p]! = lt d[q]! d[p]!)→insOuter lt0 a b i d=insOuter lt a b i d
 | 0,i,d,hm,_,_,_=>by rw [insOuter_stop lt0 a b i d (by omega),insOuter_stop lt a b i d (by omega)]
 | m+1,i,d,hm,hai,hb,h=>by
  rw [insOuter_go lt0 a b i d (by omega),insOuter_go lt a b i d (by omega),insInner_agree a i d (by omega) (fun p h1 h2=>h p i h1 h2 (Nat.le_refl _) (by omega))]
  have hp:PermIn a (i+1) d (insInner lt a i d):=insInner_perm a i i d (by omega) (Nat.le_refl _) (by omega)
  refine insOuter_agree a b m (i+1) _ (by omega) (by omega) (by rw [hp.1];exact hb) fun p q h1 h2 h3 h4=>?_
  rw [hp.2.1 q (by omega)]
  by_cases hpi:p < i+1
  ·exact permIn_all d _ a (i+1) (fun x=>lt0 d[q]! x=lt d[q]! x) (by omega) hp (fun r k1 k2=>h r q k1 (by omega) (by omega) h4) p h1 hpi
  ·rw [hp.2.1 p (by omega)];exact h p q h1 h2 (by omega) h4
theorem insertion_agree (hb:b≤d.size) (h:∀ p q,a≤p→p < q→q < b→lt0 d[q]! d[p]! = lt d[q]! d[p]!):Sort.insertionSort lt0 d a b=Sort.insertionSort lt d a b :=
 insOuter_agree a b _ (a+1) d rfl (by omega) hb fun p q h1 h2 _ h4=>h p q h1 h2 h4
structure First (lt0 lt:α→α→Bool) (B a:Nat) (d dk:Array α):Prop where
 sz:dk.size=d.size
 p:PermIn 0 d.size d dk
 al:B ∣ a
 lo:∀ c,B ∣ c→c < a→SortedIn lt c (c+B) dk
 o:∀ c,B ∣ c→OB lt0 lt d.size c dk
 same:∀ q,a≤q→dk[q]! = d[q]!
theorem First.start (hord:∀ p q,p < q→q < d.size→lt0 d[q]! d[p]! = lt d[q]! d[p]!):First lt0 lt B 0 d d :=
 ⟨rfl,permIn_refl d _ _,Nat.dvd_zero _,fun c _ h=>absurd h (Nat.not_lt_zero c),fun c _ p q h1 h2 h3=>hord p q (by omega) h3,fun _ _=>rfl⟩
theorem First.agree (h:First lt0 lt B a d dk) (hord:∀ p q,p < q→q < d.size→lt0 d[q]! d[p]! = lt d[q]! d[p]!) (hb:b≤d.size):Sort.insertionSort lt0 dk a b=Sort.insertionSort lt dk a b :=
 insertion_agree (by rw [h.sz];exact hb) fun p q h1 h2 h3=>by rw [h.same p h1,h.same q (by omega)];exact hord p q h2 (by omega)
theorem First.step (h:First lt0 lt B a d dk) (hO:SWO lt) (hB:0 < B) (hb:a+B≤d.size):First lt0 lt B (a+B) d (Sort.insertionSort lt dk a (a+B)):=by
 obtain ⟨hp,hs⟩:=insertionSort_holds hO dk a (a+B) (by omega) (by rw [h.sz];exact hb)
 refine ⟨hp.1.trans h.sz,permIn_trans _ _ _ _ _ h.p (perm_mono (Nat.zero_le _) hb (by rw [h.sz];exact Nat.le_refl _) hp),Nat.dvd_add h.al (Nat.dvd_refl _),fun c h1 h2=>?_,fun c h1=>?_,fun q hq=>?_⟩
 ·rcases Nat.lt_or_ge c a with h3 | h3
  ·have:=dvd_le h1 h.al h3
   exact sorted_same (h.lo c h1 h3) fun i k1 k2=>hp.2.1 i (by omega)
  ·have h4:c=a:=by
    rcases Nat.lt_or_ge a c with h5 | h5
    ·have:=dvd_le h.al h1 h5;omega
    ·omega
   rw [h4];exact hs
 ·refine OB.keep hp (by rw [h.sz];exact hb) ?_ (h.o c h1) hb
  rcases Nat.lt_or_ge a c with h5 | h5
  ·exact Or.inr (dvd_le h.al h1 h5)
  ·exact Or.inl h5
 ·rw [hp.2.1 q (by omega)];exact h.same q (by omega)
theorem First.last (h:First lt0 lt B a d dk) (hO:SWO lt) (hB:0 < B) (ha:a≤d.size) (hb:d.size < a+B):Blocks lt0 lt B d.size (Sort.insertionSort lt dk a d.size)∧PermIn 0 d.size d (Sort.insertionSort lt dk a d.size):=by
 obtain ⟨hp,hs⟩:=insertionSort_holds hO dk a d.size ha (by rw [h.sz];exact Nat.le_refl _)
 refine ⟨⟨fun c h1=>?_,fun c h1=>?_⟩,permIn_trans _ _ _ _ _ h.p (perm_mono (Nat.zero_le _) (Nat.le_refl _) (by rw [h.sz];exact Nat.le_refl _) hp)⟩
 ·rcases Nat.lt_or_ge c a with h3 | h3
  ·have:=dvd_le h1 h.al h3
   rw [show min (c+B) d.size=c+B by omega]
   exact sorted_same (h.lo c h1 h3) fun i k1 k2=>hp.2.1 i (by omega)
  ·rcases Nat.lt_or_ge a c with h5 | h5
   ·have:=dvd_le h.al h1 h5
    intro i j k1 k2 k3;omega
   ·have h4:c=a:=by omega
    rw [h4,show min (a+B) d.size=d.size by omega];exact hs
 ·rcases Nat.lt_or_ge a c with h5 | h5
  ·intro p q k1 k2 k3
   have:=dvd_le h.al h1 h5
   omega
  ·exact OB.keep hp (by rw [h.sz];exact Nat.le_refl _) (Or.inl h5) (h.o c h1) (Nat.le_refl _)
end
set_option maxHeartbeats 8000000 in
theorem stable_walk (hk:∀ x,(enc x).length=k) (lt0 lt:α→α→Bool) (hO:SWO lt) (g:Nat) (lb:Array Value) (sf:Nat) (sb:Array Value) (hg:Callable Tryz.prog g) (w0:World) (d:Array α) (hless:LessAt g lb enc k lt0 blk off d.size w0) (hswap:SwapAt sf sb enc k blk off d.size) (hH:HoldsK enc k w0 blk off d) (hb:blk < w0.heap.size)
  (hsz:d.size < 1152921504606846976) (hord:∀ p q,p < q→q < d.size→lt0 d[q]! d[p]! = lt d[q]! d[p]!) :
  Calls Tryz.prog 194 #[.agg #[.func (.func g) #[] lb,.func (.func sf) #[] sb],.int .i64 d.size] w0 fun e w' =>
   e=.returned (.tuple #[])∧∃ d',Fam enc k blk off w0 d' w'∧d'.size=d.size∧PermIn 0 d.size d d'∧SortedIn lt 0 d.size d':=by
 have HF:=Box.mk (boxW_fam hH g lb sf sb)
 have hb1:blk < (boxW w0 g lb sf sb).heap.size:=by rw [boxW_size];omega
 have HH:=Box.mk (HF.out.holds hb hH rfl)
 have HS:=Box.mk hswap
 have HL:=Box.mk (hless.on hb HF.out rfl)
 have HO:=Box.mk hord
 clear hswap hless hord
 generalize hn:d.size=n at hsz
 have HN:=Box.mk hn
 clear hn
 go_enter Tryz.func194,Tryz.ntmps194
 go_wp2
 go_loopw [5,6] (fun v5 v6 wr=>∃ (a:Nat) (dk:Array α),v5=.int .i64 a∧v6=.int .i64 ((a:Int)+20)∧a≤n∧Box (Fam enc k blk off (boxW w0 g lb sf sb) dk wr)∧Box (First lt0 lt 20 a d dk)) (fun v5 _ _=>n-(intOf v5).toNat)
 case atStart=>exact ⟨0,d,rfl,rfl,by omega,⟨Fam.start HH.out⟩,⟨First.start HO.out⟩⟩
 case round =>
  obtain ⟨a,dk,rfl,rfl,han,HW,HI⟩:=hrel
  have c:=boxW_cell hb g lb sf sb HW.out
  have c0:=c.1
  have c1:=c.2
  clear c
  by_cases hfit:a+20≤n
  ·have hc:=insertion_walk hk lt0 g lb sf sb wr dk hg (by rw [HI.out.sz];exact HL.out.on hb1 HW.out HI.out.sz) (by rw [HI.out.sz];exact HS.out) (HW.out.holds hb1 HH.out HI.out.sz) (by have:=HW.out.size;omega) a (a+20) (by omega) (by rw [HI.out.sz,HN.out];exact hfit) (by rw [HI.out.sz,HN.out];omega)
   rw [show ((a+20:Nat):Int)=(a:Int)+20 by omega,HI.out.agree HO.out (by rw [HN.out];exact hfit)] at hc
   have HQ:=Box.mk hc
   have HI2:=Box.mk (HI.out.step hO (by omega) (by rw [HN.out];exact hfit))
   clear hc
   go_wp2_with (go_at_call 220;refine HQ.out.mono ?_;rintro e w1 ⟨rfl,f1⟩;have FA:=Box.mk (HW.out.trans hb1 f1 (HI2.out.sz.trans HI.out.sz.symm));clear f1)
   go_roundw
   case rel=>exact ⟨a+20,_,by go_num,by go_num,hfit,FA,HI2⟩
   case measure=>simp [intOf];omega
  ·have hc:=insertion_walk hk lt0 g lb sf sb wr dk hg (by rw [HI.out.sz];exact HL.out.on hb1 HW.out HI.out.sz) (by rw [HI.out.sz];exact HS.out) (HW.out.holds hb1 HH.out HI.out.sz) (by have:=HW.out.size;omega) a n han (by rw [HI.out.sz,HN.out];exact Nat.le_refl _) (by rw [HI.out.sz,HN.out];omega)
   rw [HI.out.agree HO.out (by rw [HN.out];exact Nat.le_refl _)] at hc
   have HQ:=Box.mk hc
   have HI2:=HI.out.last hO (by omega) (by rw [HN.out];exact han) (by rw [HN.out];omega)
   rw [HN.out] at HI2
   have HI3:=Box.mk HI2
   clear hc HI2
   go_wp2_with (go_at_call 220;refine HQ.out.mono ?_;rintro e w1 ⟨rfl,f1⟩;have FA:=Box.mk (HW.out.trans hb1 f1 (by rw [HI3.out.2.1,HI.out.sz]));clear f1)
   go_loopw [4] (fun v4 wr=>∃ (B:Nat) (dj:Array α),v4=.int .i64 B∧0 < B∧(B≤20∨B < 2*n)∧Box (Fam enc k blk off (boxW w0 g lb sf sb) dj wr)∧Box (dj.size=d.size)∧Box (Blocks lt0 lt B n dj∧PermIn 0 n d dj)) (fun v4 _=>n-(intOf v4).toNat)
   case atStart=>exact ⟨20,_,rfl,by omega,by omega,FA,⟨HI3.out.2.1⟩,HI3⟩
   case round =>
    obtain ⟨B,dj,rfl,hB0,hBn,FJ,SJ,HJ⟩:=hrel
    clear c0 c1
    by_cases hbn:B < n
    ·go_wp2
     go_loopw [5,6] (fun v5 v6 wr=>∃ (a:Nat) (dl:Array α),v5=.int .i64 a∧v6=.int .i64 ((a:Int)+2*B)∧a≤n∧Box (Fam enc k blk off (boxW w0 g lb sf sb) dl wr)∧Box (dl.size=d.size)∧Box (Pass lt0 lt B n a dl∧PermIn 0 n d dl)) (fun v5 _ _=>n-(intOf v5).toNat)
     case atStart=>exact ⟨0,dj,rfl,by go_num,by omega,FJ,SJ,⟨HJ.out.1.start,HJ.out.2⟩⟩
     case round =>
      obtain ⟨a,dl,rfl,rfl,han,FL,SL,HP⟩:=hrel
      have c:=boxW_cell hb g lb sf sb FL.out
      have c0:=c.1
      have c1:=c.2
      clear c
      by_cases hfit:a+2*B≤n
      ·have PG:=HP.out.1.args (b:=a+2*B) hfit (by omega) (Or.inl rfl)
       have hc:=symMerge_walk hk lt0 lt hO g lb sf sb hg (2*B) wr dl (by rw [SL.out];exact HL.out.on hb1 FL.out SL.out) (by rw [SL.out];exact HS.out) (FL.out.holds hb1 HH.out SL.out) (by have:=FL.out.size;omega) a (a+B) (a+2*B) (by omega) (by omega) (by rw [SL.out,HN.out];omega) (by rw [SL.out,HN.out];omega) (by omega) PG.1 PG.2.1 PG.2.2
       rw [show ((a+B:Nat):Int)=(a:Int)+B by omega,show ((a+2*B:Nat):Int)=(a:Int)+2*B by omega] at hc
       have HQ:=Box.mk hc
       clear hc PG
       go_wp2_with (go_at_call 221;refine HQ.out.mono ?_;rintro e w1 ⟨rfl,dM,f1,f2,f3,f4⟩;have FA:=Box.mk (FL.out.trans hb1 f1 f2);have SA:=Box.mk (f2.trans SL.out);have PA:=Box.mk f3;have RA:=Box.mk f4;clear f1 f2 f3 f4)
       go_roundw
       case rel =>
        exact ⟨a+2*B,dM,by go_num,by go_num,hfit,FA,SA,⟨HP.out.1.step hB0 (by rw [SL.out,HN.out]) hfit PA.out RA.out,permIn_trans d dl dM _ _ HP.out.2 (perm_mono (by omega) hfit (by rw [SL.out,HN.out];exact Nat.le_refl _) PA.out)⟩⟩
       case measure=>simp [intOf];omega
      ·by_cases hmn:a+B < n
       ·have PG:=HP.out.1.args (b:=n) (Nat.le_refl _) hmn (Or.inr ⟨rfl,by omega⟩)
        have hc:=symMerge_walk hk lt0 lt hO g lb sf sb hg n wr dl (by rw [SL.out];exact HL.out.on hb1 FL.out SL.out) (by rw [SL.out];exact HS.out) (FL.out.holds hb1 HH.out SL.out) (by have:=FL.out.size;omega) a (a+B) n (by omega) (by omega) (by rw [SL.out,HN.out];omega) (by rw [SL.out,HN.out];omega) (by omega) PG.1 PG.2.1 PG.2.2
        rw [show ((a+B:Nat):Int)=(a:Int)+B by omega] at hc
        have HQ:=Box.mk hc
        clear hc PG
        go_wp2_with (go_at_call 221;refine HQ.out.mono ?_;rintro e w1 ⟨rfl,dM,f1,f2,f3,f4⟩;have FA:=Box.mk (FL.out.trans hb1 f1 f2);have SA:=Box.mk (f2.trans SL.out);have PA:=Box.mk f3;have RA:=Box.mk f4;clear f1 f2 f3 f4)
        go_roundw
        case rel =>
         exact ⟨2*B,dM,by go_num,by omega,by omega,FA,SA,⟨HP.out.1.last hB0 (by rw [SL.out,HN.out]) han (by omega) PA.out RA.out,permIn_trans d dl dM _ _ HP.out.2 (perm_mono (by omega) (Nat.le_refl _) (by rw [SL.out,HN.out];exact Nat.le_refl _) PA.out)⟩⟩
        case measure=>simp [intOf];omega
       ·go_wp2
        go_roundw
        case rel =>
         exact ⟨2*B,dl,by go_num,by omega,by omega,FL,SL,⟨HP.out.1.last hB0 (by rw [SL.out,HN.out]) han (by omega) (permIn_refl dl _ _) (HP.out.1.skip (by omega)),HP.out.2⟩⟩
        case measure=>simp [intOf];omega
    ·go_wp2
     go_end0
     exact ⟨rfl,dj,HF.out.trans hb FJ.out SJ.out,SJ.out.trans HN.out,HJ.out.2,HJ.out.1.all (by omega)⟩
end
end Go.Proofs.YtaiepnaokhpmcaaGreat
namespace Go.Proofs.YtaiepnaokhpmcaaGreat
open Go.E
set_option maxRecDepth 100000
set_option maxHeartbeats 4000000
open Go Go.Sort Go.RowKit Go.Lib Go.Shelf Go.Proofs
section
variable {α : Type} [Inhabited α] {enc : α → List Value} {k blk off : Nat}
def stS (lt:α→α→Bool) (d:Array α):Array α:=(d.toList.mergeSort (fun x y=>!lt y x)).toArray
theorem stS_size (lt:α→α→Bool) (d:Array α):(stS lt d).size=d.size:=by simp [stS]
def ltT (lt:α→α→Bool) (x y:α×Nat):Bool:=lt x.1 y.1 || (!lt y.1 x.1 && decide (x.2 < y.2))
theorem ltT_true {lt:α→α→Bool} {x y:α×Nat}:ltT lt x y=true↔lt x.1 y.1=true∨(lt y.1 x.1=false∧x.2 < y.2):=by simp [ltT]
theorem ltT_false {lt:α→α→Bool} {x y:α×Nat}:ltT lt x y=false↔lt x.1 y.1=false∧(lt y.1 x.1=true∨y.2≤x.2):=by
 simp only [ltT,Bool.or_eq_false_iff,Bool.and_eq_false_iff,Bool.not_eq_false',decide_eq_false_iff_not,Nat.not_lt]
theorem ntrans_t {lt:α→α→Bool} (hO:SWO lt) {x y z:α} (h1:lt x y=true) (h2:lt z y=false):lt x z=true:=by
 cases h:lt x z with
 | true=>rfl
 | false=>rw [hO.ntrans _ _ _ h h2] at h1;cases h1
theorem ntrans_t' {lt:α→α→Bool} (hO:SWO lt) {x y z:α} (h1:lt y x=false) (h2:lt y z=true):lt x z=true:=by
 cases h:lt x z with
 | true=>rfl
 | false=>rw [hO.ntrans _ _ _ h1 h] at h2;cases h2
theorem swo_ltT {lt:α→α→Bool} (hO:SWO lt):SWO (ltT lt):=by
 refine ⟨fun x=>ltT_false.2 ⟨hO.irrefl _,Or.inr (Nat.le_refl _)⟩,fun x y z h1 h2=>?_,fun x y z h1 h2=>?_⟩
 ·rw [ltT_true] at h1 h2 ⊢
  rcases h1 with h1 | ⟨h1,t1⟩ <;> rcases h2 with h2 | ⟨h2,t2⟩
  ·exact Or.inl (hO.trans _ _ _ h1 h2)
  ·exact Or.inl (ntrans_t hO h1 h2)
  ·exact Or.inl (ntrans_t' hO h1 h2)
  ·exact Or.inr ⟨hO.ntrans _ _ _ h2 h1,by omega⟩
 ·rw [ltT_false] at h1 h2 ⊢
  obtain ⟨h1,g1⟩:=h1
  obtain ⟨h2,g2⟩:=h2
  refine ⟨hO.ntrans _ _ _ h1 h2,?_⟩
  rcases g1 with g1 | g1
  ·exact Or.inl (ntrans_t' hO h2 g1)
  ·rcases g2 with g2 | g2
   ·exact Or.inl (ntrans_t hO g2 h1)
   ·exact Or.inr (by omega)
theorem ltT_le {lt:α→α→Bool} (hO:SWO lt):(fun x y=>!ltT lt y x)=List.zipIdxLE (fun x y=>!lt y x):=by
 funext x y
 simp only [List.zipIdxLE,ltT]
 by_cases h1:lt y.1 x.1=true <;> by_cases h2:lt x.1 y.1=true <;> simp [h1,h2]
 rw [Bool.eq_iff_iff];simp
def tagged (d:Array α):Array (α×Nat):=d.toList.zipIdx.toArray
theorem tagged_size (d:Array α):(tagged d).size=d.size:=by simp [tagged]
theorem tagged_get (d:Array α) {i:Nat} (h:i < d.size):(tagged d)[i]! = (d[i]!,i):=by
 rw [getElem!_pos (tagged d) i (by rw [tagged_size];exact h),getElem!_pos d i h]
 simp [tagged]
theorem tagged_agree (lt:α→α→Bool) (d:Array α):∀ p q,p < q→q < (tagged d).size→(fun x y:α×Nat=>lt x.1 y.1) (tagged d)[q]! (tagged d)[p]! = ltT lt (tagged d)[q]! (tagged d)[p]!:=by
 intro p q h1 h2
 rw [tagged_size] at h2
 rw [tagged_get d h2,tagged_get d (show p < d.size by omega)]
 simp only [ltT]
 rw [decide_eq_false (by omega)];simp
theorem fsts_get (d:Array (α×Nat)) (i:Nat):(d.map (·.1))[i]! = d[i]!.1:=by
 by_cases h:i < d.size
 ·rw [getElem!_pos (d.map (·.1)) i (by simpa using h),getElem!_pos d i h];simp
 ·rw [getElem!_neg (d.map (·.1)) i (by simpa using h),getElem!_neg d i h];rfl
theorem fsts_tagged (d:Array α):(tagged d).map (·.1)=d:=by
 simp [tagged]
theorem flatK_fst (d:Array (α×Nat)):flatK (fun x=>enc x.1) k d=flatK enc k (d.map (·.1)):=by
 unfold flatK
 rw [Array.size_map]
 congr 1
 funext t
 rw [fsts_get]
theorem sorted_tags (lt:α→α→Bool) (hO:SWO lt) (d:Array α) (d':Array (α×Nat)) (hp:PermIn 0 (tagged d).size (tagged d) d') (hs:SortedIn (ltT lt) 0 (tagged d).size d'):d'.map (·.1)=stS lt d:=by
 have hperm:d'.toList.Perm (tagged d).toList:=by
  obtain ⟨hsz,_,hperm⟩:=hp
  have e1:d'.extract 0 (tagged d).size=d':=by rw [← hsz];exact Array.extract_size
  rw [e1,Array.extract_size] at hperm
  exact hperm
 have hT:=swo_ltT hO
 have e:d'.toList=(d.toList.zipIdx).mergeSort (List.zipIdxLE (fun x y=>!lt y x)):=by
  rw [← ltT_le hO]
  refine List.Perm.eq_of_pairwise (le:=fun x y=>(!ltT lt y x)=true) ?_ ?_ ?_ (hperm.trans (by simpa [tagged] using (List.mergeSort_perm d.toList.zipIdx _).symm))
  ·rintro ⟨a,i⟩ ⟨b,j⟩ ha hb h1 h2
   have ha':(a,i)∈d.toList.zipIdx:=by have:=hperm.subset ha;simpa [tagged] using this
   have hb':(b,j)∈d.toList.zipIdx:=List.mem_mergeSort.1 hb
   simp only [Bool.not_eq_true'] at h1 h2
   rw [ltT_false] at h1 h2
   simp only at h1 h2
   have hij:i=j:=by
    obtain ⟨k1,k2⟩:=h1
    obtain ⟨k3,k4⟩:=h2
    rw [k3] at k2
    rw [k1] at k4
    simp at k2 k4
    omega
   subst hij
   have m1:=List.mem_zipIdx ha'
   have m2:=List.mem_zipIdx hb'
   simp_all
  ·rw [List.pairwise_iff_getElem]
   intro i j hi hj hij
   have hi':i < d'.size:=by simpa using hi
   have hj':j < d'.size:=by simpa using hj
   have:=hs i j (Nat.zero_le _) hij (by rw [← hp.1];exact hj')
   rw [getElem!_pos d' j hj',getElem!_pos d' i hi'] at this
   simpa using this
  ·refine List.pairwise_mergeSort ?_ ?_ _
   ·intro a b c h1 h2
    simp only [Bool.not_eq_true'] at h1 h2 ⊢
    exact hT.ntrans _ _ _ h2 h1
   ·intro a b
    cases h:ltT lt b a with
    | false=>rfl
    | true=>simp [hT.asymmA h]
 unfold stS
 rw [← List.mergeSort_zipIdx,← e]
 exact (Array.toList_inj).1 (by simp)
theorem stable_tags (hk:∀ x,(enc x).length=k) (lt:α→α→Bool) (hO:SWO lt) (g:Nat) (lb:Array Value) (sf:Nat) (sb:Array Value) (hg:Callable Tryz.prog g) (w0:World) (d:Array α) (hless:LessAt g lb enc k lt blk off d.size w0) (hswap:SwapAt sf sb enc k blk off d.size) (hH:HoldsK enc k w0 blk off d) (hb:blk < w0.heap.size)
  (hsz:d.size < 1152921504606846976) :
  Calls Tryz.prog 194 #[.agg #[.func (.func g) #[] lb,.func (.func sf) #[] sb],.int .i64 d.size] w0 fun e w' =>
   e=.returned (.tuple #[])∧Fam enc k blk off w0 (stS lt d) w':=by
 have fam:∀ dk W,Fam (fun x:α×Nat=>enc x.1) k blk off w0 dk W→Fam enc k blk off w0 (dk.map (·.1)) W:=by
  rintro dk W ⟨q,os,rfl⟩
  exact ⟨q,os,by unfold putRowK;rw [flatK_fst]⟩
 have hold:∀ dk W,HoldsK (fun x:α×Nat=>enc x.1) k W blk off dk→HoldsK enc k W blk off (dk.map (·.1)):=by
  intro dk W h
  unfold HoldsK at h ⊢
  rw [← flatK_fst];exact h
 have h:=stable_walk (enc:=fun x:α×Nat=>enc x.1) (fun x=>hk x.1) (fun x y=>lt x.1 y.1) (ltT lt) (swo_ltT hO) g lb sf sb hg w0 (tagged d) (blk:=blk) (off:=off)
  (fun W dk hF hs i j hi hj=>by
   rw [tagged_size] at hs hi hj
   have:=hless W _ (fam dk W hF) (by simpa using hs) i j hi hj
   rw [fsts_get,fsts_get] at this
   exact this)
  (fun W dk hF hs i j hi hj hij=>by
   rw [tagged_size] at hs hi hj
   have:=hswap W _ (hold dk W hF) (by simpa using hs) i j hi hj hij
   rw [fsts_get,fsts_get] at this
   exact this)
  (by unfold HoldsK at hH ⊢;rw [flatK_fst,fsts_tagged];exact hH) hb (by rw [tagged_size];exact hsz) (tagged_agree lt d)
 rw [tagged_size] at h
 refine h.mono ?_
 rintro e w' ⟨rfl,d',f1,f2,f3,f4⟩
 refine ⟨rfl,?_⟩
 rw [← sorted_tags lt hO d d' (by rw [tagged_size];exact f3) (by rw [tagged_size];exact f4)]
 exact fam d' w' f1
end
end Go.Proofs.YtaiepnaokhpmcaaGreat
namespace Go.Proofs.YtaiepnaokhpmcaaGreat
open Go.E
set_option maxRecDepth 100000
set_option maxHeartbeats 4000000
open Go Go.Sort Go.RowKit Go.Lib Go.Shelf Go.Proofs
section
variable {α : Type} [Inhabited α] {enc : α → List Value} {k blk off : Nat}
noncomputable def boundS (e:TypeId) (ie:TypeInfo) (ke:Nat) (p:Option Addr) (n c:Nat):Array Value :=
 if swapperK n ie ke≤2 then #[] else #[.slice p n c,typeHandle Tryz.prog e]
noncomputable def worldS (t:TypeId) (p:Option Addr) (n c:Nat) (w:World):World :=
 (w.alloc (.cells #[.slice p n c] t)).alloc (.cells #[.pointer (some ⟨Tryz.prog.globals.size,t,none⟩),.pointer (some ⟨w.heap.size,0,none⟩),.int .u64 151] 198)
set_option maxHeartbeats 4000000 in
theorem sliceStable_of (t e:TypeId) (i ie:TypeInfo) (hi:Tryz.prog.info? t=some i) (hd:i.desc=.slice e) (hpk:Tryz.prog.packed t=false) (hie:Tryz.prog.info? e=some ie) (ke:Nat) (hke:∀ w,(Extern.Rtype.kind e).run Tryz.prog w=.ok ke w)
  (p:Option Addr) (n c:Nat) (hn:n < 1152921504606846976) (f:Nat) (hf:Tryz.prog.funcs.findIdx? (·.name == "internal/reflectlite"++".Swapper$"++toString (swapperK n ie ke))=some f) (lf:Fn) (la lb:Array Value) (w:World) (R:World→Prop)
  (hp:Calls Tryz.prog 194 #[.agg #[.func lf la lb,.func (.func f) #[] (boundS e ie ke p n c)],.int .i64 n] (worldS t p n c w) fun e w'=>e=.returned (.tuple #[])∧R w') :
  Calls Tryz.prog 160 #[.iface t (.slice p n c),.func lf la lb] w fun e w'=>e=.returned (.tuple #[])∧R w':=by
 have hv:=run_valueOf_slice (P:=Tryz.prog) t e i hi hd p n c w
 have hs:=fun w=>run_swapper_slice (P:=Tryz.prog) t e i ie hi hd hie ke hke p n c f hf w
 have hl:=fun a w ha=>run_valueLen_slice (P:=Tryz.prog) t e i hi hd hpk a p n c w ha
 unfold boundS worldS at hp
 generalize (if swapperK n ie ke≤2 then (#[]:Array Value) else #[.slice p n c,typeHandle Tryz.prog e])=B at hs hp
 have hz:Tryz.prog.globals.size=1:=by kernel_rfl
 simp only [typeHandle,hz] at hv hl hp
 have HP:=Box.mk hp
 have HV:=Box.mk hv
 have HS:=Box.mk hs
 have HL:=Box.mk hl
 clear hp hv hs hl
 go_enter Tryz.func160,Tryz.ntmps160
 go_wp2
 rw [run_callFunc_extern Tryz.func192 (by kernel_rfl) (by kernel_rfl) (by kernel_rfl) (e:=fun args=>Extern.ReflectliteValue.unpack (args.getD 0 (.tuple #[]))) (by kernel_rfl),
  show Sem.run Tryz.prog ((fun args:Array Value=>Extern.ReflectliteValue.unpack (args.getD 0 (.tuple #[]))) #[.iface t (.slice p n c)]) w=_ from HV.out]
 simp only [Result.andThen]
 rw [Oper.upon_value]
 go_wp2
 rw [run_callFunc_extern Tryz.func193 (by kernel_rfl) (by kernel_rfl) (by kernel_rfl) (e:=Extern.ReflectliteSwapper.swapper "internal/reflectlite" (Extern.ReflectliteValue.valueError "Swapper")) (by kernel_rfl),HS.out]
 simp only [Result.andThen]
 rw [Oper.upon_value]
 go_wp2
 rw [run_callFunc_extern Tryz.func195 (by kernel_rfl) (by kernel_rfl) (by kernel_rfl) (e:=Extern.ReflectliteValue.method (Extern.ReflectliteValue.valueError "reflectlite.Value.Len" 0) Extern.ReflectliteValue.len) (by kernel_rfl),
  HL.out _ _ (by simp)]
 simp only [Result.andThen]
 rw [Oper.upon_value]
 go_wp2_with (go_at_call 194;refine HP.out.mono ?_;rintro e w' ⟨rfl,hR⟩;have HR:=Box.mk hR;clear hR)
 go_end0
 exact ⟨rfl,HR.out⟩
theorem swapAt_literal (gS:Bool) (sf:Nat) (hx:∀ args W,(callFunc sf args).run Tryz.prog W=((Extern.ReflectliteSwapper.swap gS args).run Tryz.prog W).andThen fun v w'=>.ok (.value v) w')
  (e:TypeId) (ie:TypeInfo) (hie:Tryz.prog.info? e=some ie) (hk:∀ x,(enc x).length=k) (hs:ie.size=k) (hagg:∀ w,(isAgg e).run Tryz.prog w=.ok true w) (h1:∀ x,∀ v∈enc x,v.oneCell'=true) (n c:Nat) :
  SwapAt sf #[.slice (some ⟨blk,off,none⟩) n c,typeHandle Tryz.prog e] enc k blk off n:=by
 intro W dk hH hsz i j hi hj _
 subst hs
 have cc:∀ x,x < dk.size→∀ u v,(enc dk[x]!)[u]?=some v→W.cell? ⟨blk,off+x*ie.size+u,none⟩=some v:=fun x hx u v h=>by
  have hu:u < ie.size:=by rw [← hk dk[x]!];exact (List.getElem?_eq_some_iff.mp h).1
  rw [(hH.cell hx hu).1];simp [h]
 have:=run_swap_cells (P:=Tryz.prog) gS e ie hie hagg blk off n c i j hi hj (enc dk[i]!) (enc dk[j]!) (hk _) (hk _) (h1 _) (h1 _) W (cc i (by omega)) (cc j (by omega))
  (fun u hu=>(hH.cell (by omega) hu).2) (fun u hu=>(hH.cell (by omega) hu).2)
 rw [hx,show (#[Value.int .i64 (i:Int),Value.int .i64 (j:Int)]++#[Value.slice (some ⟨blk,off,none⟩) n c,typeHandle Tryz.prog e])=#[.int .i64 i,.int .i64 j,.slice (some ⟨blk,off,none⟩) n c,typeHandle Tryz.prog e] from rfl,this]
 rfl
end
open Go Go.Sort Go.RowKit Go.Lib Go.Shelf Go.Proofs
section
variable {α : Type} [Inhabited α] {enc : α → List Value} {k blk off : Nat}
theorem swK_gt (n:Nat) (ie:TypeInfo) (ke:Nat) (h2:2≤n):¬ swapperK n ie ke≤2:=by
 have c:(n == 0)=false:=by simp;omega
 have d:(n == 1)=false:=by simp;omega
 unfold swapperK
 simp only [c,d,Bool.false_eq_true,if_false]
 repeat' split
 all_goals omega
structure SortTy (t e k:Nat) (fN:Nat→Nat):Prop where
 ex:∃ i ie ke gS,Tryz.prog.info? t=some i∧i.desc=.slice e∧Tryz.prog.packed t=false∧Tryz.prog.info? e=some ie∧(∀ w,(Extern.Rtype.kind e).run Tryz.prog w=.ok ke w) ∧
  (∀ n,Tryz.prog.funcs.findIdx? (·.name == "internal/reflectlite"++".Swapper$"++toString (swapperK n ie ke))=some (fN n))∧ie.size=k∧(∀ w,(isAgg e).run Tryz.prog w=.ok true w) ∧
  (∀ n,2≤n→∀ args W,(callFunc (fN n) args).run Tryz.prog W=((Extern.ReflectliteSwapper.swap gS args).run Tryz.prog W).andThen fun v w'=>.ok (.value v) w')
theorem sliceStable_walk {t e:Nat} {fN:Nat→Nat} (hT:SortTy t e k fN) (hk:∀ x,(enc x).length=k) (h1:∀ x,∀ v∈enc x,v.oneCell'=true) (lt:α→α→Bool) (hO:SWO lt) (g:Nat) (lb:Array Value) (hg:Callable Tryz.prog g) (c:Nat) (d:Array α)
  (hsz:d.size < 1152921504606846976) (w:World) (hless:LessAt g lb enc k lt blk off d.size w) (hH:HoldsK enc k w blk off d) (hb:blk < w.heap.size) :
  Calls Tryz.prog 160 #[.iface t (.slice (some ⟨blk,off,none⟩) d.size c),.func (.func g) #[] lb] w fun e w'=>e=.returned (.tuple #[])∧Fam enc k blk off w (stS lt d) w':=by
 obtain ⟨i,ie,ke,gS,a1,a2,a3,a4,a5,a6,a7,a8,a9⟩:=hT.ex
 refine sliceStable_of t e i ie a1 a2 a3 a4 ke a5 _ d.size c hsz (fN d.size) (a6 _) (.func g) #[] lb w _ ?_
 have F0:Fam enc k blk off w d (worldS t (some ⟨blk,off,none⟩) d.size c w):=((Fam.start hH).alloc _).alloc _
 have hb0:blk < (worldS t (some ⟨blk,off,none⟩) d.size c w).heap.size:=Nat.lt_of_lt_of_le hb F0.size
 refine (stable_tags hk lt hO g lb (fN d.size) _ hg _ d (hless.on hb F0 rfl) ?_ (F0.holds hb hH rfl) hb0 hsz).mono ?_
 ·by_cases h2:2≤d.size
  ·unfold boundS
   rw [if_neg (swK_gt _ _ _ h2)]
   exact swapAt_literal gS (fN d.size) (a9 _ h2) e ie a4 hk a7 a8 h1 d.size c
  ·intro W dk _ _ i j hi hj hij
   omega
 ·rintro e' w' ⟨rfl,hF⟩
  exact ⟨rfl,F0.trans hb hF (stS_size lt d)⟩
theorem sliceStable_nil {t e:Nat} {fN:Nat→Nat} (hT:SortTy t e k fN) (lt:α→α→Bool) (hO:SWO lt) (hk:∀ x,(enc x).length=k) (g:Nat) (lb:Array Value) (hg:Callable Tryz.prog g) (w:World) :
  Calls Tryz.prog 160 #[.iface t (.slice none 0 0),.func (.func g) #[] lb] w fun e w'=>e=.returned (.tuple #[])∧Below w.heap.size w w':=by
 obtain ⟨i,ie,ke,gS,a1,a2,a3,a4,a5,a6,a7,a8,a9⟩:=hT.ex
 refine sliceStable_of t e i ie a1 a2 a3 a4 ke a5 none 0 0 (by omega) (fN 0) (a6 _) (.func g) #[] lb w _ ?_
 have hsize:(worldS t none 0 0 w).heap.size=w.heap.size+2:=by simp [worldS]
 have hB0:Below w.heap.size w (worldS t none 0 0 w):=by
  unfold worldS
  exact ((Below.refl _ w).alloc (Nat.le_refl _) _).alloc (by simp) _
 refine (stable_tags (blk:=w.heap.size) (off:=0) (enc:=enc) hk lt hO g lb (fN 0) _ hg (worldS t none 0 0 w) (#[]:Array α) (fun W dk _ _ i j hi hj=>by simp at hi) (fun W dk _ _ i j hi hj=>by simp at hi) (fun j hj=>by simp at hj) (by rw [hsize];omega) (by simp)).mono ?_
 rintro e' w' ⟨rfl,hF⟩
 have f:=hF.facts
 refine ⟨rfl,hB0.trans ⟨f.1,f.2.1,f.2.2.1,hF.size,fun j hj=>f.2.2.2 j (by rw [hsize];omega) (by omega)⟩⟩
end
end Go.Proofs.YtaiepnaokhpmcaaGreat
namespace Go.Proofs.YtaiepnaokhpmcaaGreat
open Go.E
set_option maxRecDepth 100000
set_option maxHeartbeats 4000000
open Go Go.Sort Go.RowKit Go.Lib Go.Shelf Go.Proofs
section
variable {α : Type} [Inhabited α] {encA : α → List AV} {k blk : Nat}
def encV (encA:α→List AV) (x:α):List Value:=(encA x).map valA
theorem encV_flat (d:List α):(d.map (encV encA)).flatten=((d.map encA).flatten).map valA:=by
 induction d with
 | nil=>rfl
 | cons x d ih=>simp only [List.map_cons,List.flatten_cons,List.map_append,ih,encV]
theorem lessAt_con (hk:∀ x,(encA x).length=k) (hp:∀ x,∀ a∈encA x,plainA a=true) (lt:α→α→Bool) (g:Nat)
  (hcon:∀ (d:List α) (i j:Nat),i < d.length→j < d.length→Con Tryz.prog g [.i .i64 i,.i .i64 j,.eptr [.sl (d.map encA)]] (.b (lt d[i]! d[j]!)))
  {w:World} {gv n cap:Nat} (hgv:gv < w.heap.size) (hne:gv≠blk) (hb:blk < w.heap.size) (hc:w.cell? ⟨gv,0,none⟩=some (.slice (some ⟨blk,0,none⟩) n cap)) (hn:n≤cap) (hm:n≤maxLen) (d0:Array α) (hs0:d0.size=n) (hH:HoldsK (encV encA) k w blk 0 d0) :
  LessAt g #[.pointer (some ⟨gv,0,none⟩)] (encV encA) k lt blk 0 n w:=by
 intro W dk hF hs i j hi hj
 have hkV:∀ x,(encV encA x).length=k:=fun x=>by simp [encV,hk]
 have hHW:HoldsK (encV encA) k W blk 0 dk:=hF.holds hb hH (by omega)
 have hsize:=hF.size
 have hcW:W.cell? ⟨gv,0,none⟩=some (.slice (some ⟨blk,0,none⟩) n cap):=by rw [hF.cell hgv hne];exact hc
 have hlen:dk.toList.length=n:=by simpa using hs
 have hrel:RelV0 (fun b=>b < W.heap.size) W (.sl (dk.toList.map encA)) (.slice (some ⟨blk,0,none⟩) n cap):=by
  have hl:(dk.toList.map encA).length=n:=by simpa using hs
  have hel:∀ j q,j < n→q < k→∃ a,(encA dk[j]!)[q]?=some a∧plainA a=true∧(encV encA dk[j]!)[q]! = valA a:=by
   intro j q hj hq
   have hq':q < (encA dk[j]!).length:=by rw [hk];exact hq
   refine ⟨(encA dk[j]!)[q],List.getElem?_eq_getElem hq',hp _ _ (List.getElem_mem hq'),?_⟩
   rw [getElem!_pos _ q (by rw [hkV];exact hq)]
   simp [encV]
  have:=RelV0.sl (S:=fun b=>b < W.heap.size) (w:=W) (dk.toList.map encA) (some ⟨blk,0,none⟩) cap k (fun j q=>if j < n∧q < k then (encV encA dk[j]!)[q]! else .bool false) (by omega) (by omega) (fun h=>by cases h)
   (fun r hr=>by obtain ⟨x,_,rfl⟩:=List.mem_map.1 hr;exact hk x)
   (fun _=>⟨⟨blk,0,none⟩,rfl,by show blk < W.heap.size;omega,fun j q hj hq=>by
    have:=(hHW.cell (i:=j) (c:=q) (by omega) hq).1
    rw [if_pos ⟨by omega,hq⟩,← this]
    congr 1
    simp [Addr.add]
    try (intros;omega)⟩)
   (fun j q=>by
    split
    ·rename_i h
     obtain ⟨a,_,h2,h3⟩:=hel j q h.1 h.2
     rw [h3]
     exact plain_one h2
    ·rfl)
   (fun j q r a hr ha=>by
    have hj:j < n:=by have:=lt_of_getElem? hr;omega
    rw [List.getElem?_map] at hr
    have e1:dk.toList[j]?=some dk[j]!:=by rw [Array.getElem?_toList,getElem?_pos dk j (by omega),getElem!_pos dk j (by omega)]
    rw [e1,Option.map_some,Option.some.injEq] at hr
    subst hr
    have hq:q < k:=by have:=lt_of_getElem? ha;rw [hk] at this;exact this
    rw [if_pos ⟨hj,hq⟩]
    obtain ⟨a',h1,h2,h3⟩:=hel j q hj hq
    rw [ha,Option.some.injEq] at h1
    subst h1
    rw [h3]
    exact plain_rel h2)
  rw [hl] at this
  exact this
 have hC:=(hcon dk.toList i j (by omega) (by omega)).2 W (fun b=>b < W.heap.size) [.int .i64 i,.int .i64 j,.pointer (some ⟨gv,0,none⟩)] (fun _ h=>h) rfl (fun q a u ha hu=>by
  match q with
  | 0=>simp only [List.getElem?_cons_zero,Option.some.injEq] at ha hu;subst ha;subst hu;exact .i _ _
  | 1=>simp only [List.getElem?_cons_succ,List.getElem?_cons_zero,Option.some.injEq] at ha hu;subst ha;subst hu;exact .i _ _
  | 2 =>
   simp only [List.getElem?_cons_succ,List.getElem?_cons_zero,Option.some.injEq] at ha hu
   subst ha;subst hu
   refine .eptr _ ⟨gv,0,none⟩ (fun _=>.slice (some ⟨blk,0,none⟩) n cap) (by show gv < W.heap.size;omega) (fun q hq=>?_) (fun _=>rfl) (fun q a ha=>?_)
   ·have:q=0:=by simpa using hq
    subst this
    exact hcW
   ·have:q=0:=by have:=lt_of_getElem? ha;simpa using this
    subst this
    simp only [List.getElem?_cons_zero,Option.some.injEq] at ha
    subst ha
    exact hrel
  | q+3=>simp at ha)
 refine hC.mono ?_
 rintro e w' ⟨v,rfl,hr,hB⟩
 cases hr
 refine ⟨?_,hB⟩
 rw [← Array.getElem!_toList,← Array.getElem!_toList]
theorem ioStable {t e:Nat} {fN:Nat→Nat} (hT:SortTy t e k fN) (hk:∀ x,(encA x).length=k) (hp:∀ x,∀ a∈encA x,plainA a=true) (lt:α→α→Bool) (hO:SWO lt) (g:Nat) (hg:Callable Tryz.prog g) (hS:Callable Tryz.prog 160)
  (hcon:∀ (d:List α) (i j:Nat),i < d.length→j < d.length→Con Tryz.prog g [.i .i64 i,.i .i64 j,.eptr [.sl (d.map encA)]] (.b (lt d[i]! d[j]!))) (d:List α) (hlen:d.length < 1152921504606846976) :
  IOCon Tryz.prog 160 g t true e k (d.map encA) ((d.mergeSort (fun x y=>!lt y x)).map encA):=by
 have hkV:∀ x,(encV encA x).length=k:=fun x=>by simp [encV,hk]
 have hone:∀ x,∀ v∈encV encA x,v.oneCell'=true:=by
  intro x v hv
  obtain ⟨a,ha,rfl⟩:=List.mem_map.1 hv
  exact plain_one (hp x a ha)
 have hpl:∀ l:List α,∀ a∈(l.map encA).flatten,plainA a=true:=by
  intro l a ha
  obtain ⟨r,hr,har⟩:=List.mem_flatten.1 ha
  obtain ⟨x,_,rfl⟩:=List.mem_map.1 hr
  exact hp x a har
 refine ⟨hS,by simp,fun r hr=>?_,hpl _,hpl _,fun w base v cv ho hcap=>?_⟩
 ·obtain ⟨x,_,rfl⟩:=List.mem_map.1 hr;exact hk x
 ·obtain ⟨gv,rfl,q1,q2,q3⟩:=hcap rfl
  simp only [if_true]
  rw [List.length_map] at ho ⊢
  rcases ho.2 with ⟨rfl,h0⟩ | ⟨b,cap,cur,rfl,hb,hh,h1,h2,h3,h4⟩
  ·have:d=[]:=List.eq_nil_of_length_eq_zero h0
   subst this
   refine (sliceStable_nil (enc:=encV encA) hT lt hO hkV g #[.pointer (some ⟨gv,0,none⟩)] hg w).mono ?_
   rintro e' w' ⟨rfl,hB⟩
   refine ⟨rfl,⟨by simp,.inl ⟨rfl,rfl⟩⟩,fun j hj _=>hB.block j hj,hB.os,hB.tape,hB.output,hB.size⟩
  ·have hbl:b < w.heap.size:=(Array.getElem?_eq_some_iff.1 hh).1
   have hne:gv≠b:=fun e=>q3 (by rw [e];rfl)
   have hHd:HoldsK (encV encA) k w b 0 d.toArray:=holds_of_owns hkV ho (by simp) (by rw [← encV_flat])
   have hl:=lessAt_con (blk:=b) hk hp lt g hcon q1 hne hbl q2 h1 (by omega) d.toArray (by simp) hHd
   have hw:=sliceStable_walk (blk:=b) (off:=0) (enc:=encV encA) hT hkV hone lt hO g #[.pointer (some ⟨gv,0,none⟩)] hg cap d.toArray (by simp;omega) w (by simpa using hl) hHd hbl
   rw [show d.toArray.size=d.length by simp] at hw
   refine hw.mono ?_
   rintro e' w' ⟨rfl,hF⟩
   have f:=hF.facts
   have ow:=hF.owns hkV (stS_size lt d.toArray) (by rw [← encV_flat]) (by simp) ho
   refine ⟨rfl,?_,fun j hj hjb=>f.2.2.2 j hj (fun e=>hjb (by rw [e];rfl)),f.1,f.2.1,f.2.2.1,hF.size⟩
   rw [← encV_flat]
   exact ow
end
end Go.Proofs.YtaiepnaokhpmcaaGreat
namespace Go.Proofs.YtaiepnaokhpmcaaGreat
open Go.E
set_option maxRecDepth 100000
set_option maxHeartbeats 4000000
open Go Go.Sort Go.RowKit Go.Lib Go.Shelf Go.Proofs
def renClE:Go.Shelf.Ren:=⟨fun | 41=>159 | n=>n,fun | 4=>4 | 22=>22 | 23=>45 | n=>n,fun n=>n⟩
theorem laysClE:Go.Proofs.SlLaysE0.n41 Tryz.prog renClE:={ mixed:=by kernel_rfl,f41:=⟨Tryz.f159.name,by decide,Tryz.func159.trans (congrArg some (by kernel_rfl))⟩,t4:=Tryz.underlying4,a4:=Tryz.isAgg4,z4:=Tryz.sizeOf4,v4:=Tryz.zeroValue4,t22:=Tryz.underlying22,a22:=Tryz.isAgg22,z22:=Tryz.sizeOf22,v22:=Tryz.zeroValue22 }
theorem con159 (es:List Entry) (hl:es.length*40≤140737488355328):ConB Tryz.prog 159 [.sl (es.map c45)] 45 (.row 4 (es.map c45)) :=
 conB_clone (T:=tab) laysClE tab_ok (te:=_) rfl ⟨_,Tryz.func159,by kernel_rfl,by kernel_rfl⟩ (by kernel_rfl) (by decide +kernel) (fun r hr=>by obtain ⟨x,_,rfl⟩:=List.mem_map.1 hr;kernel_rfl) (by rw [List.length_map];exact hl)
noncomputable def tiRowE:TypeInfo:=(Tryz.prog.info? 22).get!
noncomputable def tiE:TypeInfo:=(Tryz.prog.info? 45).get!
def swE (n:Nat):Nat:=if n=0 then 211 else if n=1 then 212 else 219
theorem swKE (n:Nat) (h2:2≤n):swapperK n tiE 25=9:=by
 have b:tiE.bytes=40:=by kernel_rfl
 have c:(n == 0)=false:=by simp;omega
 have d:(n == 1)=false:=by simp;omega
 simp [swapperK,b,c,d]
theorem sortTyE:SortTy 22 45 4 swE:=by
 refine ⟨tiRowE,tiE,25,false,by kernel_rfl,by kernel_rfl,by kernel_rfl,by kernel_rfl,fun _=>by kernel_rfl,fun n=>?_,by kernel_rfl,fun _=>by kernel_rfl,fun n h2=>?_⟩
 ·match n with
  | 0=>show _=some 211;kernel_rfl
  | 1=>show _=some 212;kernel_rfl
  | n+2 =>
   rw [swKE _ (by omega)]
   simp only [swE]
   rw [if_neg (by omega),if_neg (by omega)]
   show _=some 219
   kernel_rfl
 ·have e:swE n=219:=by simp only [swE];rw [if_neg (by omega),if_neg (by omega)]
  rw [e]
  exact fun args W=>run_callFunc_extern Tryz.func219 (by kernel_rfl) (by kernel_rfl) (by kernel_rfl) (e:=Extern.ReflectliteSwapper.swap false) (by kernel_rfl) args W
def ltE (a b:Entry):Bool:=dLt a.dot b.dot
theorem swo_ltE:SWO ltE:=by
 refine ⟨fun x=>?_,fun x y z h1 h2=>?_,fun x y z h1 h2=>?_⟩ <;> simp only [ltE,dLt,decide_eq_true_eq,decide_eq_false_iff_not] at*<;> omega
theorem con161 (d:List Entry) (i j:Int) (hi0:0≤i) (hj0:0≤j) (hi:i < d.length) (hj:j < d.length):Con Tryz.prog 161 [.i .i64 i,.i .i64 j,.eptr [.sl (d.map c45)]] (.b (ltE d[i.toNat]! d[j.toNat]!)) :=
 by
 refine st_con tab_ok (by kernel_rfl) [.tmp 5] 17 Go.Proofs.Tryz.func161 (by kernel_rfl) (by kernel_rfl) ?_
 intro e0 cx
 refine sq<|rG cx [0,1,2] [] z0<|sn<|sq<|rA cx [5] [] (fA ((0:Int)≤i) (fG c45 d i.toNat (fR (4:Nat) (fN 2 4 (fA ((0:Int)≤j) (fG c45 d j.toNat (fR (4:Nat) (fN 2 4 (fT (con112 (d[i.toNat]!.dot) (d[j.toNat]!.dot)) (oR 2 (c45 d[i.toNat]!) (oR 7 (c45 d[j.toNat]!) (oA 10 (.b (dLt d[i.toNat]!.dot d[j.toNat]!.dot)) z0))))))))))))<|sn<|rT<|qR (.b (dLt d[i.toNat]!.dot d[j.toNat]!.dot)) (.eq ?g0);rotate_left
 case g0=>exact rfl
theorem io160 (d:List Entry) (hlen:d.length < 1152921504606846976) :
  IOConG Tryz.prog 160 161 (some 22) true 45 4 (d.map c45) ((d.mergeSort (fun x y=>!ltE y x)).map c45):=by
 refine IOCon.toG (fun r hr=>by obtain ⟨x,_,rfl⟩:=List.mem_map.1 hr;rfl) ?_
 exact ioStable (α:=Entry) (encA:=c45) (k:=4) sortTyE (fun x=>rfl)
  (fun x a ha=>by
   simp only [c45,List.mem_cons,List.not_mem_nil,or_false] at ha
   rcases ha with rfl | rfl | rfl | rfl <;> rfl)
  ltE swo_ltE 161 ⟨_,Tryz.func161,by kernel_rfl,by kernel_rfl⟩ ⟨_,Tryz.func160,by kernel_rfl,by kernel_rfl⟩
  (fun d i j hi hj=>by
   have:=con161 d (i:Int) (j:Int) (by omega) (by omega) (by omega) (by omega)
   rw [Int.toNat_natCast,Int.toNat_natCast] at this
   exact this) d hlen
def srtE (es:List Entry):List Entry:=es.mergeSort (fun x y=>!ltE y x)
theorem srtE_length (es:List Entry):(srtE es).length=es.length:=by simp [srtE]
def errL (es:List Entry):Int:=match es.find? (fun e=>decide (entE e≠0)) with | some e=>entE e | none=>0
def onceN (s:List Entry):Nat→Option (List Entry)
 | 0=>some []
 | n+1=>match onceN s n with
  | none=>none
  | some l=>if n=0∨s[n-1]!.dot≠s[n]!.dot then some (l++[s[n]!]) else if s[n-1]! = s[n]! then some l else none
def onceR (s:List Entry):List Entry×Int:=match onceN s s.length with | some l=>(l,0) | none=>([],10)
def sortR (es:List Entry):List Entry×Int:=if errL es=0 then onceR (srtE es) else ([],errL es)
theorem errL_ok {es:List Entry} (h:∀ j:Nat,j < es.length→entE es[j]! = 0):errL es=0:=by
 unfold errL
 have:es.find? (fun e=>decide (entE e≠0))=none:=by
  rw [List.find?_eq_none]
  intro x hx
  obtain ⟨j,hj,rfl⟩:=List.mem_iff_getElem.1 hx
  have:=h j hj
  rw [getElem!_pos es j hj] at this
  simp [this]
 rw [this]
theorem errL_bad {es:List Entry}:∀ {i:Nat},i < es.length→¬ entE es[i]! = 0→(∀ j:Nat,j < i→entE es[j]! = 0)→errL es=entE es[i]!:=by
 induction es with
 | nil=>intro i hi;simp at hi
 | cons e es ih =>
  intro i hi hb hok
  cases i with
  | zero =>
   have hb':¬ entE e=0:=by simpa using hb
   unfold errL
   simp [List.find?_cons,hb']
  | succ i =>
   have h0:entE e=0:=by simpa using hok 0 (by omega)
   have:=ih (i:=i) (by simpa using hi) (by simpa using hb) (fun j hj=>by simpa using hok (j+1) (by omega))
   unfold errL at this ⊢
   simpa [List.find?_cons,h0] using this
theorem onceN_none {s:List Entry} {n:Nat} (h:onceN s n=none):∀ m,onceN s (n+m)=none
 | 0=>h
 | m+1=>by rw [← Nat.add_assoc,onceN,onceN_none h m]
def risesE (s:List Entry):Prop:=s.Pairwise (fun x y=>(!ltE y x)=true)
theorem srtE_rises (es:List Entry):risesE (srtE es):=by
 refine List.pairwise_mergeSort (le:=fun x y=>!ltE y x) ?_ ?_ es
 ·intro a b c h1 h2
  simp only [Bool.not_eq_true'] at *
  exact swo_ltE.ntrans _ _ _ h2 h1
 ·intro a b
  cases h:ltE b a with
  | false=>rfl
  | true=>simp [swo_ltE.asymmA h]
theorem rng_onceR (s:List Entry):(onceR s).1.length≤s.length:=by
 have:∀ n l,onceN s n=some l→l.length≤n:=by
  intro n
  induction n with
  | zero=>intro l h;simp [onceN] at h;simp [← h]
  | succ n ih =>
   intro l h
   rw [onceN] at h
   split at h
   ·cases h
   ·rename_i l0 h0
    have:=ih l0 h0
    split at h
    ·simp only [Option.some.injEq] at h;rw [← h];simp;omega
    ·split at h
     ·simp only [Option.some.injEq] at h;rw [← h];omega
     ·cases h
 unfold onceR
 split
 ·rename_i l h;exact this _ _ h
 ·simp
theorem rng_sortR (es:List Entry):(sortR es).1.length≤es.length:=by
 unfold sortR
 split
 ·have:=rng_onceR (srtE es)
  rwa [srtE_length] at this
 ·simp
def inv25a (es:List Entry) (i:Int):Prop:=0≤i∧i≤es.length∧∀ j:Nat,(j:Int) < i→entE es[j]! = 0
end Go.Proofs.YtaiepnaokhpmcaaGreat
namespace Go.Proofs.YtaiepnaokhpmcaaGreat
open Go.E
set_option maxRecDepth 100000
set_option maxHeartbeats 4000000
def inv57 (s:List Entry) (i:Int) (l:List Entry):Prop:=0≤i∧i≤s.length∧onceN s i.toNat=some l∧(l.length:Int)≤i
def inv25c (s:List Entry) (i:Int) (a l:List Entry):Prop:=a=s∧0≤i∧i≤s.length∧onceN s i.toNat=some l∧(l.length:Int)≤i
def dec25c (s:List Entry) (i:Int) (a l:List Entry):Nat:=(s.length-i).toNat
def findE (es:List Entry) (d:Dot):Entry×Bool:=match es.find? (fun e=>decide (e.dot=d)) with | some e=>(e,true) | none=>(default,false)
def inv28 (es:List Entry) (d:Dot) (i r n a b:Int) (s:ByteArray) (q:Int):Prop:=0≤i∧i≤es.length∧r=d.rep∧n=d.num∧∀ j:Nat,(j:Int) < i→¬ es[j]!.dot=d
def dec28 (es:List Entry) (i r n a b:Int) (s:ByteArray) (q:Int):Nat:=(es.length-i).toNat
theorem sortR_bad {es:List Entry} {i:Nat} (hi:i < es.length) (hb:¬ entE es[i]! = 0) (hok:∀ j:Nat,j < i→entE es[j]! = 0):sortR es=([],entE es[i]!):=by
 have:=errL_bad hi hb hok
 unfold sortR
 rw [this,if_neg hb]
theorem sortR_ok {es:List Entry} (hok:∀ j:Nat,j < es.length→entE es[j]! = 0):sortR es=onceR (srtE es):=by
 unfold sortR
 rw [if_pos (errL_ok hok)]
theorem onceN_next {s l:List Entry} {i:Int} (h0:0≤i) (h:onceN s i.toNat=some l) :
  onceN s (i+1).toNat=if ¬ (0 < i∧s[(i-1).toNat]!.dot=s[i.toNat]!.dot) then some (l++[s[i.toNat]!]) else if s[(i-1).toNat]! = s[i.toNat]! then some l else none:=by
 have e:(i+1).toNat=i.toNat+1:=by omega
 have e2:(i-1).toNat=i.toNat-1:=by omega
 rw [e,onceN,h,e2]
 have hc:(i.toNat=0∨s[i.toNat-1]!.dot≠s[i.toNat]!.dot)↔¬ (0 < i∧s[i.toNat-1]!.dot=s[i.toNat]!.dot):=by
  constructor
  ·rintro (h | h) ⟨h1,h2⟩
   ·omega
   ·exact h h2
  ·intro h
   by_cases z:i.toNat=0
   ·exact .inl z
   ·exact .inr fun g=>h ⟨by omega,g⟩
 simp only [hc]
theorem once_app {s l:List Entry} {i:Int} (h0:0≤i) (h:onceN s i.toNat=some l) (hi:i < s.length) (hl:(l.length:Int)≤i) (hc:¬ (0 < i∧s[(i-1).toNat]!.dot=s[i.toNat]!.dot)):inv57 s (i+1) (l++[s[i.toNat]!]) :=
 ⟨by omega,by omega,by rw [onceN_next h0 h,if_pos hc],by simp;omega⟩
theorem once_skip {s l:List Entry} {i:Int} (h0:0≤i) (h:onceN s i.toNat=some l) (hi:i < s.length) (hl:(l.length:Int)≤i) (hc:0 < i∧s[(i-1).toNat]!.dot=s[i.toNat]!.dot) (he:¬ ¬ s[(i-1).toNat]! = s[i.toNat]!):inv57 s (i+1) l :=
 ⟨by omega,by omega,by rw [onceN_next h0 h,if_neg (fun k=>k hc),if_pos (Classical.not_not.1 he)],by omega⟩
theorem once_clash {s l:List Entry} {i:Int} (h0:0≤i) (h:onceN s i.toNat=some l) (hi:i < s.length) (hc:0 < i∧s[(i-1).toNat]!.dot=s[i.toNat]!.dot) (he:¬ s[(i-1).toNat]! = s[i.toNat]!):onceR s=([],10):=by
 have h1:onceN s (i+1).toNat=none:=by rw [onceN_next h0 h,if_neg (fun k=>k hc),if_neg he]
 have h2:=onceN_none h1 (s.length-(i+1).toNat)
 rw [show (i+1).toNat+(s.length-(i+1).toNat)=s.length by omega] at h2
 unfold onceR
 rw [h2]
theorem once_end {s l:List Entry} {i:Int} (h0:0≤i) (h:onceN s i.toNat=some l) (h1:i≤s.length) (hi:¬ i < s.length):onceR s=(l,0):=by
 unfold onceR
 rw [show s.length=i.toNat by omega,h]
theorem find_at {es:List Entry} {d:Dot}:∀ {i:Nat},i < es.length→es[i]!.dot=d→(∀ j:Nat,j < i→¬ es[j]!.dot=d)→findE es d=(es[i]!,true):=by
 induction es with
 | nil=>intro i hi;simp at hi
 | cons e es ih =>
  intro i hi hb hok
  cases i with
  | zero =>
   have hb':e.dot=d:=by simpa using hb
   unfold findE
   simp [List.find?_cons,hb']
  | succ i =>
   have h0:¬ e.dot=d:=by simpa using hok 0 (by omega)
   have:=ih (i:=i) (by simpa using hi) (by simpa using hb) (fun j hj=>by simpa using hok (j+1) (by omega))
   unfold findE at this ⊢
   simpa [List.find?_cons,h0] using this
theorem find_no {es:List Entry} {d:Dot} (h:∀ j:Nat,j < es.length→¬ es[j]!.dot=d):findE es d=(default,false):=by
 unfold findE
 have:es.find? (fun e=>decide (e.dot=d))=none:=by
  rw [List.find?_eq_none]
  intro x hx
  obtain ⟨j,hj,rfl⟩:=List.mem_iff_getElem.1 hx
  have:=h j hj
  rw [getElem!_pos es j hj] at this
  simpa using this
 rw [this]
theorem con118 (es:List Entry) (hl:es.length*40≤140737488355328):Con Tryz.prog 118 [.sl (es.map c45)] (.tup [.sl ((sortR es).1.map c45),.i .i64 (sortR es).2]) :=
 by
 have hL:(es.mergeSort fun x y=>!ltE y x).length=es.length:=by simp
 have hS:=srtE_length es
 refine con_lens 0 (c45) (es) (by kernel_rfl) Go.Proofs.Tryz.func118 (by kernel_rfl) fun hl_0=>st_con tab_ok (by kernel_rfl) [.tmp 2,.tmp 3] 62 Go.Proofs.Tryz.func118 (by kernel_rfl) (by kernel_rfl) ?_
 intro e0 cx
 refine sq<|rG cx [0] [] z0<|sn<|sq<|sq<|rG cx [0,11,12,13] [] (tL 1 c45 es z0)<|sn<|bL 0<|st_loop (X:=Int) (fun x=>⟨[(0,.sl (List.map c45 es)),(11,.sl (List.map c45 es)),(12,.i .i64 ((↑es.length:Int))),(13,.i .i64 (x))],[]⟩) (fun x ↦ dec30i es x) (fun x ↦ inv25a es x) [0,11,12,13] [] ((0:Int)) (by kernel_rfl) (by kernel_rfl) (show inv25a es (0:Int) from ?g0) ?_;rotate_left
 intro i0 h_1
 obtain ⟨hh2,hh3,hh4⟩:(0:Int)≤i0∧i0≤(↑es.length:Int)∧∀ (j:Nat),(↑j:Int) < i0→entE es[j]! = (0:Int):=h_1
 refine sq<|rG cx [0,11,12,13,14] [] (tB 0 (i0 < (↑es.length:Int)) z0)<|sn<|sq<|dC (i0 < (↑es.length:Int)) (fun h5=>?_) fun h5=>?_
 refine sK<|sn<|sq<|bL 1<|sq<|rG cx [0,11,12,13,5] [5] (fA ((0:Int)≤i0) (fG c45 es i0.toNat (fR (4:Nat) (fN 4 4 (oR 0 (c45 es[i0.toNat]!) z0)))))<|sn<|sq<|rG cx [0,11,12,13,6] [] (fT (con111 (es[i0.toNat]!)) (oA 1 (.i .i64 (entE es[i0.toNat]!)) z0))<|sn<|sq<|rG cx [0,11,12,13,6,20] [] (tN 1 (entE es[i0.toNat]!) (0:Int) z0)<|sn<|dC (¬entE es[i0.toNat]! = (0:Int)) (fun h6=>?_) fun h6=>?_
 refine sq<|rG cx [2,3] [] z0<|sn<|rT<|bR<|nR<|nR<|bR<|nR<|qR (.tup [.nl,.i .i64 (entE es[i0.toNat]!)]) (AVle.tup (ZLe.cons (AVle.nl' (show List.map c45 (sortR es).1=[] from ?g2)) (ZLe.cons (AVle.eq (show AV.i .i64 (entE es[i0.toNat]!)=AV.i .i64 (sortR es).2 from ?g1)) ZLe.nil)));rotate_left 2
 refine sK<|bN<|sn<|rG cx [0,11,12,13] [] (tW 0 (i0+(1:Int)) z0)<|sn<|loop_next (i0+(1:Int)) (by kernel_rfl) (show ((↑es.length:Int)-(i0+(1:Int))).toNat < ((↑es.length:Int)-i0).toNat from (by omega)) (show inv25a es (i0+(1:Int)) from ?g3);rotate_left
 refine eX 0<|nE<|nE<|bH<|sn<|sq<|rG cx [7] [24,7] (fT (con159 (es) (by (with_reducible assumption))) (oV 1 { val:=some (.own (45:Nat) (4:Nat)),rows:=some (List.map c45 es) } z0))<|sn<|sq<|rG cx [7] [24,7] (fR (AV.own (24) (0)) (fP (IOConG Tryz.prog (160:FuncId) (161:FuncId) (some (22:Nat)) true (45:Nat) (4:Nat) (List.map c45 es) (List.map c45 (es.mergeSort fun x y ↦ !ltE y x))) (io160 (es) (by omega)) (oV 3 { rows:=some (List.map c45 (es.mergeSort fun x y ↦ !ltE y x)) } z0)))<|sn<|sq<|rG cx [7,8] [24,7] z0<|sn<|sq<|sq<|rG cx [7,8,29,30,31] [24,7] (tL 1 c45 (es.mergeSort fun x y ↦ !ltE y x) z0)<|sn<|bL 2<|awp_adopt 8 1008 45 4 (σ':=⟨[(7,.ptr (7) (0) (0) (0)),(8,.own 1008 0),(29,.own 24 0),(30,.i .i64 ((↑(es.mergeSort fun x y ↦ !ltE y x).length:Int))),(31,.i .i64 ((0:Int)))],[(24,⟨0,45,.row 4 (List.map c45 (es.mergeSort fun x y ↦ !ltE y x))⟩),(7,⟨0,22,.var [.own 24 0]⟩),(1008,⟨0,45,.row 4 (List.map c45 [])⟩)]⟩) (by kernel_rfl)<|st_loop (X:=Int×List Entry×List Entry) (fun x=>⟨[(7,.ptr (7) (0) (0) (0)),(8,.own 1008 0),(29,.own 24 0),(30,.i .i64 ((↑(es.mergeSort fun x y ↦ !ltE y x).length:Int))),(31,.i .i64 (x.1))],[(24,⟨0,45,.row 4 (List.map c45 x.2.1)⟩),(7,⟨0,22,.var [.own 24 0]⟩),(1008,⟨0,45,.row 4 (List.map c45 x.2.2)⟩)]⟩) (fun x ↦ dec25c (srtE es) x.1 x.2.1 x.2.2) (fun x ↦ inv25c (srtE es) x.1 x.2.1 x.2.2) [7,8,29,30,31] [24,7,1008] (((0:Int),es.mergeSort fun x y ↦ !ltE y x,[])) (by kernel_rfl) (by kernel_rfl) (show inv25c (srtE es) (0:Int) (es.mergeSort fun x y ↦ !ltE y x) [] from ?g4) ?_;rotate_left
 rintro ⟨ii7,a8,l9⟩ h_10
 obtain ⟨h11,h12,h13,h14,h15⟩:a8=srtE es∧(0:Int)≤ii7∧ii7≤(↑(srtE es).length:Int)∧onceN (srtE es) ii7.toNat=some l9∧(↑l9.length:Int)≤ii7:=h_10
 refine sq<|rG cx [7,8,29,30,31,32] [24,7,1008] (tB 0 (ii7 < (↑(es.mergeSort fun x y ↦ !ltE y x).length:Int)) z0)<|sn<|sq<|dC (ii7 < (↑(es.mergeSort fun x y ↦ !ltE y x).length:Int)) (fun h16=>?_) fun h16=>?_
 refine sK<|sn<|sq<|bL 3<|sq<|rG cx [7,8,29,30,31,10,9] [24,7,1008,10] (fA ((0:Int)≤ii7) (fP (ii7.toNat < (List.map c45 a8).length) ?g5 (fR 4 (fP (E.rowAt { ver:=0,ty:=45,k:=BK.row (4) (List.map c45 a8):Blk } ii7.toNat (c45 a8[ii7.toNat]!)) ?g6 (fP (0+(4:Nat)≤(c45 a8[ii7.toNat]!).length) ?g7 (oR 2 (c45 a8[ii7.toNat]!) z0)))))) ?_;rotate_left 3
 refine sn<|sq<|sq<|st_join (σ':=⟨[(7,.ptr (7) (0) (0) (0)),(8,.own 1008 0),(29,.own 24 0),(30,.i .i64 ((↑(es.mergeSort fun x y ↦ !ltE y x).length:Int))),(31,.i .i64 (ii7)),(10,.ptr (10) (0) (0) (0)),(9,.i .i64 (ii7)),(48,.b (decide ((0:Int) < ii7∧a8[(ii7-(1:Int)).toNat]!.dot=a8[ii7.toNat]!.dot)))],[(24,⟨0,45,.row 4 (List.map c45 a8)⟩),(7,⟨0,22,.var [.own 24 0]⟩),(1008,⟨0,45,.row 4 (List.map c45 l9)⟩),(10,⟨0,45,.var [.i .i64 (a8[ii7.toNat]!.dot.rep),.i .i64 (a8[ii7.toNat]!.dot.num),.s (a8[ii7.toNat]!.sku),.i .i64 (a8[ii7.toNat]!.qty)]⟩)]⟩) ?_ ?_
 refine st_split ((0:Int) < ii7) (fun h18=>?_) (fun h18=>?_)
 refine rA cx [7,8,29,30,31,10,9,48] [24,7,1008,10] (tT 1 (told_true h18) (tT 5 (told_i64 (by omega) ?g8:AV.i .i64 (IntKind.i64.wrap (ii7-(1:Int)))=AV.i .i64 (ii7-(1:Int))) (fO ((0:Int)≤ii7-(1:Int)) (fP ((ii7-(1:Int)).toNat < (List.map c45 a8).length) ?g9 (fR 4 (fP (E.rowAt { ver:=0,ty:=45,k:=BK.row (4) (List.map c45 a8):Blk } (ii7-(1:Int)).toNat (c45 a8[(ii7-(1:Int)).toNat]!)) ?g10 (fP (0+(2:Nat)≤(c45 a8[(ii7-(1:Int)).toNat]!).length) ?g11 (fT (eq43 a8[(ii7-(1:Int)).toNat]!.dot a8[ii7.toNat]!.dot) (tD 12 (decide (a8[(ii7-(1:Int)).toNat]!.dot=a8[ii7.toNat]!.dot)) ((0:Int) < ii7∧a8[(ii7-(1:Int)).toNat]!.dot=a8[ii7.toNat]!.dot) (by simp only [eq_true h18,tsl]) (oR 8 (c45 a8[(ii7-(1:Int)).toNat]!) (oA 11 (.b (decide (a8[(ii7-(1:Int)).toNat]!.dot=a8[ii7.toNat]!.dot))) z0))))))))))) ?_;rotate_left 4
 exact ⟨rfl,by kernel_rfl⟩
 refine rA cx [7,8,29,30,31,10,9,48] [24,7,1008,10] (tT 1 (told_false h18) (tD 12 false ((0:Int) < ii7∧a8[(ii7-(1:Int)).toNat]!.dot=a8[ii7.toNat]!.dot) (by simp only [eq_false h18,tsl]) z0)) ?_
 exact ⟨rfl,by kernel_rfl⟩
 refine sn<|dC ((0:Int) < ii7∧a8[(ii7-(1:Int)).toNat]!.dot=a8[ii7.toNat]!.dot) (fun h19=>?_) fun h19=>?_
 refine sq<|sq<|rA cx [7,8,29,30,31,55] [24,7,1008] (tT 2 (told_i64 (by omega) ?g12:AV.i .i64 (IntKind.i64.wrap (ii7-(1:Int)))=AV.i .i64 (ii7-(1:Int))) (fO ((0:Int)≤ii7-(1:Int)) (fP ((ii7-(1:Int)).toNat < (List.map c45 a8).length) ?g13 (fR 4 (fP (E.rowAt { ver:=0,ty:=45,k:=BK.row (4) (List.map c45 a8):Blk } (ii7-(1:Int)).toNat (c45 a8[(ii7-(1:Int)).toNat]!)) ?g14 (fP (0+(4:Nat)≤(c45 a8[(ii7-(1:Int)).toNat]!).length) ?g15 (fT (aggNe_dec (eq45 a8[(ii7-(1:Int)).toNat]! a8[ii7.toNat]!)) (oR 4 (c45 a8[(ii7-(1:Int)).toNat]!) (oA 6 (.b (decide ¬a8[(ii7-(1:Int)).toNat]! = a8[ii7.toNat]!)) z0))))))))) ?_;rotate_left 4
 refine sn<|dC (¬a8[(ii7-(1:Int)).toNat]! = a8[ii7.toNat]!) (fun h20=>?_) fun h20=>?_
 refine sq<|rG cx [2,3] [] z0<|sn<|rT<|nR<|nR<|bR<|nR<|nR<|bR<|nR<|qR (.tup [.nl,.i .i64 ((10:Int))]) (AVle.tup (ZLe.cons (AVle.nl' (show List.map c45 (sortR es).1=[] from ?g17)) (ZLe.cons (AVle.eq (show AV.i .i64 (10:Int)=AV.i .i64 (sortR es).2 from ?g16)) ZLe.nil)));rotate_left 2
 refine sK<|sn<|eX 3<|nE<|bH<|sn<|rG cx [7,8,29,30,31] [24,7,1008] (tT 0 (told_i64 (by omega) ?g18:AV.i .i64 (IntKind.i64.wrap (ii7+(1:Int)))=AV.i .i64 (ii7+(1:Int))) z0) ?_;rotate_left
 refine sn<|loop_next ((ii7+(1:Int),a8,l9)) (by kernel_rfl) (show ((↑(srtE es).length:Int)-(ii7+(1:Int))).toNat < ((↑(srtE es).length:Int)-ii7).toNat from ?g19) (show inv25c (srtE es) (ii7+(1:Int)) a8 l9 from ?g20);rotate_left 2
 refine sK<|sn<|rG cx [7,8,29,30,31] [24,7,1008] (fR (45:Nat) (fR 4 (fR (4:Nat) (fX c45 [a8[ii7.toNat]!] 4 (fP ((List.map c45 l9).length+(List.map c45 [a8[ii7.toNat]!]).length≤maxLen) ?g21 (fP (((List.map c45 l9).length+(List.map c45 [a8[ii7.toNat]!]).length)*(40:Nat)≤(140737488355328:Nat)) ?g22 (fM c45 l9 [a8[ii7.toNat]!] (oV 3 { rows:=some (List.map c45 (l9++[a8[ii7.toNat]!])) } z0)))))))) ?_;rotate_left 2
 refine bN<|sn<|rG cx [7,8,29,30,31] [24,7,1008] (tT 0 (told_i64 (by omega) ?g23:AV.i .i64 (IntKind.i64.wrap (ii7+(1:Int)))=AV.i .i64 (ii7+(1:Int))) z0) ?_;rotate_left
 refine sn<|loop_next ((ii7+(1:Int),a8,l9++[a8[ii7.toNat]!])) (by kernel_rfl) (show ((↑(srtE es).length:Int)-(ii7+(1:Int))).toNat < ((↑(srtE es).length:Int)-ii7).toNat from ?g24) (show inv25c (srtE es) (ii7+(1:Int)) a8 (l9++[a8[ii7.toNat]!]) from ?g25);rotate_left 2
 refine eX 2<|nE<|nE<|bH<|sn<|sq<|rG cx [2,3] [1008] z0<|sn<|rT<|qR (.tup [.sl (List.map c45 l9),.i .i64 ((0:Int))]) (AVle.tup (ZLe.cons (AVle.eq (show AV.sl (List.map c45 l9)=AV.sl (List.map c45 (sortR es).1) from ?g27)) (ZLe.cons (AVle.eq (show AV.i .i64 (0:Int)=AV.i .i64 (sortR es).2 from ?g26)) ZLe.nil)));rotate_left 2
 rotate_left
 revert i0 hh2 hh3 hh4 h5 h6;rotate_left
 revert i0 hh2 hh3 hh4 h5 h6;rotate_left
 revert i0 hh2 hh3 hh4 h5 h6;rotate_left
 revert i0 hh2 hh3 hh4 h5;rotate_left
 revert i0 hh2 hh3 hh4 h5 ii7 a8 l9 h11 h12 h13 h14 h15 h16;rotate_left
 revert i0 hh2 hh3 hh4 h5 ii7 a8 l9 h11 h12 h13 h14 h15 h16;rotate_left
 revert i0 hh2 hh3 hh4 h5 ii7 a8 l9 h11 h12 h13 h14 h15 h16;rotate_left
 revert i0 hh2 hh3 hh4 h5 ii7 a8 l9 h11 h12 h13 h14 h15 h16 h18;rotate_left
 revert i0 hh2 hh3 hh4 h5 ii7 a8 l9 h11 h12 h13 h14 h15 h16 h18;rotate_left
 revert i0 hh2 hh3 hh4 h5 ii7 a8 l9 h11 h12 h13 h14 h15 h16 h18;rotate_left
 revert i0 hh2 hh3 hh4 h5 ii7 a8 l9 h11 h12 h13 h14 h15 h16 h18;rotate_left
 revert i0 hh2 hh3 hh4 h5 ii7 a8 l9 h11 h12 h13 h14 h15 h16 h19;rotate_left
 revert i0 hh2 hh3 hh4 h5 ii7 a8 l9 h11 h12 h13 h14 h15 h16 h19;rotate_left
 revert i0 hh2 hh3 hh4 h5 ii7 a8 l9 h11 h12 h13 h14 h15 h16 h19;rotate_left
 revert i0 hh2 hh3 hh4 h5 ii7 a8 l9 h11 h12 h13 h14 h15 h16 h19;rotate_left
 revert i0 hh2 hh3 hh4 h5 ii7 a8 l9 h11 h12 h13 h14 h15 h16 h19 h20;rotate_left
 revert i0 hh2 hh3 hh4 h5 ii7 a8 l9 h11 h12 h13 h14 h15 h16 h19 h20;rotate_left
 revert i0 hh2 hh3 hh4 h5 ii7 a8 l9 h11 h12 h13 h14 h15 h16 h19 h20;rotate_left
 revert i0 hh2 hh3 hh4 h5 ii7 a8 l9 h11 h12 h13 h14 h15 h16 h19 h20;rotate_left
 revert i0 hh2 hh3 hh4 h5 ii7 a8 l9 h11 h12 h13 h14 h15 h16 h19 h20;rotate_left
 revert i0 hh2 hh3 hh4 h5 ii7 a8 l9 h11 h12 h13 h14 h15 h16 h19;rotate_left
 revert i0 hh2 hh3 hh4 h5 ii7 a8 l9 h11 h12 h13 h14 h15 h16 h19;rotate_left
 revert i0 hh2 hh3 hh4 h5 ii7 a8 l9 h11 h12 h13 h14 h15 h16 h19;rotate_left
 revert i0 hh2 hh3 hh4 h5 ii7 a8 l9 h11 h12 h13 h14 h15 h16 h19;rotate_left
 revert i0 hh2 hh3 hh4 h5 ii7 a8 l9 h11 h12 h13 h14 h15 h16 h19;rotate_left
 revert i0 hh2 hh3 hh4 h5 ii7 a8 l9 h11 h12 h13 h14 h15 h16;rotate_left
 revert i0 hh2 hh3 hh4 h5 ii7 a8 l9 h11 h12 h13 h14 h15 h16;rotate_left
 case g1=>intro i h0 h1 h2 h3 h4;rw [sortR_bad (by omega) h4 (fun j hj=>h2 j (by omega))]
 case g2=>intro i h0 h1 h2 h3 h4;rw [sortR_bad (by omega) h4 (fun j hj=>h2 j (by omega))];rfl
 case g3 =>
  intro i h0 h1 h2 h3 h4
  refine ⟨by omega,by omega,fun j hj=>?_⟩
  by_cases e:j=i.toNat
  ·rw [e];exact Classical.not_not.1 h4
  ·exact h2 j (by omega)
 case g4=>intro i h0 h1 h2 h3;exact ⟨rfl,by omega,by omega,rfl,by simp⟩
 case g16=>intro i h0 h1 h2 h3 i7 a l k0 k1 k2 k3 k4 k5 k6 k7;subst k0;rw [sortR_ok (fun j hj=>h2 j (by omega)),once_clash k1 k3 (by omega) k6 k7]
 case g17=>intro i h0 h1 h2 h3 i7 a l k0 k1 k2 k3 k4 k5 k6 k7;subst k0;rw [sortR_ok (fun j hj=>h2 j (by omega)),once_clash k1 k3 (by omega) k6 k7];rfl
 case g20=>intro i h0 h1 h2 h3 i7 a l k0 k1 k2 k3 k4 k5 k6 k7;subst k0;exact ⟨rfl,once_skip k1 k3 (by omega) k4 k6 k7⟩
 case g25=>intro i h0 h1 h2 h3 i7 a l k0 k1 k2 k3 k4 k5 k6;subst k0;exact ⟨rfl,once_app k1 k3 (by omega) k4 k6⟩
 case g26=>intro i h0 h1 h2 h3 i7 a l k0 k1 k2 k3 k4 k5;rw [sortR_ok (fun j hj=>h2 j (by omega)),once_end k1 k3 k2 (by omega)]
 case g27=>intro i h0 h1 h2 h3 i7 a l k0 k1 k2 k3 k4 k5;rw [sortR_ok (fun j hj=>h2 j (by omega)),once_end k1 k3 k2 (by omega)]
 all_goals intros
 all_goals (try subst_vars)
 all_goals first
  | omega
  | (simp only [List.length_map,List.length_append,List.length_cons,List.length_nil,Go.maxLen];omega)
  | exact get_map (by omega)
  | exact Nat.le_of_ble_eq_true rfl
  | exact ⟨by omega,by omega,fun j hj=>by omega⟩
theorem con67 (es:List Entry) (d:Dot):Con Tryz.prog 67 [.sl (es.map c45),.agg (c43 d)] (.tup [.agg (c45 (findE es d).1),.b (findE es d).2]) :=
 by
 refine con_lens 0 (c45) (es) (by kernel_rfl) Go.Proofs.Tryz.func67 (by kernel_rfl) fun hl_0=>st_con tab_ok (by kernel_rfl) [.cell 4 45,.tmp 5] 21 Go.Proofs.Tryz.func67 (by kernel_rfl) (by kernel_rfl) ?_
 intro e0 cx
 refine sq<|rG cx [0,3,4] [3,4] z0<|sn<|sq<|sq<|rG cx [3,4,8,9,10] [3,4] (tL 1 c45 es z0)<|sn<|bL 0<|st_loop (X:=Int×Int×Int×Int×Int×ByteArray×Int) (fun x=>⟨[(3,.ptr (3) (0) (0) (0)),(4,.ptr (4) (0) (0) (0)),(8,.sl (List.map c45 es)),(9,.i .i64 ((↑es.length:Int))),(10,.i .i64 (x.1))],[(3,⟨0,43,.var [.i .i64 (x.2.1),.i .i64 (x.2.2.1)]⟩),(4,⟨0,45,.var [.i .i64 (x.2.2.2.1),.i .i64 (x.2.2.2.2.1),.s (x.2.2.2.2.2.1),.i .i64 (x.2.2.2.2.2.2)]⟩)]⟩) (fun x ↦ dec28 es x.1 x.2.1 x.2.2.1 x.2.2.2.1 x.2.2.2.2.1 x.2.2.2.2.2.1 x.2.2.2.2.2.2) (fun x ↦ inv28 es d x.1 x.2.1 x.2.2.1 x.2.2.2.1 x.2.2.2.2.1 x.2.2.2.2.2.1 x.2.2.2.2.2.2) [3,4,8,9,10] [3,4] (((0:Int),d.rep,d.num,(0:Int),(0:Int),{ data:=#[]:ByteArray },(0:Int))) (by kernel_rfl) (by kernel_rfl) (show inv28 es d (0:Int) d.rep d.num (0:Int) (0:Int) { data:=#[]:ByteArray } (0:Int) from ?g0) ?_;rotate_left
 rintro ⟨i0,r1,n2,a3,b4,s5,q6⟩ h_7
 obtain ⟨h8,h9,h10,h11,h12⟩:(0:Int)≤i0∧i0≤(↑es.length:Int)∧r1=d.rep∧n2=d.num∧∀ (j:Nat),(↑j:Int) < i0→¬es[j]!.dot=d:=h_7
 refine sq<|rG cx [3,4,8,9,10,11] [3,4] (tB 0 (i0 < (↑es.length:Int)) z0)<|sn<|sq<|dC (i0 < (↑es.length:Int)) (fun h13=>?_) fun h13=>?_
 refine sK<|sn<|sq<|bL 1<|sq<|rG cx [3,4,8,9,10,7] [3,4,7] (fA ((0:Int)≤i0) (fG c45 es i0.toNat (fR (4:Nat) (fN 4 4 (oR 0 (c45 es[i0.toNat]!) z0)))))<|sn<|sq<|rG cx [3,4,8,9,10,7,17] [3,4,7] (fT (eq43 es[i0.toNat]!.dot { rep:=r1,num:=n2:Dot }) (oA 3 (.b (decide (es[i0.toNat]!.dot={ rep:=r1,num:=n2:Dot }))) z0))<|sn<|dC (es[i0.toNat]!.dot={ rep:=r1,num:=n2:Dot }) (fun h14=>?_) fun h14=>?_
 refine sq<|rG cx [4,5] [4] z0<|sn<|rT<|bR<|nR<|nR<|bR<|nR<|qR (.tup [.agg [.i .i64 (es[i0.toNat]!.dot.rep),.i .i64 (es[i0.toNat]!.dot.num),.s (es[i0.toNat]!.sku),.i .i64 (es[i0.toNat]!.qty)],.b (true)]) (AVle.tup (ZLe.cons (AVle.eq (show AV.agg [AV.i .i64 es[i0.toNat]!.dot.rep,AV.i .i64 es[i0.toNat]!.dot.num,AV.s es[i0.toNat]!.sku,AV.i .i64 es[i0.toNat]!.qty]=AV.agg [AV.i .i64 (findE es d).1.dot.rep,AV.i .i64 (findE es d).1.dot.num,AV.s (findE es d).1.sku,AV.i .i64 (findE es d).1.qty] from ?g2)) (ZLe.cons (AVle.eq (show AV.b true=AV.b (findE es d).2 from ?g1)) ZLe.nil)));rotate_left 2
 refine sK<|bN<|sn<|rG cx [3,4,8,9,10] [3,4] (tW 0 (i0+(1:Int)) z0)<|sn<|loop_next ((i0+(1:Int),r1,n2,a3,b4,s5,q6)) (by kernel_rfl) (show ((↑es.length:Int)-(i0+(1:Int))).toNat < ((↑es.length:Int)-i0).toNat from (by omega)) (show inv28 es d (i0+(1:Int)) r1 n2 a3 b4 s5 q6 from ?g3);rotate_left
 refine eX 0<|nE<|nE<|bH<|sn<|sq<|rG cx [4,5] [4] z0<|sn<|rT<|qR (.tup [.agg [.i .i64 ((0:Int)),.i .i64 ((0:Int)),.s ({ data:=#[]:ByteArray }),.i .i64 ((0:Int))],.b (false)]) (AVle.tup (ZLe.cons (AVle.eq (show AV.agg [AV.i .i64 (0:Int),AV.i .i64 (0:Int),AV.s { data:=#[]:ByteArray },AV.i .i64 (0:Int)]=AV.agg [AV.i .i64 (findE es d).1.dot.rep,AV.i .i64 (findE es d).1.dot.num,AV.s (findE es d).1.sku,AV.i .i64 (findE es d).1.qty] from ?g5)) (ZLe.cons (AVle.eq (show AV.b false=AV.b (findE es d).2 from ?g4)) ZLe.nil)));rotate_left 2
 rotate_left
 revert i0 r1 n2 a3 b4 s5 q6 h8 h9 h10 h11 h12 h13 h14;rotate_left
 revert i0 r1 n2 a3 b4 s5 q6 h8 h9 h10 h11 h12 h13 h14;rotate_left
 revert i0 r1 n2 a3 b4 s5 q6 h8 h9 h10 h11 h12 h13 h14;rotate_left
 revert i0 r1 n2 a3 b4 s5 q6 h8 h9 h10 h11 h12 h13;rotate_left
 revert i0 r1 n2 a3 b4 s5 q6 h8 h9 h10 h11 h12 h13;rotate_left
 case g0=>exact ⟨by omega,by omega,rfl,rfl,fun j hj=>by omega⟩
 case g1=>exact (fun i r n a b s q h0 h1 h2 h3 h4 h5 h6=>by subst h2 h3;rw [find_at (by omega) h6 (fun j hj=>h4 j (by omega))])
 case g2=>exact (fun i r n a b s q h0 h1 h2 h3 h4 h5 h6=>by subst h2 h3;rw [find_at (by omega) h6 (fun j hj=>h4 j (by omega))])
 case g3=>exact (fun i r n a b s q h0 h1 h2 h3 h4 h5 h6=>⟨by omega,by omega,h2,h3,fun j hj=>by
   subst h2 h3
   by_cases e:j=i.toNat
   ·rw [e];exact h6
   ·exact h4 j (by omega)⟩)
 case g4=>exact (fun i r n a b s q h0 h1 h2 h3 h4 h5=>by rw [find_no (fun j hj=>h4 j (by omega))])
 case g5=>exact (fun i r n a b s q h0 h1 h2 h3 h4 h5=>by rw [find_no (fun j hj=>h4 j (by omega))];rfl)
end Go.Proofs.YtaiepnaokhpmcaaGreat
namespace Go.Proofs.YtaiepnaokhpmcaaGreat
open Go.E
set_option maxRecDepth 100000
set_option maxHeartbeats 4000000
open Go Go.Lib Go.RowKit Go.Proofs
set_option maxHeartbeats 4000000 in
theorem grow_some (n:Nat) (h0:0 < n) (hb:n*40≤140737488351232) (w:World):Calls Tryz.prog 162 #[.slice none 0 0,.int .i64 n] w fun e w' =>
  ∃ cap cells,e=.returned (.slice (some ⟨w.heap.size,0,none⟩) 0 cap)∧w'.heap[w.heap.size]?=some (.cells cells 45 (0,0))∧cells.size=cap*4∧cap≤maxLen∧Below w.heap.size w w':=by
 obtain ⟨i,z,hi,hi1,hi2,hz,hzs⟩:∃ (i:TypeInfo) (z:Value),Tryz.prog.info? 45=some i∧i.size=4∧i.bytes=40∧i.zero=some z∧z.cells.size=4 :=
  ⟨tiE,tiE.zero.get!,by kernel_rfl,by kernel_rfl,by kernel_rfl,by kernel_rfl,by kernel_rfl⟩
 have happ:=Lib.run_append_nil_zeros (P:=Tryz.prog) w 22 3 22 45 i z .i64 .i64 Tryz.underlying22 Tryz.underlying3 hi hz n h0 (by omega) (by omega) (by rw [hi2];omega)
 generalize hcap:grownCap w n 0 45=cap2 at happ
 have hcapge:n≤cap2:=by rw [← hcap];exact grownCap_ge w _ 0 45
 have hcaple:cap2≤maxLen:=by rw [← hcap];exact grownCap_le_maxLen w _ 0 45 (by unfold maxLen;omega)
 generalize hZ:(Builtin.zeroCells z.cells n++Builtin.zeroCells z.cells (cap2-n))=Z at happ
 have hZs:Z.size=cap2*4:=by rw [← hZ];simp [size_zeroCells,hzs];omega
 clear hcap hZ
 go_enter Tryz.func162,Tryz.ntmps162
 go_wp2_with (at_builtin;refine Lib.wpList_append_run _ rfl _ _ _ _ rfl _ _ rfl rfl _ _ happ ?_)
 go_ret
 exact ⟨cap2,Z,rfl,heap_alloc_new w _,hZs,hcaple,⟨rfl,rfl,rfl,by simp,fun k hk=>Below.heap_alloc w _ k hk⟩⟩
set_option maxHeartbeats 4000000 in
theorem grow_none (w:World):Calls Tryz.prog 162 #[.slice none 0 0,.int .i64 0] w fun e w'=>e=.returned (.slice none 0 0)∧w'=w:=by
 go_enter Tryz.func162,Tryz.ntmps162
 go_wp2
 go_ret
 exact ⟨rfl,rfl⟩
theorem con162 (n:Int) (h0:0≤n) (hb:n*40≤140737488351232):ConB Tryz.prog 162 [.nl,.i .i64 n] 45 (.row 4 (([]:List Entry).map c45)):=by
 refine ⟨⟨_,Tryz.func162,by kernel_rfl,by kernel_rfl⟩,fun w S0 vs hS hl hv=>?_⟩
 obtain ⟨v,u,rfl⟩:∃ v u,vs=[v,u]:=by
  match vs,hl with
  | [v,u],_=>exact ⟨v,u,rfl⟩
 have h1:=hv 0 _ v rfl rfl
 have h2:=hv 1 _ u rfl rfl
 cases h1
 cases h2
 by_cases hn:n=0
 ·subst hn
  refine (grow_none w).mono ?_
  rintro e w' ⟨rfl,rfl⟩
  exact ⟨_,rfl,⟨fun r hr=>by simp at hr,[],World.ownsRow_nil _ _ _ _,fun u hu=>by simp at hu,fun j b u hb=>by simp at hb⟩,Below.refl _ _⟩
 ·obtain ⟨m,rfl⟩:∃ m:Nat,n=m:=⟨n.toNat,by omega⟩
  refine (grow_some m (by omega) (by omega) w).mono ?_
  rintro e w' ⟨cap,cells,rfl,g1,g2,g3,g4⟩
  exact ⟨_,rfl,⟨fun r hr=>by simp at hr,[],⟨by simp,.inr ⟨w.heap.size,cap,cells,rfl,Nat.le_refl _,g1,Nat.zero_le _,g3,g2,by simp⟩⟩,fun u hu=>by simp at hu,fun j b u hb=>by simp at hb⟩,g4⟩
def c22 (l:List Entry):List AV:=[.sl (l.map c45)]
def sumL (ss:List (List Entry)) (n:Int) (i:Int):Prop:=n=((ss.take i.toNat).flatten.length:Int)
def isCat (ss:List (List Entry)) (i:Int) (l:List Entry):Prop:=l=(ss.take i.toNat).flatten
def inv59a (ss:List (List Entry)) (n i:Int):Prop:=0≤i∧i≤ss.length∧0≤n∧n≤140737488351232∧sumL ss n i
def dec59a (ss:List (List Entry)) (n i:Int):Nat:=(ss.length-i).toNat
def inv59b (ss:List (List Entry)) (i:Int) (l:List Entry):Prop:=0≤i∧i≤ss.length∧isCat ss i l
def dec59b (ss:List (List Entry)) (i:Int) (l:List Entry):Nat:=(ss.length-i).toNat
theorem flat_le (ss:List (List Entry)) (i:Nat):(ss.take i).flatten.length≤ss.flatten.length:=by
 have h:(ss.take i).flatten++(ss.drop i).flatten=ss.flatten:=by rw [← List.flatten_append,List.take_append_drop]
 rw [← h,List.length_append]
 omega
theorem flat_step {ss:List (List Entry)} {i:Int} (h0:0≤i) (h:i < ss.length):(ss.take (i+1).toNat).flatten=(ss.take i.toNat).flatten++ss[i.toNat]!:=by
 rw [← take_step h0 h,List.flatten_append]
 simp
theorem cat_len {ss:List (List Entry)} {n i:Int} (hb:ss.flatten.length*40≤140737488351232) (h0:0≤i) (h:i < ss.length) (hs:sumL ss n i):(n+ss[i.toNat]!.length)*40≤140737488351232:=by
 have h1:=flat_le ss (i+1).toNat
 rw [flat_step h0 h,List.length_append] at h1
 unfold sumL at hs
 omega
theorem inv59a_init (ss:List (List Entry)):inv59a ss 0 0:=⟨by omega,by omega,by omega,by omega,by simp [sumL]⟩
theorem inv59a_step {ss:List (List Entry)} {n i:Int} (hb:ss.flatten.length*40≤140737488351232) (h0:0≤i) (h:i < ss.length) (hn:0≤n) (hs:sumL ss n i):inv59a ss (n+ss[i.toNat]!.length) (i+1):=by
 have:=cat_len hb h0 h hs
 refine ⟨by omega,by omega,by omega,by omega,?_⟩
 unfold sumL at *
 rw [flat_step h0 h,List.length_append]
 omega
theorem cat_end {ss:List (List Entry)} {n i:Int} (hb:ss.flatten.length*40≤140737488351232) (hs:sumL ss n i):n*40≤140737488351232:=by
 have:=flat_le ss i.toNat
 unfold sumL at hs
 omega
theorem cat_app {ss:List (List Entry)} {i:Int} {l:List Entry} (hb:ss.flatten.length*40≤140737488351232) (h0:0≤i) (h:i < ss.length) (hs:isCat ss i l):(l.length+ss[i.toNat]!.length)*40≤140737488351232:=by
 have h1:=flat_le ss (i+1).toNat
 rw [flat_step h0 h,List.length_append] at h1
 unfold isCat at hs
 rw [hs]
 omega
theorem inv59b_step {ss:List (List Entry)} {i:Int} {l:List Entry} (h0:0≤i) (h:i < ss.length) (hs:isCat ss i l):inv59b ss (i+1) (l++ss[i.toNat]!) :=
 ⟨by omega,by omega,by unfold isCat at *;rw [flat_step h0 h,hs]⟩
theorem isCat_end {ss:List (List Entry)} {i:Int} {l:List Entry} (h:¬ i < ss.length) (hs:isCat ss i l):l=ss.flatten:=by
 unfold isCat at hs
 rw [hs,List.take_of_length_le (by omega)]
theorem con119 (ss:List (List Entry)) (hb:ss.flatten.length*40≤140737488351232):ConB Tryz.prog 119 [.sl (ss.map c22)] 45 (.row 4 (ss.flatten.map c45)) :=
 by
 refine conB_lens 0 (c22) (ss) (by kernel_rfl) Go.Proofs.Tryz.func119 (by kernel_rfl) fun hl_0=>st_conB tab_ok (by kernel_rfl) (.tmp 2) 36 Go.Proofs.Tryz.func119 (by kernel_rfl) (by kernel_rfl) ?_
 intro e0 cx
 refine sq<|rG cx [0] [] z0<|sn<|sq<|rG cx [0,3] [] z0<|sn<|sq<|sq<|rG cx [0,3,9,10,11] [] (tL 1 c22 ss z0)<|sn<|bL 0<|st_loop (X:=Int×Int) (fun x=>⟨[(0,.sl (List.map c22 ss)),(3,.i .i64 (x.1)),(9,.sl (List.map c22 ss)),(10,.i .i64 ((↑ss.length:Int))),(11,.i .i64 (x.2))],[]⟩) (fun x ↦ dec59a ss x.1 x.2) (fun x ↦ inv59a ss x.1 x.2) [0,3,9,10,11] [] (((0:Int),(0:Int))) (by kernel_rfl) (by kernel_rfl) (show inv59a ss (0:Int) (0:Int) from ?g0) ?_;rotate_left
 rintro ⟨n0,i1⟩ h_2
 obtain ⟨hh3,hh4,hh5,hh6,h7⟩:(0:Int)≤i1∧i1≤(↑ss.length:Int)∧(0:Int)≤n0∧n0≤(140737488351232:Int)∧sumL ss n0 i1:=h_2
 refine sq<|rG cx [0,3,9,10,11,12] [] (tB 0 (i1 < (↑ss.length:Int)) z0)<|sn<|sq<|dC (i1 < (↑ss.length:Int)) (fun h8=>?_) fun h8=>?_
 refine sK<|sn<|sq<|bL 1<|sq<|rG cx [0,3,9,10,11,5] [] (fA ((0:Int)≤i1) (fG c22 ss i1.toNat (fR (1:Nat) (oR 0 (c22 ss[i1.toNat]!) z0))))<|sn<|sq<|rG cx [0,3,9,10,11] [] (tL 2 c45 ss[i1.toNat]! (tT 3 (told_i64 (by omega) ?g1:AV.i .i64 (IntKind.i64.wrap (n0+(↑ss[i1.toNat]!.length:Int)))=AV.i .i64 (n0+(↑ss[i1.toNat]!.length:Int))) z0)) ?_;rotate_left
 refine sn<|sq<|rG cx [0,3,9,10,11,20] [] (tB 1 (n0+(↑ss[i1.toNat]!.length:Int) < (0:Int)) z0)<|sn<|st_dec (n0+(↑ss[i1.toNat]!.length:Int) < (0:Int)) (by kernel_rfl) (by kernel_rfl) (fun h9=>absurd h9 (by omega)) (fun h9=>?_)
 refine sK<|bN<|sn<|rG cx [0,3,9,10,11] [] (tW 0 (i1+(1:Int)) z0)<|sn<|loop_next ((n0+(↑ss[i1.toNat]!.length:Int),i1+(1:Int))) (by kernel_rfl) (show ((↑ss.length:Int)-(i1+(1:Int))).toNat < ((↑ss.length:Int)-i1).toNat from (by omega)) (show inv59a ss (n0+(↑ss[i1.toNat]!.length:Int)) (i1+(1:Int)) from ?g2);rotate_left
 refine eX 0<|nE<|nE<|bH<|sn<|sq<|rG cx [0,6] [24] (fT (con162 (n0) (by (with_reducible assumption)) ?g3) (oV 1 { val:=some (.own (45:Nat) (4:Nat)),rows:=some (List.map c45 []) } z0)) ?_;rotate_left
 refine sn<|sq<|sq<|rG cx [6,25,26,27] [24] (tL 1 c22 ss z0)<|sn<|bL 2<|st_loop (X:=Int×List Entry) (fun x=>⟨[(6,.own 24 0),(25,.sl (List.map c22 ss)),(26,.i .i64 ((↑ss.length:Int))),(27,.i .i64 (x.1))],[(24,⟨0,45,.row 4 (List.map c45 x.2)⟩)]⟩) (fun x ↦ dec59b ss x.1 x.2) (fun x ↦ inv59b ss x.1 x.2) [6,25,26,27] [24] (((0:Int),[])) (by kernel_rfl) (by kernel_rfl) (show inv59b ss (0:Int) [] from ?g4) ?_;rotate_left
 rintro ⟨i10,l11⟩ h_12
 obtain ⟨h13,h14,h15⟩:(0:Int)≤i10∧i10≤(↑ss.length:Int)∧isCat ss i10 l11:=h_12
 refine sq<|rG cx [6,25,26,27,28] [24] (tB 0 (i10 < (↑ss.length:Int)) z0)<|sn<|sq<|dC (i10 < (↑ss.length:Int)) (fun h16=>?_) fun h16=>?_
 refine sK<|sn<|sq<|bL 3<|sq<|rG cx [6,25,26,27,8] [24] (fA ((0:Int)≤i10) (fG c22 ss i10.toNat (fR (1:Nat) (oR 0 (c22 ss[i10.toNat]!) z0))))<|sn<|rG cx [6,25,26,27] [24] (fR (45:Nat) (fR 4 (fR (4:Nat) (fX c45 ss[i10.toNat]! 4 (fP ((List.map c45 l11).length+(List.map c45 ss[i10.toNat]!).length≤maxLen) ?g5 (fP (((List.map c45 l11).length+(List.map c45 ss[i10.toNat]!).length)*(40:Nat)≤(140737488355328:Nat)) ?g6 (fM c45 l11 ss[i10.toNat]! (oV 2 { rows:=some (List.map c45 (l11++ss[i10.toNat]!)) } z0)))))))) ?_;rotate_left 2
 refine bN<|sn<|rG cx [6,25,26,27] [24] (tW 0 (i10+(1:Int)) z0)<|sn<|loop_next ((i10+(1:Int),l11++ss[i10.toNat]!)) (by kernel_rfl) (show ((↑ss.length:Int)-(i10+(1:Int))).toNat < ((↑ss.length:Int)-i10).toNat from (by omega)) (show inv59b ss (i10+(1:Int)) (l11++ss[i10.toNat]!) from ?g7);rotate_left
 refine eX 2<|nE<|nE<|bH<|sn<|sq<|rG cx [2] [24] z0<|sn<|rT<|qb_own (rows':=(List.map c45 l11)) .ret (.inr rfl) 2 24 0 (by kernel_rfl) (by kernel_rfl) (by kernel_rfl) ?g8;rotate_left
 rotate_left
 revert n0 i1 hh3 hh4 hh5 hh6 h7 h8;rotate_left
 revert n0 i1 hh3 hh4 hh5 hh6 h7 h8 h9;rotate_left
 revert n0 i1 hh3 hh4 hh5 hh6 h7 h8;rotate_left
 revert n0 i1 hh3 hh4 hh5 hh6 h7 h8;rotate_left
 revert n0 i1 hh3 hh4 hh5 hh6 h7 h8 i10 l11 h13 h14 h15 h16;rotate_left
 revert n0 i1 hh3 hh4 hh5 hh6 h7 h8 i10 l11 h13 h14 h15 h16;rotate_left
 revert n0 i1 hh3 hh4 hh5 hh6 h7 h8 i10 l11 h13 h14 h15 h16;rotate_left
 revert n0 i1 hh3 hh4 hh5 hh6 h7 h8 i10 l11 h13 h14 h15 h16;rotate_left
 case g0=>exact inv59a_init ss
 case g1=>intro n i h0 h1 h2 h3 h4 h5;have:=cat_len hb h0 h5 h4;omega
 case g2=>intro n i h0 h1 h2 h3 h4 h5 h6;exact inv59a_step hb h0 h5 h2 h4
 case g3=>intro n i h0 h1 h2 h3 h4 h5;exact cat_end hb h4
 case g4=>intros;exact ⟨by omega,by omega,by simp [isCat]⟩
 case g5=>intro n i h0 h1 h2 h3 h4 h5 j l k0 k1 k2 k3;have:=cat_app hb k0 k3 k2;simp only [List.length_map,Go.maxLen];omega
 case g6=>intro n i h0 h1 h2 h3 h4 h5 j l k0 k1 k2 k3;have:=cat_app hb k0 k3 k2;simp only [List.length_map];omega
 case g7=>intro n i h0 h1 h2 h3 h4 h5 j l k0 k1 k2 k3;exact inv59b_step k0 k3 k2
 case g8=>intro n i h0 h1 h2 h3 h4 h5 j l k0 k1 k2 k3;rw [isCat_end k3 k2]
def unionR (a b:List Entry):List Entry×Int:=if okL a=true∧okL b=true then onceR (srtE (a++b)) else ([],1)
theorem union_no {a b:List Entry} (h:¬ lstE a=0∨¬ lstE b=0):unionR a b=([],1):=by
 unfold unionR
 rw [if_neg]
 rintro ⟨h1,h2⟩
 exact h.elim (fun k=>lst_no k h1) (fun k=>lst_no k h2)
theorem union_ok {a b:List Entry} (h1:lstE a=0) (h2:lstE b=0):unionR a b=onceR (srtE (a++b)):=by
 unfold unionR
 rw [if_pos ⟨lst_ok h1,lst_ok h2⟩]
theorem union_sort {a b:List Entry} (h1:lstE a=0) (h2:lstE b=0):sortR (a++b)=unionR a b:=by
 rw [union_ok h1 h2]
 refine sortR_ok fun j hj=>?_
 by_cases h:j < a.length
 ·have:(a++b)[j]! = a[j]!:=by rw [getElem!_pos (a++b) j hj,getElem!_pos a j h,List.getElem_append_left h]
  rw [this]
  exact (okL_at (lst_ok h1) h).1
 ·rw [List.length_append] at hj
  have:(a++b)[j]! = b[j-a.length]!:=by rw [getElem!_pos (a++b) j (by rw [List.length_append];omega),getElem!_pos b (j-a.length) (by omega),List.getElem_append_right (by omega)]
  rw [this]
  exact (okL_at (lst_ok h2) (by omega)).1
theorem two_len {a b:List Entry} (h1:lstE a=0) (h2:lstE b=0):a.length≤16000000000∧b.length≤16000000000:=⟨okL_len (lst_ok h1),okL_len (lst_ok h2)⟩
theorem two_flat (a b:List Entry):[a,b].flatten=a++b:=by simp
theorem both_ok {a b:List Entry} (h:¬ (¬ lstE a=0∨¬ lstE b=0)):lstE a=0∧lstE b=0:=⟨Classical.not_not.1 fun k=>h (.inl k),Classical.not_not.1 fun k=>h (.inr k)⟩
theorem both_len {a b:List Entry} (h:¬ (¬ lstE a=0∨¬ lstE b=0)):a.length≤16000000000∧b.length≤16000000000:=two_len (both_ok h).1 (both_ok h).2
theorem both_flat {a b:List Entry} (h:¬ (¬ lstE a=0∨¬ lstE b=0)):[a,b].flatten.length*40≤140737488351232:=by
 have:=both_len h
 rw [two_flat,List.length_append]
 omega
theorem con70 (a b:List Entry):Con Tryz.prog 70 [.sl (a.map c45),.sl (b.map c45)] (.tup [.sl ((unionR a b).1.map c45),.i .i64 (unionR a b).2]) :=
 by
 refine con_lens 0 (c45) (a) (by kernel_rfl) Go.Proofs.Tryz.func70 (by kernel_rfl) fun hl_0=>con_lens 1 (c45) (b) (by kernel_rfl) Go.Proofs.Tryz.func70 (by kernel_rfl) fun hl_1=>st_con tab_ok (by kernel_rfl) [.tmp 4,.tmp 5] 21 Go.Proofs.Tryz.func70 (by kernel_rfl) (by kernel_rfl) ?_
 intro e0 cx
 refine sq<|rG cx [0,1] [] z0<|sn<|sq<|sq<|st_join (σ':=⟨[(0,.sl (List.map c45 a)),(1,.sl (List.map c45 b)),(13,.b (decide (¬lstE a=(0:Int)∨¬lstE b=(0:Int))))],[]⟩) ?_ ?_
 refine st_split (¬lstE a=(0:Int)) (fun h_1=>?_) (fun h_1=>?_)
 refine rG cx [0,1,13] [] (fT (con65 (a)) (tT 2 (told_neqt h_1:AV.b (lstE a != (0:Int))=AV.b true) (tD 7 true (¬lstE a=(0:Int)∨¬lstE b=(0:Int)) (by simp only [eq_false h_1,tsl]) (oA 1 (.i .i64 (lstE a)) z0)))) ?_
 exact ⟨rfl,by kernel_rfl⟩
 refine rG cx [0,1,13] [] (fT (con65 (a)) (tN 2 (lstE a) (0:Int) (tT 3 (told_false h_1) (fT (con65 (b)) (tN 6 (lstE b) (0:Int) (tT 7 (by first | (simp only [eq_false h_1,tsl];done) | simp_all:AV.b (decide ¬lstE b=(0:Int))=AV.b (decide (¬lstE a=(0:Int)∨¬lstE b=(0:Int)))) (oA 1 (.i .i64 (lstE a)) (oA 5 (.i .i64 (lstE b)) z0)))))))) ?_
 exact ⟨rfl,by kernel_rfl⟩
 refine sn<|dC (¬lstE a=(0:Int)∨¬lstE b=(0:Int)) (fun h2=>?_) fun h2=>?_
 refine sq<|rG cx [4,5] [] z0<|sn<|rT<|nR<|qR (.tup [.nl,.i .i64 ((1:Int))]) (AVle.tup (ZLe.cons (AVle.nl' (show List.map c45 (unionR a b).1=[] from ?g1)) (ZLe.cons (AVle.eq (show AV.i .i64 (1:Int)=AV.i .i64 (unionR a b).2 from ?g0)) ZLe.nil)));rotate_left 2
 refine sK<|sn<|sq ?_
 have hl_3:=(rng_sortR [a,b].flatten)
 refine rG cx [4,5] [] (fT (con119 ([a,b]) ?g2) (fT (con118 ([a,b].flatten) ?g3) (oV 3 { val:=some (.own (45:Nat) (4:Nat)),rows:=some (List.map c45 [a,b].flatten) } (oA 4 (.tup [.sl (List.map c45 (sortR [a,b].flatten).1),.i .i64 ((sortR [a,b].flatten).2)]) z0)))) ?_;rotate_left 2
 refine sn<|rT<|qR (.tup [.sl (List.map c45 (sortR [a,b].flatten).1),.i .i64 ((sortR [a,b].flatten).2)]) (AVle.tup (ZLe.cons (AVle.eq (show AV.sl (List.map c45 (sortR [a,b].flatten).1)=AV.sl (List.map c45 (unionR a b).1) from ?g5)) (ZLe.cons (AVle.eq (show AV.i .i64 (sortR [a,b].flatten).2=AV.i .i64 (unionR a b).2 from ?g4)) ZLe.nil)));rotate_left 2
 revert h2;rotate_left
 revert h2;rotate_left
 revert h2;rotate_left
 revert h2;rotate_left
 revert h2;rotate_left
 revert h2;rotate_left
 case g0=>exact (fun h=>by rw [union_no h])
 case g1=>exact (fun h=>by rw [union_no h];rfl)
 case g2=>exact (fun h=>Nat.le_trans (both_flat h) (by decide))
 case g3=>exact (fun h=>Nat.le_trans (both_flat h) (by decide))
 case g4=>exact (fun h=>by rw [two_flat,union_sort (both_ok h).1 (both_ok h).2])
 case g5=>exact (fun h=>by rw [two_flat,union_sort (both_ok h).1 (both_ok h).2])
end Go.Proofs.YtaiepnaokhpmcaaGreat
namespace Go.Proofs.YtaiepnaokhpmcaaGreat
open Go.E
set_option maxRecDepth 100000
set_option maxHeartbeats 4000000
theorem rises_le {s:List Entry} (hs:risesE s) {i j:Nat} (hij:i < j) (hj:j < s.length):¬ dLt s[j]!.dot s[i]!.dot=true:=by
 have:=List.pairwise_iff_getElem.1 hs i j (by omega) hj hij
 rw [← getElem!_pos s i (by omega),← getElem!_pos s j hj] at this
 simpa [ltE] using this
theorem once_up {s:List Entry} (hs:risesE s):∀ (n:Nat) (l:List Entry),n≤s.length→onceN s n=some l→upE l∧∀ e,e∈l↔e∈s.take n
 | 0,l,_,h=>by
  simp only [onceN,Option.some.injEq] at h
  subst h
  exact ⟨List.Pairwise.nil,fun e=>by simp⟩
 | n+1,l,hn,h=>by
  rw [onceN] at h
  split at h
  ·cases h
  ·rename_i l0 h0
   obtain ⟨i1,i2⟩:=once_up hs n l0 (by omega) h0
   have et:s.take (n+1)=s.take n++[s[n]!]:=by rw [getElem!_pos s n (by omega),← List.take_succ_eq_append_getElem (by omega)]
   split at h
   ·rename_i hc
    simp only [Option.some.injEq] at h
    subst h
    refine ⟨List.pairwise_append.2 ⟨i1,by simp,fun x hx y hy=>?_⟩,fun e=>?_⟩
    ·have:y=s[n]!:=by simpa using hy
     subst this
     obtain ⟨i,hi,rfl⟩:=List.mem_iff_getElem.1 ((i2 x).1 hx)
     rw [List.length_take] at hi
     rw [List.getElem_take,← getElem!_pos s i (by omega)]
     have h1:=rises_le hs (i:=i) (j:=n) (by omega) (by omega)
     apply Classical.byContradiction
     intro h2
     have hd:=dLt_total h2 h1
     rcases hc with hc | hc
     ·omega
     ·by_cases ei:i=n-1
      ·subst ei;exact hc hd
      ·have h3:=rises_le hs (i:=i) (j:=n-1) (by omega) (by omega)
       have h4:=rises_le hs (i:=n-1) (j:=n) (by omega) (by omega)
       rw [hd] at h3
       exact hc (dLt_total h3 h4)
    ·rw [List.mem_append,et,List.mem_append,i2]
   ·rename_i hc
    split at h
    ·rename_i he
     simp only [Option.some.injEq] at h
     subst h
     refine ⟨i1,fun e=>?_⟩
     rw [et,List.mem_append,i2]
     constructor
     ·exact fun k=>.inl k
     ·rintro (k | k)
      ·exact k
      ·have hn0:¬ n=0:=fun k0=>hc (.inl k0)
       have:e=s[n-1]!:=by rw [he];simpa using k
       subst this
       have hlt:n-1 < (s.take n).length:=by rw [List.length_take];omega
       have:=List.getElem_mem hlt
       rw [List.getElem_take,← getElem!_pos s (n-1) (by omega)] at this
       exact this
    ·cases h
theorem once_some {s:List Entry} (hc:∀ x∈s,∀ y∈s,x.dot=y.dot→x=y):∀ n:Nat,n≤s.length→∃ l,onceN s n=some l
 | 0,_=>⟨[],rfl⟩
 | n+1,hn=>by
  obtain ⟨l,hl⟩:=once_some hc n (by omega)
  rw [onceN,hl]
  simp only
  split
  ·exact ⟨_,rfl⟩
  ·rename_i h
   rw [if_pos]
   ·exact ⟨_,rfl⟩
   ·refine hc _ (bang_mem (by omega)) _ (bang_mem (by omega)) ?_
    apply Classical.byContradiction
    exact fun k=>h (.inr k)
theorem srt_mem (es:List Entry) (e:Entry):e∈srtE es↔e∈es:=(List.mergeSort_perm es _).mem_iff
def agreeE (a b:List Entry):Prop:=∀ x∈a,∀ y∈b,x.dot=y.dot→x=y
theorem union_mem {a b:List Entry} (ha:formE a) (hb:formE b) (hc:agreeE a b):∃ l,unionR a b=(l,0)∧formE l∧∀ e,e∈l↔e∈a∨e∈b:=by
 rw [union_ok ((lst_iff a).2 ha) ((lst_iff b).2 hb)]
 have hall:∀ x∈srtE (a++b),∀ y∈srtE (a++b),x.dot=y.dot→x=y:=by
  intro x hx y hy hd
  rw [srt_mem,List.mem_append] at hx hy
  rcases hx with hx | hx <;> rcases hy with hy | hy
  ·exact formE_dot ha hx hy hd
  ·exact hc x hx y hy hd
  ·exact (hc y hy x hx hd.symm).symm
  ·exact formE_dot hb hx hy hd
 obtain ⟨l,hl⟩:=once_some hall _ (Nat.le_refl _)
 obtain ⟨h1,h2⟩:=once_up (srtE_rises _) _ l (Nat.le_refl _) hl
 have h3:∀ e,e∈l↔e∈a∨e∈b:=fun e=>by rw [h2,List.take_length,srt_mem,List.mem_append]
 refine ⟨l,by unfold onceR;rw [hl],⟨fun e he=>?_,h1⟩,h3⟩
 rcases (h3 e).1 he with k | k
 ·exact ha.1 e k
 ·exact hb.1 e k
theorem union_eq {a b l:List Entry} (ha:formE a) (hb:formE b) (hl:formE l) (h:∀ e,e∈l↔e∈a∨e∈b):unionR a b=(l,0):=by
 obtain ⟨m,h1,h2,h3⟩:=union_mem ha hb fun x hx y hy hd=>formE_dot hl ((h x).2 (.inl hx)) ((h y).2 (.inr hy)) hd
 rw [h1,upE_unique h2.2 hl.2 fun e=>(h3 e).trans (h e).symm]
end Go.Proofs.YtaiepnaokhpmcaaGreat
namespace Go.Proofs.YtaiepnaokhpmcaaGreat
open Go.E
set_option maxRecDepth 100000
set_option maxHeartbeats 4000000
def sideV (es:List Entry) (p:Past) (t:Bool):List Entry×Int:=if okL es=true∧p=normP p then (es.filter (fun e=>hasP p e.dot == t),0) else ([],1)
theorem sideV_no {es:List Entry} {p:Past} {t:Bool} (h:¬ lstE es=0∨¬ p=normP p):sideV es p t=([],1):=by
 unfold sideV
 rw [if_neg]
 rintro ⟨h1,h2⟩
 exact h.elim (fun k=>lst_no k h1) (fun k=>k h2)
theorem sideV_ok {es:List Entry} {p:Past} {t:Bool} (h:lstE es=0) (h2:p=normP p):sideV es p t=(es.filter (fun e=>hasP p e.dot == t),0):=by unfold sideV;rw [if_pos ⟨lst_ok h,h2⟩]
theorem ok_len {es:List Entry} (h:¬ ¬ lstE es=0):es.length≤16000000000:=okL_len (lst_ok (Classical.not_not.1 h))
theorem ok_both {es:List Entry} {p:Past} (h:¬ (¬ lstE es=0∨¬ p=normP p)):lstE es=0∧p=normP p:=⟨Classical.not_not.1 fun k=>h (.inl k),Classical.not_not.1 fun k=>h (.inr k)⟩
theorem con114 (e:Entry) (p:Past):Con Tryz.prog 114 [.agg (c45 e),.eptr (c26 p)] (.b (hasP p e.dot == false)) :=
 by
 refine st_con tab_ok (by kernel_rfl) [.tmp 3] 9 Go.Proofs.Tryz.func114 (by kernel_rfl) (by kernel_rfl) ?_
 intro e0 cx
 refine sq<|rG cx [1,2] [2] z0<|sn<|sq<|rG cx [3] [] (fN 2 2 (fT (con115 (p) (e.dot)) (tT 4 (told_not:(AV.b !hasP p e.dot)=AV.b (decide ¬hasP p e.dot=true)) (oA 3 (.b (hasP p e.dot)) z0))))<|sn<|rT<|qR (.b (decide ¬hasP p e.dot=true)) (.eq ?g0);rotate_left
 case g0=>exact (by cases hasP p e.dot <;> rfl)
theorem con113_4 (es:List Entry) (p:Past) (hs:es.length*40≤140737488351232):Con Tryz.prog 113 [.sl (es.map c45),.fn (.func 114) [] [.eptr (c26 p)]] (.sl ((es.filter (fun e=>hasP p e.dot == false)).map c45)) :=
 by
 refine con_lens 0 (c45) (es) (by kernel_rfl) Go.Proofs.Tryz.func113 (by kernel_rfl) fun hl_0=>st_con tab_ok (by kernel_rfl) [.tmp 4] 23 Go.Proofs.Tryz.func113 (by kernel_rfl) (by kernel_rfl) ?_
 intro e0 cx
 refine sq<|rG cx [0,1] [] z0<|sn<|sq<|rG cx [0,1,5] [] z0<|sn<|sq<|sq<|rG cx [1,5,8,9,10] [] (tL 1 c45 es z0)<|sn<|bL 0<|awp_adopt 5 1005 45 4 (σ':=⟨[(1,.fn (Fn.func (114:FuncId)) [] [.eptr [.sl (List.map c3 p.vec),.sl (List.map c104 p.cloud)]]),(5,.own 1005 0),(8,.sl (List.map c45 es)),(9,.i .i64 ((↑es.length:Int))),(10,.i .i64 ((0:Int)))],[(1005,⟨0,45,.row 4 (List.map c45 [])⟩)]⟩) (by kernel_rfl)<|st_loop (X:=Int×List Entry) (fun x=>⟨[(1,.fn (Fn.func (114:FuncId)) [] [.eptr [.sl (List.map c3 p.vec),.sl (List.map c104 p.cloud)]]),(5,.own 1005 0),(8,.sl (List.map c45 es)),(9,.i .i64 ((↑es.length:Int))),(10,.i .i64 (x.1))],[(1005,⟨0,45,.row 4 (List.map c45 x.2)⟩)]⟩) (fun x ↦ decP es x.1 x.2) (fun x ↦ invP (fun e ↦ hasP p e.dot == false) es x.1 x.2) [1,5,8,9,10] [1005] (((0:Int),[])) (by kernel_rfl) (by kernel_rfl) (show invP (fun e ↦ hasP p e.dot == false) es (0:Int) [] from ?g0) ?_;rotate_left
 rintro ⟨i0,l1⟩ h_2
 obtain ⟨hh3,hh4,hh5,h6⟩:(0:Int)≤i0∧i0≤(↑es.length:Int)∧l1=List.filter (fun e ↦ hasP p e.dot == false) (List.take i0.toNat es)∧(↑l1.length:Int)≤i0:=h_2
 refine sq<|rG cx [1,5,8,9,10,11] [1005] (tB 0 (i0 < (↑es.length:Int)) z0)<|sn<|sq<|dC (i0 < (↑es.length:Int)) (fun h7=>?_) fun h7=>?_
 refine sK<|sn<|sq<|bL 1<|sq<|rG cx [1,5,8,9,10,7] [1005,7] (fA ((0:Int)≤i0) (fG c45 es i0.toNat (fR (4:Nat) (fN 4 4 (oR 0 (c45 es[i0.toNat]!) z0)))))<|sn<|sq<|rG cx [1,5,8,9,10,7,16] [1005,7] (fT (con114 (es[i0.toNat]!) (p)) (oA 2 (resC (con114 (es[i0.toNat]!) (p))) z0))<|sn<|st_cond (hasP p es[i0.toNat]!.dot == false) (by kernel_rfl) (by kernel_rfl) (fun h8=>?_) (fun h8=>?_)
 refine rG cx [1,5,8,9,10] [1005] (fR (45:Nat) (fR 4 (fR (4:Nat) (fX c45 [es[i0.toNat]!] 4 (fS c45 l1 c45 [es[i0.toNat]!] (fP (((List.map c45 l1).length+(List.map c45 [es[i0.toNat]!]).length)*(40:Nat)≤(140737488355328:Nat)) (by (simp only [Go.maxLen,List.length_map,List.length_append,List.length_cons,List.length_nil];omega)) (fM c45 l1 [es[i0.toNat]!] (oV 3 { rows:=some (List.map c45 (l1++[es[i0.toNat]!])) } z0))))))))<|bN<|sn<|rG cx [1,5,8,9,10] [1005] (tW 0 (i0+(1:Int)) z0)<|sn<|loop_next ((i0+(1:Int),l1++[es[i0.toNat]!])) (by kernel_rfl) (show ((↑es.length:Int)-(i0+(1:Int))).toNat < ((↑es.length:Int)-i0).toNat from (by omega)) (show invP (fun e ↦ hasP p e.dot == false) es (i0+(1:Int)) (l1++[es[i0.toNat]!]) from ?g1);rotate_left
 refine sK<|bN<|sn<|rG cx [1,5,8,9,10] [1005] (tW 0 (i0+(1:Int)) z0)<|sn<|loop_next ((i0+(1:Int),l1)) (by kernel_rfl) (show ((↑es.length:Int)-(i0+(1:Int))).toNat < ((↑es.length:Int)-i0).toNat from (by omega)) (show invP (fun e ↦ hasP p e.dot == false) es (i0+(1:Int)) l1 from ?g2);rotate_left
 refine eX 0<|nE<|nE<|bH<|sn<|sq<|rG cx [4] [1005] z0<|sn<|rT<|qR (.sl (List.map c45 l1)) (.eq ?g3);rotate_left
 rotate_left
 revert i0 l1 hh3 hh4 hh5 h6 h7 h8;rotate_left
 revert i0 l1 hh3 hh4 hh5 h6 h7 h8;rotate_left
 revert i0 l1 hh3 hh4 hh5 h6 h7;rotate_left
 case g0=>exact (invP_init _ _)
 case g1=>exact (fun i l h0 h1 h2 h3 h4 h5=>invP_add h0 h2 h3 h4 h5)
 case g2=>exact (fun i l h0 h1 h2 h3 h4 h5=>invP_skip h0 h2 h3 h4 (by simpa using h5))
 case g3=>exact (fun i l h0 h1 h2 h3 h4=>by rw [invP_done h2 h4])
theorem con68 (es:List Entry) (p:Past) (hb:p.cloud.length*16≤140737488350000):Con Tryz.prog 68 [.sl (es.map c45),.agg (c26 p)] (.tup [.sl ((sideV es p false).1.map c45),.i .i64 (sideV es p false).2]) :=
 by
 refine con_lens 0 (c45) (es) (by kernel_rfl) Go.Proofs.Tryz.func68 (by kernel_rfl) fun hl_0=>st_con tab_ok (by kernel_rfl) [.tmp 4,.tmp 5] 17 Go.Proofs.Tryz.func68 (by kernel_rfl) (by kernel_rfl) ?_
 intro e0 cx
 refine sq<|rG cx [0,3] [3] z0<|sn<|sq<|sq<|st_join (σ':=⟨[(0,.sl (List.map c45 es)),(3,.ptr (3) (0) (0) (0)),(13,.b (decide (¬lstE es=(0:Int)∨¬p=normP p)))],[(3,⟨0,26,.var [.sl (List.map c3 p.vec),.sl (List.map c104 p.cloud)]⟩)]⟩) ?_ ?_
 refine st_split (¬lstE es=(0:Int)) (fun h_1=>?_) (fun h_1=>?_)
 refine rG cx [0,3,13] [3] (fT (con65 (es)) (tT 2 (told_neqt h_1:AV.b (lstE es != (0:Int))=AV.b true) (tD 7 true (¬lstE es=(0:Int)∨¬p=normP p) (by simp only [eq_false h_1,tsl]) (oA 1 (.i .i64 (lstE es)) z0)))) ?_
 exact ⟨rfl,by kernel_rfl⟩
 refine rG cx [0,3,13] [3] (fT (con65 (es)) (tN 2 (lstE es) (0:Int) (tT 3 (told_false h_1) (fT (con82 (p) (by (with_reducible assumption))) (tQ 6 (p=normP p) (tT 7 (by first | (simp only [eq_false h_1,tsl];done) | simp_all:AV.b (decide ¬p=normP p)=AV.b (decide (¬lstE es=(0:Int)∨¬p=normP p))) (oA 1 (.i .i64 (lstE es)) (oA 5 (.b (decide (p=normP p))) z0)))))))) ?_
 exact ⟨rfl,by kernel_rfl⟩
 refine sn<|dC (¬lstE es=(0:Int)∨¬p=normP p) (fun h2=>?_) fun h2=>?_
 refine sq<|rG cx [4,5] [] z0<|sn<|rT<|nR<|qR (.tup [.nl,.i .i64 ((1:Int))]) (AVle.tup (ZLe.cons (AVle.nl' (show List.map c45 (sideV es p false).1=[] from ?g1)) (ZLe.cons (AVle.eq (show AV.i .i64 (1:Int)=AV.i .i64 (sideV es p false).2 from ?g0)) ZLe.nil)));rotate_left 2
 refine sK<|sn<|sq<|rG cx [4,5] [] (fT (con113_4 (es) (p) ?g2) (oA 2 (.sl (List.map c45 (List.filter (fun e ↦ hasP p e.dot == false) es))) z0)) ?_;rotate_left
 refine sn<|rT<|qR (.tup [.sl (List.map c45 (List.filter (fun e ↦ hasP p e.dot == false) es)),.i .i64 ((0:Int))]) (AVle.tup (ZLe.cons (AVle.eq (show AV.sl (List.map c45 (List.filter (fun e ↦ hasP p e.dot == false) es))=AV.sl (List.map c45 (sideV es p false).1) from ?g4)) (ZLe.cons (AVle.eq (show AV.i .i64 (0:Int)=AV.i .i64 (sideV es p false).2 from ?g3)) ZLe.nil)));rotate_left 2
 revert h2;rotate_left
 revert h2;rotate_left
 revert h2;rotate_left
 revert h2;rotate_left
 revert h2;rotate_left
 case g0=>exact (fun h=>by rw [sideV_no h])
 case g1=>exact (fun h=>by rw [sideV_no h];rfl)
 case g2=>exact (fun h=>by have:=okL_len (lst_ok (ok_both h).1);omega)
 case g3=>exact (fun h=>by rw [sideV_ok (ok_both h).1 (ok_both h).2])
 case g4=>exact (fun h=>by rw [sideV_ok (ok_both h).1 (ok_both h).2])
end Go.Proofs.YtaiepnaokhpmcaaGreat
namespace Go.Proofs.YtaiepnaokhpmcaaGreat
open Go.E
set_option maxRecDepth 100000
set_option maxHeartbeats 4000000
noncomputable def leftE (live:List Entry) (f:Facts):List Entry:=(live.filter fun e=>hasP f.gone e.dot == false).filter fun e=>decide (barsR f.recs e=0)
def clashA (live adds:List Entry):Bool:=adds.any fun e=>(findE live e.dot).2
noncomputable def effV (live:List Entry) (f:Facts):List Entry×Int:=if ¬ lstE live=0∨¬ okF f=true then ([],1) else if ¬ evE f=0 then ([],evE f) else if clashA live f.adds=true then ([],10) else unionR (leftE live f) f.adds
theorem left_form {live:List Entry} {f:Facts} (h:formE live):formE (leftE live f):=formE_sub (formE_sub h List.filter_sublist) List.filter_sublist
theorem ev_cases {f:Facts} (h:evE f=0):okF f=true∧f.adds.length≤1∧f.recs.length≤1:=by
 unfold evE at h
 split at h
 ·omega
 ·rename_i h0
  have h0:okF f=true:=by cases k:okF f <;> simp_all
  refine ⟨h0,?_⟩
  split at h
  ·omega
  ·split at h
   ·omega
   ·split at h
    ·omega
    ·omega
theorem eff_form {live:List Entry} {f:Facts} (h:¬ lstE live=0∨¬ okF f=true):effV live f=([],1):=by unfold effV;rw [if_pos h]
theorem eff_ev {live:List Entry} {f:Facts} (h1:¬ (¬ lstE live=0∨¬ okF f=true)) (h:¬ evE f=0):effV live f=([],evE f):=by unfold effV;rw [if_neg h1,if_pos h]
theorem eff_clash {live:List Entry} {f:Facts} (h1:¬ (¬ lstE live=0∨¬ okF f=true)) (h2:evE f=0) (h:clashA live f.adds=true):effV live f=([],10):=by unfold effV;rw [if_neg h1,if_neg (fun k=>k h2),if_pos h]
theorem eff_union {live:List Entry} {f:Facts} (h1:¬ (¬ lstE live=0∨¬ okF f=true)) (h2:evE f=0) (h:¬ clashA live f.adds=true):effV live f=unionR (leftE live f) f.adds:=by unfold effV;rw [if_neg h1,if_neg (fun k=>k h2),if_neg h]
def invEc (live:List Entry) (f:Facts) (i:Int) (x1:List Entry) (x2:List Int) (x3:List Span) (x4:List Record):Prop:=x1=f.adds∧x2=f.gone.vec∧x3=f.gone.cloud∧x4=f.recs∧0≤i∧i≤f.adds.length∧∀ k:Nat,(k:Int) < i→¬ (findE live f.adds[k]!.dot).2=true
def decEc (f:Facts) (i:Int) (x1:List Entry) (x2:List Int) (x3:List Span) (x4:List Record):Nat:=(f.adds.length-i).toNat
theorem bars_one {rs:List Record} {x:Entry} (h:rs.length≤1):barsR rs x=0↔¬ (rs.length=1∧covR rs[0]! x=true):=by
 rw [bars_zero]
 match rs,h with
 | [],_=>simp
 | [r],_=>simp
def keepE (f:Facts) (x:Entry):Prop:=¬ hasP f.gone x.dot=true∧barsR f.recs x=0
theorem left_mem {live:List Entry} {f:Facts} {e:Entry}:e∈leftE live f↔e∈live∧keepE f e:=by
 unfold leftE keepE
 rw [List.mem_filter,List.mem_filter,decide_eq_true_iff]
 constructor
 ·rintro ⟨⟨h1,h2⟩,h3⟩
  exact ⟨h1,fun k=>(by rw [k] at h2;cases h2),h3⟩
 ·rintro ⟨h1,h2,h3⟩
  exact ⟨⟨h1,by cases k:hasP f.gone e.dot with | true=>exact absurd k h2 | false=>rfl⟩,h3⟩
def isEd (live:List Entry) (f:Facts) (i:Int) (o:List Entry) (p:Bool):Prop :=
 (∀ k:Nat,(k:Int) < i→¬ f.adds.length=0→¬ live[k]!.dot=f.adds[0]!.dot) ∧
 (p=true↔f.adds.length=0∨∃ k:Nat,(k:Int) < i∧dLt f.adds[0]!.dot live[k]!.dot=true) ∧
 (∀ e,e∈o↔(e∈live.take i.toNat∧keepE f e)∨(p=true∧¬ f.adds.length=0∧e=f.adds[0]!))∧upE o
def putN (p:Bool):Int:=if p=true then 1 else 0
def invEd (live:List Entry) (f:Facts) (p:Bool) (i:Int) (x1:List Entry) (x2:List Int) (x3:List Span) (x4:List Record) (o:List Entry):Prop:=x1=f.adds∧x2=f.gone.vec∧x3=f.gone.cloud∧x4=f.recs∧0≤i∧i≤live.length∧(o.length:Int)≤i+putN p∧isEd live f i o p
def decEd (live:List Entry) (p:Bool) (i:Int) (x1:List Entry) (x2:List Int) (x3:List Span) (x4:List Record) (o:List Entry):Nat:=(live.length-i).toNat
theorem up_snoc {o:List Entry} {x:Entry} (h:upE o) (hx:∀ e∈o,dLt e.dot x.dot=true):upE (o++[x]):=by
 unfold upE at h ⊢
 rw [List.pairwise_append]
 exact ⟨h,List.pairwise_singleton _ _,fun e he y hy=>by rw [List.mem_singleton.1 hy];exact hx e he⟩
theorem live_lt {live:List Entry} (h:formE live) {i j:Nat} (hij:i < j) (hj:j < live.length):dLt live[i]!.dot live[j]!.dot=true:=by
 have:=List.pairwise_iff_getElem.1 h.2 i j (by omega) hj hij
 rwa [getElem!_pos live i (by omega),getElem!_pos live j hj]
theorem tkE_at {live:List Entry} {i:Int} (h0:0≤i) (hi:i≤live.length) {e:Entry}:e∈live.take i.toNat↔∃ k:Nat,(k:Int) < i∧e=live[k]!:=by
 constructor
 ·intro h
  obtain ⟨k,hk,rfl⟩:=List.mem_iff_getElem.1 h
  rw [List.length_take] at hk
  exact ⟨k,by omega,by rw [List.getElem_take,getElem!_pos live k (by omega)]⟩
 ·rintro ⟨k,hk,rfl⟩
  rw [getElem!_pos live k (by omega)]
  exact List.mem_iff_getElem.2 ⟨k,by rw [List.length_take];omega,by rw [List.getElem_take]⟩
theorem take_mem {live:List Entry} {i:Int} (h0:0≤i) (hi:i < live.length) {e:Entry}:e∈live.take (i+1).toNat↔e∈live.take i.toNat∨e=live[i.toNat]!:=by
 rw [← take_step h0 hi,List.mem_append,List.mem_singleton]
theorem ed_lt {live:List Entry} {f:Facts} {i:Int} {o:List Entry} {p:Bool} (hf:formE live) (h0:0≤i) (hi:i < live.length) (h:isEd live f i o p):∀ e∈o,dLt e.dot live[i.toNat]!.dot=true:=by
 intro e he
 rcases (h.2.2.1 e).1 he with ⟨k,_⟩ | ⟨k1,k2,rfl⟩
 ·obtain ⟨n,hn,rfl⟩:=(tkE_at h0 (by omega)).1 k
  exact live_lt hf (by omega) (by omega)
 ·rcases h.2.1.1 k1 with k | ⟨n,hn,k⟩
  ·exact absurd k k2
  ·exact dLt_trans k (live_lt hf (by omega) (by omega))
theorem ed_put {live:List Entry} {f:Facts} {i:Int} {o:List Entry} (h0:0≤i) (hi:i≤live.length) (h:isEd live f i o false):∀ e∈o,dLt e.dot f.adds[0]!.dot=true:=by
 intro e he
 have hp:¬ (f.adds.length=0∨∃ k:Nat,(k:Int) < i∧dLt f.adds[0]!.dot live[k]!.dot=true):=fun k=>by have:=h.2.1.2 k;cases this
 rcases (h.2.2.1 e).1 he with ⟨k,_⟩ | ⟨k1,_,_⟩
 ·obtain ⟨n,hn,rfl⟩:=(tkE_at h0 hi).1 k
  apply Classical.byContradiction
  intro c
  have c2:¬ dLt f.adds[0]!.dot live[n]!.dot=true:=fun k=>hp (.inr ⟨n,hn,k⟩)
  exact h.1 n hn (fun k=>hp (.inl k)) (dLt_total c c2)
 ·cases k1
theorem ed_zero {live:List Entry} {f:Facts}:isEd live f 0 [] (decide (f.adds.length=0)):=by
 refine ⟨fun k hk=>by omega,?_,fun e=>?_,List.Pairwise.nil⟩
 ·rw [decide_eq_true_iff]
  constructor
  ·exact .inl
  ·rintro (h | ⟨k,hk,_⟩)
   ·exact h
   ·omega
 ·constructor
  ·intro h;cases h
  ·rintro (⟨h,_⟩ | ⟨h1,h2,_⟩)
   ·cases h
   ·exact absurd (of_decide_eq_true h1) h2
theorem ed_next {live:List Entry} {f:Facts} {i:Int} {o:List Entry} {p:Bool} (hf:formE live) (h0:0≤i) (hi:i < live.length) (h:isEd live f i o p) (hn:p=true∨¬ dLt f.adds[0]!.dot live[i.toNat]!.dot=true∧¬ live[i.toNat]!.dot=f.adds[0]!.dot) (o2:List Entry)
  (ho:(keepE f live[i.toNat]!∧o2=o++[live[i.toNat]!])∨(¬ keepE f live[i.toNat]!∧o2=o)):isEd live f (i+1) o2 p:=by
 refine ⟨fun k hk ha=>?_,?_,fun e=>?_,?_⟩
 ·by_cases e:k=i.toNat
  ·rw [e]
   rcases hn with hp | hn
   ·rcases h.2.1.1 hp with c | ⟨n,hn,c⟩
    ·exact absurd c ha
    ·intro q
     have:=dLt_trans c (live_lt hf (i:=n) (j:=i.toNat) (by omega) (by omega))
     rw [q] at this
     exact dLt_irr _ this
   ·exact hn.2
  ·exact h.1 k (by omega) ha
 ·rw [h.2.1]
  constructor
  ·rintro (k | ⟨n,hn,k⟩)
   ·exact .inl k
   ·exact .inr ⟨n,by omega,k⟩
  ·rintro (k | ⟨n,hn',k⟩)
   ·exact .inl k
   ·by_cases e:n=i.toNat
    ·rcases hn with hp | hn
     ·exact h.2.1.1 hp
     ·rw [e] at k;exact absurd k hn.1
    ·exact .inr ⟨n,by omega,k⟩
 ·rw [take_mem h0 hi]
  rcases ho with ⟨k,rfl⟩ | ⟨k,rfl⟩
  ·rw [List.mem_append,List.mem_singleton,h.2.2.1 e]
   constructor
   ·rintro ((⟨a,b⟩ | a) | a)
    ·exact .inl ⟨.inl a,b⟩
    ·exact .inr a
    ·exact .inl ⟨.inr a,by rw [a];exact k⟩
   ·rintro (⟨a | a,b⟩ | a)
    ·exact .inl (.inl ⟨a,b⟩)
    ·exact .inr a
    ·exact .inl (.inr a)
  ·rw [h.2.2.1 e]
   constructor
   ·rintro (⟨a,b⟩ | a)
    ·exact .inl ⟨.inl a,b⟩
    ·exact .inr a
   ·rintro (⟨a | a,b⟩ | a)
    ·exact .inl ⟨a,b⟩
    ·rw [a] at b;exact absurd b k
    ·exact .inr a
 ·rcases ho with ⟨k,rfl⟩ | ⟨k,rfl⟩
  ·exact up_snoc h.2.2.2 (ed_lt hf h0 hi h)
  ·exact h.2.2.2
theorem ed_add {live:List Entry} {f:Facts} {i:Int} {o:List Entry} (hf:formE live) (h0:0≤i) (hi:i < live.length) (h:isEd live f i o false) (hx:dLt f.adds[0]!.dot live[i.toNat]!.dot=true) (o2:List Entry)
  (ho:(keepE f live[i.toNat]!∧o2=(o++[f.adds[0]!])++[live[i.toNat]!])∨(¬ keepE f live[i.toNat]!∧o2=o++[f.adds[0]!])):isEd live f (i+1) o2 true:=by
 have hp:¬ f.adds.length=0:=fun k=>by have:=h.2.1.2 (.inl k);cases this
 have hup:upE (o++[f.adds[0]!]):=up_snoc h.2.2.2 (ed_put h0 (by omega) h)
 have hlt:∀ e∈o++[f.adds[0]!],dLt e.dot live[i.toNat]!.dot=true:=fun e he=>by
  rcases List.mem_append.1 he with k | k
  ·exact ed_lt hf h0 hi h e k
  ·rw [List.mem_singleton.1 k];exact hx
 have hm:∀ e,e∈o↔e∈live.take i.toNat∧keepE f e:=fun e=>by
  rw [h.2.2.1 e]
  constructor
  ·rintro (k | ⟨k,_⟩)
   ·exact k
   ·cases k
  ·exact .inl
 refine ⟨fun k hk ha=>?_,?_,fun e=>?_,?_⟩
 ·by_cases e:k=i.toNat
  ·rw [e];intro q;rw [q] at hx;exact dLt_irr _ hx
  ·exact h.1 k (by omega) ha
 ·exact ⟨fun _=>.inr ⟨i.toNat,by omega,hx⟩,fun _=>rfl⟩
 ·rw [take_mem h0 hi]
  rcases ho with ⟨k,rfl⟩ | ⟨k,rfl⟩
  ·rw [List.mem_append,List.mem_append,List.mem_singleton,List.mem_singleton,hm e]
   constructor
   ·rintro ((⟨a,b⟩ | a) | a)
    ·exact .inl ⟨.inl a,b⟩
    ·exact .inr ⟨rfl,hp,a⟩
    ·exact .inl ⟨.inr a,by rw [a];exact k⟩
   ·rintro (⟨a | a,b⟩ | ⟨_,_,a⟩)
    ·exact .inl (.inl ⟨a,b⟩)
    ·exact .inr a
    ·exact .inl (.inr a)
  ·rw [List.mem_append,List.mem_singleton,hm e]
   constructor
   ·rintro (⟨a,b⟩ | a)
    ·exact .inl ⟨.inl a,b⟩
    ·exact .inr ⟨rfl,hp,a⟩
   ·rintro (⟨a | a,b⟩ | ⟨_,_,a⟩)
    ·exact .inl ⟨a,b⟩
    ·rw [a] at b;exact absurd b k
    ·exact .inr a
 ·rcases ho with ⟨k,rfl⟩ | ⟨k,rfl⟩
  ·exact up_snoc hup hlt
  ·exact hup
theorem find_there {es:List Entry} {d:Dot}:(findE es d).2=true↔∃ e∈es,e.dot=d:=by
 unfold findE
 cases h:es.find? (fun e=>decide (e.dot=d)) with
 | none =>
  rw [List.find?_eq_none] at h
  constructor
  ·intro k;cases k
  ·rintro ⟨e,he,k⟩
   exact absurd (decide_eq_true k) (h e he)
 | some e =>
  have h1:=List.find?_some h
  exact ⟨fun _=>⟨e,List.mem_of_find?_eq_some h,of_decide_eq_true h1⟩,fun _=>rfl⟩
theorem ed_end {live:List Entry} {f:Facts} {i:Int} {o l:List Entry} {p:Bool} (hf:formE live) (ha:formE f.adds) (hv:f.adds.length≤1) (h0:0≤i) (hi:i=live.length) (h:isEd live f i o p)
  (hl:(p=true∧l=o)∨(p=false∧l=o++[f.adds[0]!])):¬ clashA live f.adds=true∧unionR (leftE live f) f.adds=(l,0):=by
 have tk:live.take i.toNat=live:=List.take_of_length_le (by omega)
 have mem:∀ e,e∈f.adds↔¬ f.adds.length=0∧e=f.adds[0]!:=fun e=>by
  match hh:f.adds,hv with
  | [],_=>simp
  | [x],_=>simp
 have m2:(∀ e,e∈l↔e∈leftE live f∨e∈f.adds)∧upE l:=by
  rcases hl with ⟨rfl,rfl⟩ | ⟨rfl,rfl⟩
  ·refine ⟨fun e=>?_,h.2.2.2⟩
   rw [h.2.2.1 e,left_mem,mem,tk]
   constructor
   ·rintro (k | k)
    ·exact .inl k
    ·exact .inr k.2
   ·rintro (k | k)
    ·exact .inl k
    ·exact .inr ⟨rfl,k⟩
  ·have hp:¬ f.adds.length=0:=fun k=>by have:=h.2.1.2 (.inl k);cases this
   refine ⟨fun e=>?_,up_snoc h.2.2.2 (ed_put h0 (by omega) h)⟩
   rw [List.mem_append,List.mem_singleton,h.2.2.1 e,left_mem,mem,tk]
   constructor
   ·rintro ((k | k) | k)
    ·exact .inl k
    ·exact .inr k.2
    ·exact .inr ⟨hp,k⟩
   ·rintro (k | k)
    ·exact .inl (.inl k)
    ·exact .inr k.2
 refine ⟨fun c=>?_,union_eq (left_form hf) ha ⟨fun e he=>?_,m2.2⟩ m2.1⟩
 ·unfold clashA at c
  obtain ⟨e,he,c⟩:=List.any_eq_true.1 c
  obtain ⟨h1,rfl⟩:=(mem e).1 he
  obtain ⟨x,hx,c⟩:=find_there.1 c
  rw [← tk] at hx
  obtain ⟨k,hk,rfl⟩:=(tkE_at h0 (by omega)).1 hx
  exact h.1 k hk h1 c
 ·rcases (m2.1 e).1 he with k | k
  ·exact (left_form hf).1 e k
  ·exact ha.1 e k
theorem ed_clash {live:List Entry} {f:Facts} {i:Int} {o:List Entry} (h0:0≤i) (hi:i < live.length) (h:isEd live f i o false) (hx:live[i.toNat]!.dot=f.adds[0]!.dot):clashA live f.adds=true:=by
 have hp:¬ f.adds.length=0:=fun k=>by have:=h.2.1.2 (.inl k);cases this
 unfold clashA
 rw [List.any_eq_true]
 exact ⟨f.adds[0]!,bang_in (by omega),find_there.2 ⟨live[i.toNat]!,bang_in (by omega),hx⟩⟩
theorem totR_one {rs:List Record} (h:rs.length≤1) (hf:recE rs=0):totR rs*72≤140737488350000:=by
 match rs,h,hf with
 | [],_,_=>decide
 | [r],_,hf =>
  have h1:=(ck_ok.1 (((recE_iff [r]).1 hf).1 r (by simp))).2.1
  have h2:r.past.cloud.length≤8000000000:=by rw [h1];exact (tabP_len _).1
  have h3:totR [r]=r.past.cloud.length+1:=by simp [totR]
  rw [h3]
  omega
theorem no_clash {live adds:List Entry} (h:∀ k:Nat,(k:Int) < adds.length→¬ (findE live adds[k]!.dot).2=true):¬ clashA live adds=true:=by
 intro c
 unfold clashA at c
 obtain ⟨e,he,c⟩:=List.any_eq_true.1 c
 obtain ⟨k,hk,rfl⟩:=List.mem_iff_getElem.1 he
 refine h k (by omega) ?_
 rw [getElem!_pos adds k hk]
 exact c
theorem clash_at {live adds:List Entry} {i:Int} (h0:0≤i) (hi:i < adds.length) (h:(findE live adds[i.toNat]!.dot).2=true):clashA live adds=true:=by
 unfold clashA
 exact List.any_eq_true.2 ⟨adds[i.toNat]!,bang_in (by omega),h⟩
theorem okF_parts {f:Facts} (h:okF f=true):lstE f.adds=0∧f.gone=normP f.gone∧recE f.recs=0:=by
 rw [okF_eq,decide_eq_true_iff] at h
 exact h
theorem eff_parts {live:List Entry} {f:Facts} (h1:¬ (¬ lstE live=0∨¬ okF f=true)) (h2:evE f=0) (h:¬ clashA live f.adds=true):unionR (applyV (sideV live f.gone false).1 f.recs).1 f.adds=effV live f:=by
 have hl:lstE live=0:=Classical.not_not.1 fun k=>h1 (.inl k)
 have hk:=okF_parts (Classical.not_not.1 fun k=>h1 (.inr k))
 have e1:(sideV live f.gone false).1=live.filter fun e=>hasP f.gone e.dot == false:=by unfold sideV;rw [if_pos ⟨lst_ok hl,hk.2.1⟩]
 have e2:lstE (live.filter fun e=>hasP f.gone e.dot == false)=0:=(lst_iff _).2 (formE_sub ((lst_iff live).1 hl) List.filter_sublist)
 rw [eff_union h1 h2 h,e1]
 unfold applyV
 rw [if_pos ⟨e2,hk.2.2⟩]
 rfl
theorem head0 {α β:Type} [Inhabited α] {l:List α} (g:α→β) (h:¬ l.length=0):(l.map g)[Int.toNat 0]?=some (g l[0]!):=by
 cases l with
 | nil=>simp at h
 | cons e es=>rfl
theorem putN_le (p:Bool):0≤putN p∧putN p≤1:=by unfold putN;split <;> omega
theorem keep_iff {f:Facts} {x:Entry} (hr:f.recs.length≤1):(hasP f.gone x.dot=true∨(f.recs.length:Int)=1∧covR f.recs[0]! x=true)↔¬ keepE f x:=by
 unfold keepE
 rw [bars_one hr]
 constructor
 ·rintro (h | ⟨h1,h2⟩) ⟨k1,k2⟩
  ·exact k1 h
  ·exact k2 ⟨by omega,h2⟩
 ·intro h
  by_cases a:hasP f.gone x.dot=true
  ·exact .inl a
  ·refine .inr (Classical.byContradiction fun c=>h ⟨a,fun k=>c ⟨by omega,k.2⟩⟩)
theorem pfalse {p:Bool} (h:¬ p=true):p=false:=by cases p <;> simp_all
theorem con25 (live:List Entry) (f:Facts) (hb:szF f):Con Tryz.prog 25 [.sl (live.map c45),.agg (c29 f)] (.tup [.sl ((effV live f).1.map c45),.i .i64 (effV live f).2]) :=
 by
 refine con_lens 0 (c45) (live) (by kernel_rfl) Go.Proofs.Tryz.func25 (by kernel_rfl) fun hl_0=>st_con tab_ok (by kernel_rfl) [.tmp 4,.tmp 5] 62 Go.Proofs.Tryz.func25 (by kernel_rfl) (by kernel_rfl) ?_
 intro e0 cx
 refine sq<|rG cx [0,3] [3] z0<|sn<|sq<|sq<|st_join (σ':=⟨[(0,.sl (List.map c45 live)),(3,.ptr (3) (0) (0) (0)),(20,.b (decide (¬lstE live=(0:Int)∨¬okF f=true)))],[(3,⟨0,29,.var [.sl (List.map c45 f.adds),.sl (List.map c3 f.gone.vec),.sl (List.map c104 f.gone.cloud),.sl (List.map c81 f.recs)]⟩)]⟩) ?_ ?_
 refine st_split (¬lstE live=(0:Int)) (fun h_1=>?_) (fun h_1=>?_)
 refine rG cx [0,3,20] [3] (fT (con65 (live)) (tT 2 (told_neqt h_1:AV.b (lstE live != (0:Int))=AV.b true) (tD 7 true (¬lstE live=(0:Int)∨¬okF f=true) (by simp only [eq_false h_1,tsl]) (oA 1 (.i .i64 (lstE live)) z0)))) ?_
 exact ⟨rfl,by kernel_rfl⟩
 refine rG cx [0,3,20] [3] (fT (con65 (live)) (tN 2 (lstE live) (0:Int) (tT 3 (told_false h_1) (fT (con66 (f) (by (with_reducible assumption))) (tT 6 (told_not:(AV.b !okF f)=AV.b (decide ¬okF f=true)) (tT 7 (by first | (simp only [eq_false h_1,tsl];done) | simp_all:AV.b (decide ¬okF f=true)=AV.b (decide (¬lstE live=(0:Int)∨¬okF f=true))) (oA 1 (.i .i64 (lstE live)) (oA 5 (.b (okF f)) z0)))))))) ?_
 exact ⟨rfl,by kernel_rfl⟩
 refine sn<|dC (¬lstE live=(0:Int)∨¬okF f=true) (fun hh2=>?_) fun hh2=>?_
 refine sq<|rG cx [4,5] [] z0<|sn<|rT<|nR<|qR (.tup [.nl,.i .i64 ((1:Int))]) (AVle.tup (ZLe.cons (AVle.nl' (show List.map c45 (effV live f).1=[] from ?g1)) (ZLe.cons (AVle.eq (show AV.i .i64 (1:Int)=AV.i .i64 (effV live f).2 from ?g0)) ZLe.nil)));rotate_left 2
 refine sK<|sn<|sq<|sq<|rG cx [0,3,6] [3] (fT (con52 (f) (by (with_reducible assumption))) (oA 1 (.i .i64 (evE f)) z0))<|sn<|sq<|rG cx [0,3,6,24] [3] (tN 1 (evE f) (0:Int) z0)<|sn<|dC (¬evE f=(0:Int)) (fun h3=>?_) fun h3=>?_
 refine sq<|rG cx [4,5] [] z0<|sn<|rT<|nR<|qR (.tup [.nl,.i .i64 (evE f)]) (AVle.tup (ZLe.cons (AVle.nl' (show List.map c45 (effV live f).1=[] from ?g3)) (ZLe.cons (AVle.eq (show AV.i .i64 (evE f)=AV.i .i64 (effV live f).2 from ?g2)) ZLe.nil)));rotate_left 2
 refine sK<|sn<|sq<|sq<|rG cx [0,3,27,28,29] [3] (tL 2 c45 f.adds z0)<|sn<|bL 0<|st_loop (X:=Int×List Entry×List Int×List Span×List Record) (fun x=>⟨[(0,.sl (List.map c45 live)),(3,.ptr (3) (0) (0) (0)),(27,.sl (List.map c45 f.adds)),(28,.i .i64 ((↑f.adds.length:Int))),(29,.i .i64 (x.1))],[(3,⟨0,29,.var [.sl (List.map c45 x.2.1),.sl (List.map c3 x.2.2.1),.sl (List.map c104 x.2.2.2.1),.sl (List.map c81 x.2.2.2.2)]⟩)]⟩) (fun x ↦ decEc f x.1 x.2.1 x.2.2.1 x.2.2.2.1 x.2.2.2.2) (fun x ↦ invEc live f x.1 x.2.1 x.2.2.1 x.2.2.2.1 x.2.2.2.2) [0,3,27,28,29] [3] (((0:Int),f.adds,f.gone.vec,f.gone.cloud,f.recs)) (by kernel_rfl) (by kernel_rfl) (show invEc live f (0:Int) f.adds f.gone.vec f.gone.cloud f.recs from ?g4) ?_;rotate_left
 rintro ⟨i4,x5,x6,x7,x8⟩ h_9
 obtain ⟨h10,h11,h12,h13,h14,h15,h16⟩:x5=f.adds∧x6=f.gone.vec∧x7=f.gone.cloud∧x8=f.recs∧(0:Int)≤i4∧i4≤(↑f.adds.length:Int)∧∀ (k:Nat),(↑k:Int) < i4→¬(findE live f.adds[k]!.dot).2=true:=h_9
 refine sq<|rG cx [0,3,27,28,29,30] [3] (tB 0 (i4 < (↑f.adds.length:Int)) z0)<|sn<|sq<|dC (i4 < (↑f.adds.length:Int)) (fun h17=>?_) fun h17=>?_
 refine sK<|sn<|sq<|bL 1<|sq<|rG cx [0,3,27,28,29,8] [3,8] (fA ((0:Int)≤i4) (fG c45 f.adds i4.toNat (fR (4:Nat) (fN 4 4 (oR 0 (c45 f.adds[i4.toNat]!) z0)))))<|sn<|sq<|rG cx [0,3,27,28,29,10] [3] (fT (con67 (live) (f.adds[i4.toNat]!.dot)) (oA 3 (.tup [.agg [.i .i64 ((findE live f.adds[i4.toNat]!.dot).1.dot.rep),.i .i64 ((findE live f.adds[i4.toNat]!.dot).1.dot.num),.s ((findE live f.adds[i4.toNat]!.dot).1.sku),.i .i64 ((findE live f.adds[i4.toNat]!.dot).1.qty)],.b ((findE live f.adds[i4.toNat]!.dot).2)]) z0))<|sn<|sq<|rG cx [0,3,27,28,29,40] [3] z0<|sn<|st_cond ((findE live f.adds[i4.toNat]!.dot).2) (by kernel_rfl) (by kernel_rfl) (fun h18=>?_) (fun h18=>?_)
 refine sq<|rG cx [4,5] [] z0<|sn<|rT<|bR<|nR<|nR<|bR<|nR<|qR (.tup [.nl,.i .i64 ((10:Int))]) (AVle.tup (ZLe.cons (AVle.nl' (show List.map c45 (effV live f).1=[] from ?g6)) (ZLe.cons (AVle.eq (show AV.i .i64 (10:Int)=AV.i .i64 (effV live f).2 from ?g5)) ZLe.nil)));rotate_left 2
 refine sK<|bN<|sn<|rG cx [0,3,27,28,29] [3] (tT 0 (told_i64 (by omega) ?g7:AV.i .i64 (IntKind.i64.wrap (i4+(1:Int)))=AV.i .i64 (i4+(1:Int))) z0) ?_;rotate_left
 refine sn<|loop_next ((i4+(1:Int),x5,x6,x7,x8)) (by kernel_rfl) (show ((↑f.adds.length:Int)-(i4+(1:Int))).toNat < ((↑f.adds.length:Int)-i4).toNat from (by omega)) (show invEc live f (i4+(1:Int)) x5 x6 x7 x8 from ?g8);rotate_left
 refine eX 0<|nE<|nE<|bH<|sn<|sq<|rG cx [3,11] [3] (fT (con68 (live) ({ vec:=x6,cloud:=x7:Past }) ?g9) (oA 3 (.tup [.sl (List.map c45 (sideV live { vec:=x6,cloud:=x7:Past } false).1),.i .i64 ((sideV live { vec:=x6,cloud:=x7:Past } false).2)]) z0)) ?_;rotate_left
 refine sn<|sq<|rG cx [3,11] [3] (fT (con69 ((sideV live { vec:=x6,cloud:=x7:Past } false).1) (x8) ?g10 ?g11) (oA 3 (.tup [.sl (List.map c45 (applyV (sideV live { vec:=x6,cloud:=x7:Past } false).1 x8).1),.i .i64 ((applyV (sideV live { vec:=x6,cloud:=x7:Past } false).1 x8).2)]) z0)) ?_;rotate_left 2
 refine sn<|sq<|rG cx [4,5] [] (fT (con70 ((applyV (sideV live { vec:=x6,cloud:=x7:Past } false).1 x8).1) (x5)) (oA 3 (resC (con70 ((applyV (sideV live { vec:=x6,cloud:=x7:Past } false).1 x8).1) (x5))) z0))<|sn<|rT<|qR (.tup [.sl (List.map c45 (unionR (applyV (sideV live { vec:=x6,cloud:=x7:Past } false).1 x8).1 x5).1),.i .i64 ((unionR (applyV (sideV live { vec:=x6,cloud:=x7:Past } false).1 x8).1 x5).2)]) (AVle.tup (ZLe.cons (AVle.eq (show AV.sl (List.map c45 (unionR (applyV (sideV live { vec:=x6,cloud:=x7:Past } false).1 x8).1 x5).1)=AV.sl (List.map c45 (effV live f).1) from ?g13)) (ZLe.cons (AVle.eq (show AV.i .i64 (unionR (applyV (sideV live { vec:=x6,cloud:=x7:Past } false).1 x8).1 x5).2=AV.i .i64 (effV live f).2 from ?g12)) ZLe.nil)));rotate_left 2
 revert hh2;rotate_left
 revert hh2;rotate_left
 revert hh2 h3;rotate_left
 revert hh2 h3;rotate_left
 revert hh2 h3;rotate_left
 revert hh2 h3 i4 x5 x6 x7 x8 h10 h11 h12 h13 h14 h15 h16 h17 h18;rotate_left
 revert hh2 h3 i4 x5 x6 x7 x8 h10 h11 h12 h13 h14 h15 h16 h17 h18;rotate_left
 revert hh2 h3 i4 x5 x6 x7 x8 h10 h11 h12 h13 h14 h15 h16 h17 h18;rotate_left
 revert hh2 h3 i4 x5 x6 x7 x8 h10 h11 h12 h13 h14 h15 h16 h17 h18;rotate_left
 revert hh2 h3 i4 x5 x6 x7 x8 h10 h11 h12 h13 h14 h15 h16 h17;rotate_left
 revert hh2 h3 i4 x5 x6 x7 x8 h10 h11 h12 h13 h14 h15 h16 h17;rotate_left
 revert hh2 h3 i4 x5 x6 x7 x8 h10 h11 h12 h13 h14 h15 h16 h17;rotate_left
 revert hh2 h3 i4 x5 x6 x7 x8 h10 h11 h12 h13 h14 h15 h16 h17;rotate_left
 revert hh2 h3 i4 x5 x6 x7 x8 h10 h11 h12 h13 h14 h15 h16 h17;rotate_left
 case g0=>intro h;rw [eff_form h]
 case g1=>intro h;rw [eff_form h];rfl
 case g2=>intro h1 h2;rw [eff_ev h1 h2]
 case g3=>intro h1 h2;rw [eff_ev h1 h2];rfl
 case g4=>intro h1 h2;exact ⟨rfl,rfl,rfl,rfl,by omega,by omega,fun k hk=>by omega⟩
 case g5=>intro h1 h2 i x1 x2 x3 x4 e1 e2 e3 e4 k0 k1 k2 h4 h5;rw [eff_clash h1 (Classical.not_not.1 h2) (clash_at k0 h4 h5)]
 case g6=>intro h1 h2 i x1 x2 x3 x4 e1 e2 e3 e4 k0 k1 k2 h4 h5;rw [eff_clash h1 (Classical.not_not.1 h2) (clash_at k0 h4 h5)];rfl
 case g7=>intro h1 h2 i x1 x2 x3 x4 e1 e2 e3 e4 k0 k1 k2 h4 h5;have:=(ev_cases (Classical.not_not.1 h2)).2.1;omega
 case g8 =>
  intro h1 h2 i x1 x2 x3 x4 e1 e2 e3 e4 k0 k1 k2 h4 h5
  refine ⟨e1,e2,e3,e4,by omega,by omega,fun k hk=>?_⟩
  by_cases e:k=i.toNat
  ·rw [e,h5];simp
  ·exact k2 k (by omega)
 case g9=>intro h1 h2 i x1 x2 x3 x4 e1 e2 e3 e4 k0 k1 k2 h4;show x3.length*16≤_;rw [e3];exact hb.1.1
 case g10=>intro h1 h2 i x1 x2 x3 x4 e1 e2 e3 e4 k0 k1 k2 h4;rw [e4];exact fun r hr=>(hb.2 r hr).1
 case g11=>intro h1 h2 i x1 x2 x3 x4 e1 e2 e3 e4 k0 k1 k2 h4;rw [e4];exact totR_one (ev_cases (Classical.not_not.1 h2)).2.2 (okF_parts (ev_cases (Classical.not_not.1 h2)).1).2.2
 case g12 =>
  intro h1 h2 i x1 x2 x3 x4 e1 e2 e3 e4 k0 k1 k2 h4
  subst e1 e2 e3 e4
  exact congrArg (fun v=>AV.i .i64 v.2) (eff_parts h1 (Classical.not_not.1 h2) (no_clash fun k hk=>k2 k (by omega)))
 case g13 =>
  intro h1 h2 i x1 x2 x3 x4 e1 e2 e3 e4 k0 k1 k2 h4
  subst e1 e2 e3 e4
  exact congrArg (fun v=>AV.sl (List.map c45 v.1)) (eff_parts h1 (Classical.not_not.1 h2) (no_clash fun k hk=>k2 k (by omega)))
theorem con74 (r:Record) (e:Entry) (hl:r.past.cloud.length≤9223372036854775807):Con Tryz.prog 74 [.agg (c81 r),.agg (c45 e)] (.b (covR r e)) :=
 by
 refine st_con tab_ok (by kernel_rfl) [.tmp 4] 22 Go.Proofs.Tryz.func74 (by kernel_rfl) (by kernel_rfl) ?_
 intro e0 cx
 refine sq<|rG cx [2,3] [2,3] z0<|sn<|sq<|st_join (σ':=⟨[(4,.b (decide (r.sku={ data:=#[]:ByteArray }∧hasP r.past e.dot=true∨¬r.sku={ data:=#[]:ByteArray }∧r.sku=e.sku∧hasP r.past e.dot=true)))],[]⟩) ?_ ?_
 refine st_split (r.sku={ data:=#[]:ByteArray }) (fun h_1=>?_) (fun h_1=>?_)
 refine rG cx [4] [] (tT 2 (told_seqt h_1:AV.b (r.sku.toList == { data:=#[]:ByteArray }.toList)=AV.b true) (fT (con47 (r.past) (e.dot) (by (with_reducible assumption))) (tD 17 (hasP r.past e.dot) (r.sku={ data:=#[]:ByteArray }∧hasP r.past e.dot=true∨¬r.sku={ data:=#[]:ByteArray }∧r.sku=e.sku∧hasP r.past e.dot=true) (by simp only [eq_true h_1,tsl]) (oA 15 (.b (hasP r.past e.dot)) z0)))) ?_
 exact ⟨rfl,by kernel_rfl⟩
 refine st_split (r.sku=e.sku) (fun h_2=>?_) (fun h_2=>?_)
 refine rG cx [4] [] (tT 2 (told_seqf h_1:AV.b (r.sku.toList == { data:=#[]:ByteArray }.toList)=AV.b false) (tT 8 (told_seqt h_2:AV.b (r.sku.toList == e.sku.toList)=AV.b true) (fT (con47 (r.past) (e.dot) (by (with_reducible assumption))) (tD 17 (hasP r.past e.dot) (r.sku={ data:=#[]:ByteArray }∧hasP r.past e.dot=true∨¬r.sku={ data:=#[]:ByteArray }∧r.sku=e.sku∧hasP r.past e.dot=true) (by simp only [eq_false h_1,eq_true h_2,tsl]) (oA 15 (.b (hasP r.past e.dot)) z0))))) ?_
 exact ⟨rfl,by kernel_rfl⟩
 refine rG cx [4] [] (tT 2 (told_seqf h_1:AV.b (r.sku.toList == { data:=#[]:ByteArray }.toList)=AV.b false) (tT 8 (told_seqf h_2:AV.b (r.sku.toList == e.sku.toList)=AV.b false) (tD 17 false (r.sku={ data:=#[]:ByteArray }∧hasP r.past e.dot=true∨¬r.sku={ data:=#[]:ByteArray }∧r.sku=e.sku∧hasP r.past e.dot=true) (by simp only [eq_false h_1,eq_false h_2,tsl]) z0))) ?_
 exact ⟨rfl,by kernel_rfl⟩
 refine sn<|rT<|qR (.b (decide (r.sku={ data:=#[]:ByteArray }∧hasP r.past e.dot=true∨¬r.sku={ data:=#[]:ByteArray }∧r.sku=e.sku∧hasP r.past e.dot=true))) (.eq ?g0);rotate_left
 case g0 =>
  refine congrArg AV.b ?_
  rw [Bool.eq_iff_iff,decide_eq_true_iff,cov_iff]
  constructor
  ·rintro (⟨a,b⟩ | ⟨a,b,c⟩)
   ·exact ⟨.inl a,b⟩
   ·exact ⟨.inr b,c⟩
  ·rintro ⟨a | a,b⟩
   ·exact .inl ⟨a,b⟩
   ·by_cases k:r.sku=noneS
    ·exact .inl ⟨k,b⟩
    ·exact .inr ⟨k,a,b⟩
theorem con26 (live:List Entry) (f:Facts) (hb:szF f):Con Tryz.prog 26 [.sl (live.map c45),.agg (c29 f)] (.tup [.sl ((effV live f).1.map c45),.i .i64 (effV live f).2]) :=
 by
 have FO:¬ (¬ lstE live=0∨¬ okF f=true)→formE live:=fun h=>(lst_iff live).1 (Classical.not_not.1 fun k=>h (.inl k))
 have FA:¬ (¬ lstE live=0∨¬ okF f=true)→formE f.adds:=fun h=>(lst_iff _).1 (okF_parts (Classical.not_not.1 fun k=>h (.inr k))).1
 have LE:¬ (¬ lstE live=0∨¬ okF f=true)→live.length≤16000000000:=fun h=>okL_len ((okL_iff live).2 (FO h))
 have NE:∀ {p:Bool} {i:Int} {o:List Entry},isEd live f i o p→¬ p=true→¬ f.adds.length=0:=fun k3 h k=>h (k3.2.1.2 (.inl k))
 refine con_lens 0 (c45) (live) (by kernel_rfl) Go.Proofs.Tryz.func26 (by kernel_rfl) fun hl_0=>st_con tab_ok (by kernel_rfl) [.tmp 4,.tmp 5] 102 Go.Proofs.Tryz.func26 (by kernel_rfl) (by kernel_rfl) ?_
 intro e0 cx
 refine sq<|rG cx [0,3] [3] z0<|sn<|sq<|sq<|st_join (σ':=⟨[(0,.sl (List.map c45 live)),(3,.ptr (3) (0) (0) (0)),(18,.b (decide (¬lstE live=(0:Int)∨¬okF f=true)))],[(3,⟨0,29,.var [.sl (List.map c45 f.adds),.sl (List.map c3 f.gone.vec),.sl (List.map c104 f.gone.cloud),.sl (List.map c81 f.recs)]⟩)]⟩) ?_ ?_
 refine st_split (¬lstE live=(0:Int)) (fun h_1=>?_) (fun h_1=>?_)
 refine rg (A:=_∧_∧(AV.b true=AV.b (decide (¬lstE live=(0:Int)∨¬okF f=true)))) cx [(1,{ val:=some (.b (decide (lstE live=(0:Int)))),tell:=some (.b (false)) }),(7,{ tell:=some (.b (decide (¬lstE live=(0:Int)∨¬okF f=true))) })] [0,3,18] [3] ⟨(told_false h_1),(con71 (live)),(by simp only [eq_false h_1,tsl])⟩ ?_
 exact ⟨rfl,by kernel_rfl⟩
 refine rG cx [0,3,18] [3] (fT (con71 (live)) (tQ 2 (lstE live=(0:Int)) (tT 3 (told_false h_1) (fT (con72 (f) (by (with_reducible assumption))) (tT 6 (told_not:(AV.b !okF f)=AV.b (decide ¬okF f=true)) (tT 7 (by first | (simp only [eq_false h_1,tsl];done) | simp_all:AV.b (decide ¬okF f=true)=AV.b (decide (¬lstE live=(0:Int)∨¬okF f=true))) (oA 1 (resC (con71 (live))) (oA 5 (.b (okF f)) z0)))))))) ?_
 exact ⟨rfl,by kernel_rfl⟩
 refine sn<|dC (¬lstE live=(0:Int)∨¬okF f=true) (fun hh2=>?_) fun hh2=>?_
 refine sq<|rG cx [4,5] [] z0<|sn<|rT<|nR<|qR (.tup [.nl,.i .i64 ((1:Int))]) (AVle.tup (ZLe.cons (AVle.nl' (show List.map c45 (effV live f).1=[] from ?g1)) (ZLe.cons (AVle.eq (show AV.i .i64 (1:Int)=AV.i .i64 (effV live f).2 from ?g0)) ZLe.nil)));rotate_left 2
 refine sK<|sn<|sq<|rG cx [0,3,6] [3] (fT (con54 (f) (by (with_reducible assumption))) (oA 1 (.i .i64 (evE f)) z0))<|sn<|sq<|sq<|rG cx [0,3,6,22] [3] (tN 1 (evE f) (0:Int) z0)<|sn<|dC (¬evE f=(0:Int)) (fun h3=>?_) fun h3=>?_
 refine sq<|rG cx [4,5] [] z0<|sn<|rT<|nR<|qR (.tup [.nl,.i .i64 (evE f)]) (AVle.tup (ZLe.cons (AVle.nl' (show List.map c45 (effV live f).1=[] from ?g3)) (ZLe.cons (AVle.eq (show AV.i .i64 (evE f)=AV.i .i64 (effV live f).2 from ?g2)) ZLe.nil)));rotate_left 2
 refine sK<|sn<|sq<|rG cx [0,3,7] [3] z0<|sn<|sq<|rG cx [0,3,7,8] [3] (tL 2 c45 f.adds (tB 3 ((↑f.adds.length:Int)=(0:Int)) z0))<|sn<|sq<|sq<|rG cx [0,3,7,8,9] [3] z0<|sn<|bL 0<|awp_adopt 7 1007 45 4 (σ':=⟨[(0,.sl (List.map c45 live)),(3,.ptr (3) (0) (0) (0)),(7,.own 1007 0),(8,.b (decide ((↑f.adds.length:Int)=(0:Int)))),(9,.i .i64 ((0:Int)))],[(3,⟨0,29,.var [.sl (List.map c45 f.adds),.sl (List.map c3 f.gone.vec),.sl (List.map c104 f.gone.cloud),.sl (List.map c81 f.recs)]⟩),(1007,⟨0,45,.row 4 (List.map c45 [])⟩)]⟩) (by kernel_rfl)<|st_loop (X:=Bool×Int×List Entry×List Int×List Span×List Record×List Entry) (fun x=>⟨[(0,.sl (List.map c45 live)),(3,.ptr (3) (0) (0) (0)),(7,.own 1007 0),(8,.b (x.1)),(9,.i .i64 (x.2.1))],[(3,⟨0,29,.var [.sl (List.map c45 x.2.2.1),.sl (List.map c3 x.2.2.2.1),.sl (List.map c104 x.2.2.2.2.1),.sl (List.map c81 x.2.2.2.2.2.1)]⟩),(1007,⟨0,45,.row 4 (List.map c45 x.2.2.2.2.2.2)⟩)]⟩) (fun x ↦ decEd live x.1 x.2.1 x.2.2.1 x.2.2.2.1 x.2.2.2.2.1 x.2.2.2.2.2.1 x.2.2.2.2.2.2) (fun x ↦ invEd live f x.1 x.2.1 x.2.2.1 x.2.2.2.1 x.2.2.2.2.1 x.2.2.2.2.2.1 x.2.2.2.2.2.2) [0,3,7,8,9] [3,1007] ((decide ((↑f.adds.length:Int)=(0:Int)),(0:Int),f.adds,f.gone.vec,f.gone.cloud,f.recs,[])) (by kernel_rfl) (by kernel_rfl) (show invEd live f (decide ((↑f.adds.length:Int)=(0:Int))) (0:Int) f.adds f.gone.vec f.gone.cloud f.recs [] from ?g4) ?_;rotate_left
 rintro ⟨p4,i5,x6,x7,x8,x9,o10⟩ h_11
 obtain ⟨h12,h13,h14,h15,h16,h17,h18,h19⟩:x6=f.adds∧x7=f.gone.vec∧x8=f.gone.cloud∧x9=f.recs∧(0:Int)≤i5∧i5≤(↑live.length:Int)∧(↑o10.length:Int)≤i5+putN p4∧isEd live f i5 o10 p4:=h_11
 refine sq<|sq<|rG cx [0,3,7,8,9,31] [3,1007] (tL 2 c45 live (tB 3 (i5 < (↑live.length:Int)) z0))<|sn<|dC (i5 < (↑live.length:Int)) (fun h20=>?_) fun h20=>?_
 refine sK<|sn<|sq<|bL 1<|sq<|rG cx [0,3,7,8,9,10] [3,1007,10] (fA ((0:Int)≤i5) (fG c45 live i5.toNat (fR (4:Nat) (fN 4 4 (oR 2 (c45 live[i5.toNat]!) z0)))))<|sn<|sq<|sq<|st_join (σ':=⟨[(0,.sl (List.map c45 live)),(3,.ptr (3) (0) (0) (0)),(7,.own 1007 0),(8,.b (p4)),(9,.i .i64 (i5)),(10,.ptr (10) (0) (0) (0)),(49,.b (decide (¬p4=true∧live[i5.toNat]!.dot=x6[(0:Nat)]!.dot)))],[(3,⟨0,29,.var [.sl (List.map c45 x6),.sl (List.map c3 x7),.sl (List.map c104 x8),.sl (List.map c81 x9)]⟩),(1007,⟨0,45,.row 4 (List.map c45 o10)⟩),(10,⟨0,45,.var [.i .i64 (live[i5.toNat]!.dot.rep),.i .i64 (live[i5.toNat]!.dot.num),.s (live[i5.toNat]!.sku),.i .i64 (live[i5.toNat]!.qty)]⟩)]⟩) ?_ ?_
 refine st_split (¬p4=true) (fun h22=>?_) (fun h22=>?_)
 refine rA cx [0,3,7,8,9,10,49] [3,1007,10] (tT 0 (told_eqn h22:AV.b p4=AV.b false) (fO ((0:Int)≤(0:Int)) (fP ((List.map c45 x6)[Int.toNat (0:Int)]?=some (c45 x6[(0:Nat)]!)) ?g5 (fR (4:Nat) (fN 2 4 (fT (eq43 live[i5.toNat]!.dot x6[(0:Nat)]!.dot) (tD 11 (decide (live[i5.toNat]!.dot=x6[(0:Nat)]!.dot)) (¬p4=true∧live[i5.toNat]!.dot=x6[(0:Nat)]!.dot) (by simp only [eq_false h22,tsl]) (oR 7 (c45 x6[(0:Nat)]!) (oA 10 (.b (decide (live[i5.toNat]!.dot=x6[(0:Nat)]!.dot))) z0))))))))) ?_;rotate_left
 exact ⟨rfl,by kernel_rfl⟩
 refine rA cx [0,3,7,8,9,10,49] [3,1007,10] (tO 1 p4 (tT 2 (told_false h22) (tT 11 (by first | (simp only [eq_false h22,tsl];done) | simp_all:AV.b false=AV.b (decide (¬p4=true∧live[i5.toNat]!.dot=x6[(0:Nat)]!.dot))) z0))) ?_
 exact ⟨rfl,by kernel_rfl⟩
 refine sn<|dC (¬p4=true∧live[i5.toNat]!.dot=x6[(0:Nat)]!.dot) (fun h23=>?_) fun h23=>?_
 refine sq<|rG cx [4,5] [] z0<|sn<|rT<|nR<|bR<|nR<|nR<|bR<|nR<|qR (.tup [.nl,.i .i64 ((10:Int))]) (AVle.tup (ZLe.cons (AVle.nl' (show List.map c45 (effV live f).1=[] from ?g7)) (ZLe.cons (AVle.eq (show AV.i .i64 (10:Int)=AV.i .i64 (effV live f).2 from ?g6)) ZLe.nil)));rotate_left 2
 refine sK<|sn<|sq<|sq<|st_join (σ':=⟨[(0,.sl (List.map c45 live)),(3,.ptr (3) (0) (0) (0)),(7,.own 1007 0),(8,.b (p4)),(9,.i .i64 (i5)),(10,.ptr (10) (0) (0) (0)),(61,.b (decide (¬p4=true∧dLt x6[(0:Nat)]!.dot live[i5.toNat]!.dot=true)))],[(3,⟨0,29,.var [.sl (List.map c45 x6),.sl (List.map c3 x7),.sl (List.map c104 x8),.sl (List.map c81 x9)]⟩),(1007,⟨0,45,.row 4 (List.map c45 o10)⟩),(10,⟨0,45,.var [.i .i64 (live[i5.toNat]!.dot.rep),.i .i64 (live[i5.toNat]!.dot.num),.s (live[i5.toNat]!.sku),.i .i64 (live[i5.toNat]!.qty)]⟩)]⟩) ?_ ?_
 refine st_split (¬p4=true) (fun h25=>?_) (fun h25=>?_)
 refine rA cx [0,3,7,8,9,10,61] [3,1007,10] (tT 0 (told_eqn h25:AV.b p4=AV.b false) (fO ((0:Int)≤(0:Int)) (fP ((List.map c45 x6)[Int.toNat (0:Int)]?=some (c45 x6[(0:Nat)]!)) ?g8 (fR (4:Nat) (fN 2 4 (fT (con73 (x6[(0:Nat)]!.dot) (live[i5.toNat]!.dot)) (tD 11 (dLt x6[(0:Nat)]!.dot live[i5.toNat]!.dot) (¬p4=true∧dLt x6[(0:Nat)]!.dot live[i5.toNat]!.dot=true) (by simp only [eq_false h25,tsl]) (oR 5 (c45 x6[(0:Nat)]!) (oA 10 (.b (dLt x6[(0:Nat)]!.dot live[i5.toNat]!.dot)) z0))))))))) ?_;rotate_left
 exact ⟨rfl,by kernel_rfl⟩
 refine rA cx [0,3,7,8,9,10,61] [3,1007,10] (tO 1 p4 (tT 2 (told_false h25) (tT 11 (by first | (simp only [eq_false h25,tsl];done) | simp_all:AV.b false=AV.b (decide (¬p4=true∧dLt x6[(0:Nat)]!.dot live[i5.toNat]!.dot=true))) z0))) ?_
 exact ⟨rfl,by kernel_rfl⟩
 refine sn<|dC (¬p4=true∧dLt x6[(0:Nat)]!.dot live[i5.toNat]!.dot=true) (fun h26=>?_) fun h26=>?_
 refine sq<|rG cx [0,3,7,9,10] [3,1007,10] (fO ((0:Int)≤(0:Int)) (fP ((List.map c45 x6)[Int.toNat (0:Int)]?=some (c45 x6[(0:Nat)]!)) ?g9 (fR (4:Nat) (fN 4 4 (fR (45:Nat) (fR 4 (fR (4:Nat) (fX c45 [x6[(0:Nat)]!] 4 (fP ((List.map c45 o10).length+(List.map c45 [x6[(0:Nat)]!]).length≤maxLen) ?g10 (fP (((List.map c45 o10).length+(List.map c45 [x6[(0:Nat)]!]).length)*(40:Nat)≤(140737488355328:Nat)) ?g11 (fM c45 o10 [x6[(0:Nat)]!] (oR 3 (c45 x6[(0:Nat)]!) (oV 6 { rows:=some (List.map c45 (o10++[x6[(0:Nat)]!])) } z0))))))))))))) ?_;rotate_left 3
 refine sn<|rG cx [0,3,7,9,10,8] [3,1007,10] z0<|sn<|sq<|sq<|st_join (σ':=⟨[(0,.sl (List.map c45 live)),(3,.ptr (3) (0) (0) (0)),(7,.own 1007 0),(9,.i .i64 (i5)),(10,.ptr (10) (0) (0) (0)),(8,.b (true)),(87,.b (decide (hasP { vec:=x7,cloud:=x8:Past } live[i5.toNat]!.dot=true∨(↑x9.length:Int)=(1:Int)∧covR x9[(0:Nat)]! live[i5.toNat]! = true)))],[(3,⟨0,29,.var [.sl (List.map c45 x6),.sl (List.map c3 x7),.sl (List.map c104 x8),.sl (List.map c81 x9)]⟩),(1007,⟨0,45,.row 4 (List.map c45 (o10++[x6[(0:Nat)]!]))⟩),(10,⟨0,45,.var [.i .i64 (live[i5.toNat]!.dot.rep),.i .i64 (live[i5.toNat]!.dot.num),.s (live[i5.toNat]!.sku),.i .i64 (live[i5.toNat]!.qty)]⟩)]⟩) ?_ ?_
 refine st_split (hasP { vec:=x7,cloud:=x8:Past } live[i5.toNat]!.dot=true) (fun h28=>?_) (fun h28=>?_)
 refine ra (A:=_∧_∧(AV.b true=AV.b (decide (hasP { vec:=x7,cloud:=x8:Past } live[i5.toNat]!.dot=true∨(↑x9.length:Int)=(1:Int)∧covR x9[(0:Nat)]! live[i5.toNat]! = true)))) cx [(4,{ val:=some (.b (hasP { vec:=x7,cloud:=x8:Past } live[i5.toNat]!.dot)),tell:=some (.b (true)) }),(18,{ tell:=some (.b (decide (hasP { vec:=x7,cloud:=x8:Past } live[i5.toNat]!.dot=true∨(↑x9.length:Int)=(1:Int)∧covR x9[(0:Nat)]! live[i5.toNat]! = true))) })] [0,3,7,9,10,8,87] [3,1007,10] ⟨(told_eqt h28),(con47 ({ vec:=x7,cloud:=x8:Past }) (live[i5.toNat]!.dot) ?g12),(by simp only [eq_true h28,tsl])⟩ ?_;rotate_left
 exact ⟨rfl,by kernel_rfl⟩
 refine st_split ((↑x9.length:Int)=(1:Int)) (fun h29=>?_) (fun h29=>?_)
 refine ra (A:=(AV.b (hasP { vec:=x7,cloud:=x8:Past } live[i5.toNat]!.dot)=AV.b false)∧_∧_∧_∧((0:Int)≤(0:Int))∧((List.map c81 x9)[Int.toNat (0:Int)]?=some (c81 x9[(0:Nat)]!))∧((c81 x9[(0:Nat)]!).length=(3:Nat))∧((3:Nat)≤[AV.s x9[(0:Nat)]!.sku,AV.sl (List.map c3 x9[(0:Nat)]!.past.vec),AV.sl (List.map c104 x9[(0:Nat)]!.past.cloud)].length)∧_∧(AV.b (covR x9[(0:Nat)]! live[i5.toNat]!)=AV.b (decide (hasP { vec:=x7,cloud:=x8:Past } live[i5.toNat]!.dot=true∨(↑x9.length:Int)=(1:Int)∧covR x9[(0:Nat)]! live[i5.toNat]! = true)))) cx [(4,{ val:=some (.b (hasP { vec:=x7,cloud:=x8:Past } live[i5.toNat]!.dot)),tell:=some (.b (false)) }),(8,{ tell:=some (.i .i64 ((↑x9.length:Int))) }),(9,{ tell:=some (.b (true)) }),(13,{ row:=(c81 x9[(0:Nat)]!) }),(16,{ val:=some (.b (covR x9[(0:Nat)]! live[i5.toNat]!)) }),(18,{ tell:=some (.b (decide (hasP { vec:=x7,cloud:=x8:Past } live[i5.toNat]!.dot=true∨(↑x9.length:Int)=(1:Int)∧covR x9[(0:Nat)]! live[i5.toNat]! = true))) })] [0,3,7,9,10,8,87] [3,1007,10] ⟨(told_eqn h28),(con47 ({ vec:=x7,cloud:=x8:Past }) (live[i5.toNat]!.dot) ?g13),(told_len c81 x9),(told_true h29),(by omega),?g14,(by kernel_rfl),(by (simp only [List.length_append,List.length_cons,List.length_nil];omega)),(con74 (x9[(0:Nat)]!) (live[i5.toNat]!) ?g15),(by simp only [eq_false h28,eq_true h29,tsl])⟩ ?_;rotate_left 3
 exact ⟨rfl,by kernel_rfl⟩
 refine ra (A:=(AV.b (hasP { vec:=x7,cloud:=x8:Past } live[i5.toNat]!.dot)=AV.b false)∧_∧_∧_∧(AV.b false=AV.b (decide (hasP { vec:=x7,cloud:=x8:Past } live[i5.toNat]!.dot=true∨(↑x9.length:Int)=(1:Int)∧covR x9[(0:Nat)]! live[i5.toNat]! = true)))) cx [(4,{ val:=some (.b (hasP { vec:=x7,cloud:=x8:Past } live[i5.toNat]!.dot)),tell:=some (.b (false)) }),(8,{ tell:=some (.i .i64 ((↑x9.length:Int))) }),(9,{ tell:=some (.b (false)) }),(18,{ tell:=some (.b (decide (hasP { vec:=x7,cloud:=x8:Past } live[i5.toNat]!.dot=true∨(↑x9.length:Int)=(1:Int)∧covR x9[(0:Nat)]! live[i5.toNat]! = true))) })] [0,3,7,9,10,8,87] [3,1007,10] ⟨(told_eqn h28),(con47 ({ vec:=x7,cloud:=x8:Past }) (live[i5.toNat]!.dot) ?g16),(told_len c81 x9),(told_false h29),(by simp only [eq_false h28,eq_false h29,tsl])⟩ ?_;rotate_left
 exact ⟨rfl,by kernel_rfl⟩
 refine sn<|dC (hasP { vec:=x7,cloud:=x8:Past } live[i5.toNat]!.dot=true∨(↑x9.length:Int)=(1:Int)∧covR x9[(0:Nat)]! live[i5.toNat]! = true) (fun h30=>?_) fun h30=>?_
 refine eX 1<|nE<|bH<|sn<|rG cx [0,3,7,9,8] [3,1007] (tW 1 (i5+(1:Int)) z0)<|sn<|loop_next ((true,i5+(1:Int),x6,x7,x8,x9,o10++[x6[(0:Nat)]!])) (by kernel_rfl) (show ((↑live.length:Int)-(i5+(1:Int))).toNat < ((↑live.length:Int)-i5).toNat from (by omega)) (show invEd live f true (i5+(1:Int)) x6 x7 x8 x9 (o10++[x6[(0:Nat)]!]) from ?g17);rotate_left
 refine sK<|sn<|rG cx [0,3,7,9,8] [3,1007] (fR (45:Nat) (fR 4 (fR (4:Nat) (fX c45 [live[i5.toNat]!] 4 (fP ((List.map c45 (o10++[x6[(0:Nat)]!])).length+(List.map c45 [live[i5.toNat]!]).length≤maxLen) ?g18 (fP (((List.map c45 (o10++[x6[(0:Nat)]!])).length+(List.map c45 [live[i5.toNat]!]).length)*(40:Nat)≤(140737488355328:Nat)) ?g19 (fM c45 (o10++[x6[(0:Nat)]!]) [live[i5.toNat]!] (oV 3 { rows:=some (List.map c45 (o10++[x6[(0:Nat)]!]++[live[i5.toNat]!])) } z0)))))))) ?_;rotate_left 2
 refine bN<|sn<|rG cx [0,3,7,9,8] [3,1007] (tW 1 (i5+(1:Int)) z0)<|sn<|loop_next ((true,i5+(1:Int),x6,x7,x8,x9,o10++[x6[(0:Nat)]!]++[live[i5.toNat]!])) (by kernel_rfl) (show ((↑live.length:Int)-(i5+(1:Int))).toNat < ((↑live.length:Int)-i5).toNat from (by omega)) (show invEd live f true (i5+(1:Int)) x6 x7 x8 x9 (o10++[x6[(0:Nat)]!]++[live[i5.toNat]!]) from ?g20);rotate_left
 refine sK<|sn<|sq<|sq<|st_join (σ':=⟨[(0,.sl (List.map c45 live)),(3,.ptr (3) (0) (0) (0)),(7,.own 1007 0),(8,.b (p4)),(9,.i .i64 (i5)),(10,.ptr (10) (0) (0) (0)),(87,.b (decide (hasP { vec:=x7,cloud:=x8:Past } live[i5.toNat]!.dot=true∨(↑x9.length:Int)=(1:Int)∧covR x9[(0:Nat)]! live[i5.toNat]! = true)))],[(3,⟨0,29,.var [.sl (List.map c45 x6),.sl (List.map c3 x7),.sl (List.map c104 x8),.sl (List.map c81 x9)]⟩),(1007,⟨0,45,.row 4 (List.map c45 o10)⟩),(10,⟨0,45,.var [.i .i64 (live[i5.toNat]!.dot.rep),.i .i64 (live[i5.toNat]!.dot.num),.s (live[i5.toNat]!.sku),.i .i64 (live[i5.toNat]!.qty)]⟩)]⟩) ?_ ?_
 refine st_split (hasP { vec:=x7,cloud:=x8:Past } live[i5.toNat]!.dot=true) (fun h32=>?_) (fun h32=>?_)
 refine ra (A:=_∧_∧(AV.b true=AV.b (decide (hasP { vec:=x7,cloud:=x8:Past } live[i5.toNat]!.dot=true∨(↑x9.length:Int)=(1:Int)∧covR x9[(0:Nat)]! live[i5.toNat]! = true)))) cx [(4,{ val:=some (.b (hasP { vec:=x7,cloud:=x8:Past } live[i5.toNat]!.dot)),tell:=some (.b (true)) }),(18,{ tell:=some (.b (decide (hasP { vec:=x7,cloud:=x8:Past } live[i5.toNat]!.dot=true∨(↑x9.length:Int)=(1:Int)∧covR x9[(0:Nat)]! live[i5.toNat]! = true))) })] [0,3,7,8,9,10,87] [3,1007,10] ⟨(told_eqt h32),(con47 ({ vec:=x7,cloud:=x8:Past }) (live[i5.toNat]!.dot) ?g21),(by simp only [eq_true h32,tsl])⟩ ?_;rotate_left
 exact ⟨rfl,by kernel_rfl⟩
 refine st_split ((↑x9.length:Int)=(1:Int)) (fun h33=>?_) (fun h33=>?_)
 refine ra (A:=(AV.b (hasP { vec:=x7,cloud:=x8:Past } live[i5.toNat]!.dot)=AV.b false)∧_∧_∧_∧((0:Int)≤(0:Int))∧((List.map c81 x9)[Int.toNat (0:Int)]?=some (c81 x9[(0:Nat)]!))∧((c81 x9[(0:Nat)]!).length=(3:Nat))∧((3:Nat)≤[AV.s x9[(0:Nat)]!.sku,AV.sl (List.map c3 x9[(0:Nat)]!.past.vec),AV.sl (List.map c104 x9[(0:Nat)]!.past.cloud)].length)∧_∧(AV.b (covR x9[(0:Nat)]! live[i5.toNat]!)=AV.b (decide (hasP { vec:=x7,cloud:=x8:Past } live[i5.toNat]!.dot=true∨(↑x9.length:Int)=(1:Int)∧covR x9[(0:Nat)]! live[i5.toNat]! = true)))) cx [(4,{ val:=some (.b (hasP { vec:=x7,cloud:=x8:Past } live[i5.toNat]!.dot)),tell:=some (.b (false)) }),(8,{ tell:=some (.i .i64 ((↑x9.length:Int))) }),(9,{ tell:=some (.b (true)) }),(13,{ row:=(c81 x9[(0:Nat)]!) }),(16,{ val:=some (.b (covR x9[(0:Nat)]! live[i5.toNat]!)) }),(18,{ tell:=some (.b (decide (hasP { vec:=x7,cloud:=x8:Past } live[i5.toNat]!.dot=true∨(↑x9.length:Int)=(1:Int)∧covR x9[(0:Nat)]! live[i5.toNat]! = true))) })] [0,3,7,8,9,10,87] [3,1007,10] ⟨(told_eqn h32),(con47 ({ vec:=x7,cloud:=x8:Past }) (live[i5.toNat]!.dot) ?g22),(told_len c81 x9),(told_true h33),(by omega),?g23,(by kernel_rfl),(by (simp only [List.length_append,List.length_cons,List.length_nil];omega)),(con74 (x9[(0:Nat)]!) (live[i5.toNat]!) ?g24),(by simp only [eq_false h32,eq_true h33,tsl])⟩ ?_;rotate_left 3
 exact ⟨rfl,by kernel_rfl⟩
 refine ra (A:=(AV.b (hasP { vec:=x7,cloud:=x8:Past } live[i5.toNat]!.dot)=AV.b false)∧_∧_∧_∧(AV.b false=AV.b (decide (hasP { vec:=x7,cloud:=x8:Past } live[i5.toNat]!.dot=true∨(↑x9.length:Int)=(1:Int)∧covR x9[(0:Nat)]! live[i5.toNat]! = true)))) cx [(4,{ val:=some (.b (hasP { vec:=x7,cloud:=x8:Past } live[i5.toNat]!.dot)),tell:=some (.b (false)) }),(8,{ tell:=some (.i .i64 ((↑x9.length:Int))) }),(9,{ tell:=some (.b (false)) }),(18,{ tell:=some (.b (decide (hasP { vec:=x7,cloud:=x8:Past } live[i5.toNat]!.dot=true∨(↑x9.length:Int)=(1:Int)∧covR x9[(0:Nat)]! live[i5.toNat]! = true))) })] [0,3,7,8,9,10,87] [3,1007,10] ⟨(told_eqn h32),(con47 ({ vec:=x7,cloud:=x8:Past }) (live[i5.toNat]!.dot) ?g25),(told_len c81 x9),(told_false h33),(by simp only [eq_false h32,eq_false h33,tsl])⟩ ?_;rotate_left
 exact ⟨rfl,by kernel_rfl⟩
 refine sn<|dC (hasP { vec:=x7,cloud:=x8:Past } live[i5.toNat]!.dot=true∨(↑x9.length:Int)=(1:Int)∧covR x9[(0:Nat)]! live[i5.toNat]! = true) (fun h34=>?_) fun h34=>?_
 refine eX 1<|nE<|bH<|sn<|rG cx [0,3,7,8,9] [3,1007] (tW 1 (i5+(1:Int)) z0)<|sn<|loop_next ((p4,i5+(1:Int),x6,x7,x8,x9,o10)) (by kernel_rfl) (show ((↑live.length:Int)-(i5+(1:Int))).toNat < ((↑live.length:Int)-i5).toNat from (by omega)) (show invEd live f p4 (i5+(1:Int)) x6 x7 x8 x9 o10 from ?g26);rotate_left
 refine sK<|sn<|rG cx [0,3,7,8,9] [3,1007] (fR (45:Nat) (fR 4 (fR (4:Nat) (fX c45 [live[i5.toNat]!] 4 (fP ((List.map c45 o10).length+(List.map c45 [live[i5.toNat]!]).length≤maxLen) ?g27 (fP (((List.map c45 o10).length+(List.map c45 [live[i5.toNat]!]).length)*(40:Nat)≤(140737488355328:Nat)) ?g28 (fM c45 o10 [live[i5.toNat]!] (oV 3 { rows:=some (List.map c45 (o10++[live[i5.toNat]!])) } z0)))))))) ?_;rotate_left 2
 refine bN<|sn<|rG cx [0,3,7,8,9] [3,1007] (tW 1 (i5+(1:Int)) z0)<|sn<|loop_next ((p4,i5+(1:Int),x6,x7,x8,x9,o10++[live[i5.toNat]!])) (by kernel_rfl) (show ((↑live.length:Int)-(i5+(1:Int))).toNat < ((↑live.length:Int)-i5).toNat from (by omega)) (show invEd live f p4 (i5+(1:Int)) x6 x7 x8 x9 (o10++[live[i5.toNat]!]) from ?g29);rotate_left
 refine eX 0<|nE<|nE<|bH<|sn<|sq<|sq<|rG cx [3,7,93] [3,1007] (tO 1 p4 z0)<|sn<|dC (¬p4=true) (fun h35=>?_) fun h35=>?_
 refine rG cx [7] [1007] (fO ((0:Int)≤(0:Int)) (fP ((List.map c45 x6)[Int.toNat (0:Int)]?=some (c45 x6[(0:Nat)]!)) ?g30 (fR (4:Nat) (fN 4 4 (fR (45:Nat) (fR 4 (fR (4:Nat) (fX c45 [x6[(0:Nat)]!] 4 (fP ((List.map c45 o10).length+(List.map c45 [x6[(0:Nat)]!]).length≤maxLen) ?g31 (fP (((List.map c45 o10).length+(List.map c45 [x6[(0:Nat)]!]).length)*(40:Nat)≤(140737488355328:Nat)) ?g32 (fM c45 o10 [x6[(0:Nat)]!] (oR 3 (c45 x6[(0:Nat)]!) (oV 6 { rows:=some (List.map c45 (o10++[x6[(0:Nat)]!])) } z0))))))))))))) ?_;rotate_left 3
 refine sn<|sq<|rG cx [4,5] [1007] z0<|sn<|rT<|qR (.tup [.sl (List.map c45 (o10++[x6[(0:Nat)]!])),.i .i64 ((0:Int))]) (AVle.tup (ZLe.cons (AVle.eq (show AV.sl (List.map c45 (o10++[x6[(0:Nat)]!]))=AV.sl (List.map c45 (effV live f).1) from ?g34)) (ZLe.cons (AVle.eq (show AV.i .i64 (0:Int)=AV.i .i64 (effV live f).2 from ?g33)) ZLe.nil)));rotate_left 2
 refine sK<|sn<|sq<|rG cx [4,5] [1007] z0<|sn<|rT<|qR (.tup [.sl (List.map c45 o10),.i .i64 ((0:Int))]) (AVle.tup (ZLe.cons (AVle.eq (show AV.sl (List.map c45 o10)=AV.sl (List.map c45 (effV live f).1) from ?g36)) (ZLe.cons (AVle.eq (show AV.i .i64 (0:Int)=AV.i .i64 (effV live f).2 from ?g35)) ZLe.nil)));rotate_left 2
 revert hh2;rotate_left
 revert hh2;rotate_left
 revert hh2 h3;rotate_left
 revert hh2 h3;rotate_left
 revert hh2 h3;rotate_left
 revert hh2 h3 p4 i5 x6 x7 x8 x9 o10 h12 h13 h14 h15 h16 h17 h18 h19 h20 h22;rotate_left
 revert hh2 h3 p4 i5 x6 x7 x8 x9 o10 h12 h13 h14 h15 h16 h17 h18 h19 h20 h23;rotate_left
 revert hh2 h3 p4 i5 x6 x7 x8 x9 o10 h12 h13 h14 h15 h16 h17 h18 h19 h20 h23;rotate_left
 revert hh2 h3 p4 i5 x6 x7 x8 x9 o10 h12 h13 h14 h15 h16 h17 h18 h19 h20 h23 h25;rotate_left
 revert hh2 h3 p4 i5 x6 x7 x8 x9 o10 h12 h13 h14 h15 h16 h17 h18 h19 h20 h23 h26;rotate_left
 revert hh2 h3 p4 i5 x6 x7 x8 x9 o10 h12 h13 h14 h15 h16 h17 h18 h19 h20 h23 h26;rotate_left
 revert hh2 h3 p4 i5 x6 x7 x8 x9 o10 h12 h13 h14 h15 h16 h17 h18 h19 h20 h23 h26;rotate_left
 revert hh2 h3 p4 i5 x6 x7 x8 x9 o10 h12 h13 h14 h15 h16 h17 h18 h19 h20 h23 h26 h28;rotate_left
 revert hh2 h3 p4 i5 x6 x7 x8 x9 o10 h12 h13 h14 h15 h16 h17 h18 h19 h20 h23 h26 h28 h29;rotate_left
 revert hh2 h3 p4 i5 x6 x7 x8 x9 o10 h12 h13 h14 h15 h16 h17 h18 h19 h20 h23 h26 h28 h29;rotate_left
 revert hh2 h3 p4 i5 x6 x7 x8 x9 o10 h12 h13 h14 h15 h16 h17 h18 h19 h20 h23 h26 h28 h29;rotate_left
 revert hh2 h3 p4 i5 x6 x7 x8 x9 o10 h12 h13 h14 h15 h16 h17 h18 h19 h20 h23 h26 h28 h29;rotate_left
 revert hh2 h3 p4 i5 x6 x7 x8 x9 o10 h12 h13 h14 h15 h16 h17 h18 h19 h20 h23 h26 h30;rotate_left
 revert hh2 h3 p4 i5 x6 x7 x8 x9 o10 h12 h13 h14 h15 h16 h17 h18 h19 h20 h23 h26 h30;rotate_left
 revert hh2 h3 p4 i5 x6 x7 x8 x9 o10 h12 h13 h14 h15 h16 h17 h18 h19 h20 h23 h26 h30;rotate_left
 revert hh2 h3 p4 i5 x6 x7 x8 x9 o10 h12 h13 h14 h15 h16 h17 h18 h19 h20 h23 h26 h30;rotate_left
 revert hh2 h3 p4 i5 x6 x7 x8 x9 o10 h12 h13 h14 h15 h16 h17 h18 h19 h20 h23 h26 h32;rotate_left
 revert hh2 h3 p4 i5 x6 x7 x8 x9 o10 h12 h13 h14 h15 h16 h17 h18 h19 h20 h23 h26 h32 h33;rotate_left
 revert hh2 h3 p4 i5 x6 x7 x8 x9 o10 h12 h13 h14 h15 h16 h17 h18 h19 h20 h23 h26 h32 h33;rotate_left
 revert hh2 h3 p4 i5 x6 x7 x8 x9 o10 h12 h13 h14 h15 h16 h17 h18 h19 h20 h23 h26 h32 h33;rotate_left
 revert hh2 h3 p4 i5 x6 x7 x8 x9 o10 h12 h13 h14 h15 h16 h17 h18 h19 h20 h23 h26 h32 h33;rotate_left
 revert hh2 h3 p4 i5 x6 x7 x8 x9 o10 h12 h13 h14 h15 h16 h17 h18 h19 h20 h23 h26 h34;rotate_left
 revert hh2 h3 p4 i5 x6 x7 x8 x9 o10 h12 h13 h14 h15 h16 h17 h18 h19 h20 h23 h26 h34;rotate_left
 revert hh2 h3 p4 i5 x6 x7 x8 x9 o10 h12 h13 h14 h15 h16 h17 h18 h19 h20 h23 h26 h34;rotate_left
 revert hh2 h3 p4 i5 x6 x7 x8 x9 o10 h12 h13 h14 h15 h16 h17 h18 h19 h20 h23 h26 h34;rotate_left
 revert hh2 h3 p4 i5 x6 x7 x8 x9 o10 h12 h13 h14 h15 h16 h17 h18 h19 h20 h35;rotate_left
 revert hh2 h3 p4 i5 x6 x7 x8 x9 o10 h12 h13 h14 h15 h16 h17 h18 h19 h20 h35;rotate_left
 revert hh2 h3 p4 i5 x6 x7 x8 x9 o10 h12 h13 h14 h15 h16 h17 h18 h19 h20 h35;rotate_left
 revert hh2 h3 p4 i5 x6 x7 x8 x9 o10 h12 h13 h14 h15 h16 h17 h18 h19 h20 h35;rotate_left
 revert hh2 h3 p4 i5 x6 x7 x8 x9 o10 h12 h13 h14 h15 h16 h17 h18 h19 h20 h35;rotate_left
 revert hh2 h3 p4 i5 x6 x7 x8 x9 o10 h12 h13 h14 h15 h16 h17 h18 h19 h20 h35;rotate_left
 revert hh2 h3 p4 i5 x6 x7 x8 x9 o10 h12 h13 h14 h15 h16 h17 h18 h19 h20 h35;rotate_left
 case g0=>intro h;rw [eff_form h]
 case g1=>intro h;rw [eff_form h];rfl
 case g2=>intro h1 h2;rw [eff_ev h1 h2]
 case g3=>intro h1 h2;rw [eff_ev h1 h2];rfl
 case g4 =>
  intro h1 h2
  have e:decide ((f.adds.length:Int)=0)=decide (f.adds.length=0):=decide_eq_decide.2 (by omega)
  have:=putN_le (decide ((f.adds.length:Int)=0))
  refine ⟨rfl,rfl,rfl,rfl,by omega,by omega,by simp only [List.length_nil];omega,?_⟩
  rw [e]
  exact ed_zero
 case g5=>intro h1 h2 p i x1 x2 x3 x4 o e1 e2 e3 e4 k0 k1 k2 k3 h4 h5;rw [e1];exact head0 _ (NE k3 h5)
 case g6=>intro h1 h2 p i x1 x2 x3 x4 o e1 e2 e3 e4 k0 k1 k2 k3 h4 h5;rw [pfalse h5.1] at k3;rw [e1] at h5;rw [eff_clash h1 (Classical.not_not.1 h2) (ed_clash k0 h4 k3 h5.2)]
 case g7=>intro h1 h2 p i x1 x2 x3 x4 o e1 e2 e3 e4 k0 k1 k2 k3 h4 h5;rw [pfalse h5.1] at k3;rw [e1] at h5;rw [eff_clash h1 (Classical.not_not.1 h2) (ed_clash k0 h4 k3 h5.2)];rfl
 case g8=>intro h1 h2 p i x1 x2 x3 x4 o e1 e2 e3 e4 k0 k1 k2 k3 h4 h5 h6;rw [e1];exact head0 _ (NE k3 h6)
 case g9=>intro h1 h2 p i x1 x2 x3 x4 o e1 e2 e3 e4 k0 k1 k2 k3 h4 h5 h6;rw [e1];exact head0 _ (NE k3 h6.1)
 case g10=>intro h1 h2 p i x1 x2 x3 x4 o e1 e2 e3 e4 k0 k1 k2 k3 h4 h5 h6;have:=LE h1;have:=putN_le p;simp only [List.length_map,List.length_append,List.length_cons,List.length_nil,Go.maxLen];omega
 case g11=>intro h1 h2 p i x1 x2 x3 x4 o e1 e2 e3 e4 k0 k1 k2 k3 h4 h5 h6;have:=LE h1;have:=putN_le p;simp only [List.length_map,List.length_append,List.length_cons,List.length_nil,Go.maxLen];omega
 case g12=>intro h1 h2 p i x1 x2 x3 x4 o e1 e2 e3 e4 k0 k1 k2 k3 h4 h5 h6 h7;show x3.length≤_;rw [e3];have:=hb.1.1;omega
 case g13=>intro h1 h2 p i x1 x2 x3 x4 o e1 e2 e3 e4 k0 k1 k2 k3 h4 h5 h6 h7 h8;show x3.length≤_;rw [e3];have:=hb.1.1;omega
 case g14=>intro h1 h2 p i x1 x2 x3 x4 o e1 e2 e3 e4 k0 k1 k2 k3 h4 h5 h6 h7 h8;rw [e4] at h8 ⊢;exact head0 _ (by omega)
 case g15=>intro h1 h2 p i x1 x2 x3 x4 o e1 e2 e3 e4 k0 k1 k2 k3 h4 h5 h6 h7 h8;rw [e4] at h8 ⊢;have:=(hb.2 _ (bang_in (l:=f.recs) (i:=0) (by omega))).1;omega
 case g16=>intro h1 h2 p i x1 x2 x3 x4 o e1 e2 e3 e4 k0 k1 k2 k3 h4 h5 h6 h7 h8;show x3.length≤_;rw [e3];have:=hb.1.1;omega
 case g17 =>
  intro h1 h2 p i x1 x2 x3 x4 o e1 e2 e3 e4 k0 k1 k2 k3 h4 h5 h6 h7
  subst e1 e2 e3 e4
  have k3':=k3
  rw [pfalse h6.1] at k3'
  have hz:putN p=0:=by rw [pfalse h6.1];rfl
  have ho:putN true=1:=rfl
  refine ⟨rfl,rfl,rfl,rfl,by omega,by omega,by simp only [List.length_append,List.length_cons,List.length_nil];omega,ed_add (FO h1) k0 h4 k3' h6.2 _ (.inr ⟨(keep_iff (ev_cases (Classical.not_not.1 h2)).2.2).1 h7,rfl⟩)⟩
 case g18=>intro h1 h2 p i x1 x2 x3 x4 o e1 e2 e3 e4 k0 k1 k2 k3 h4 h5 h6 h7;have:=LE h1;have:=putN_le p;simp only [List.length_map,List.length_append,List.length_cons,List.length_nil,Go.maxLen];omega
 case g19=>intro h1 h2 p i x1 x2 x3 x4 o e1 e2 e3 e4 k0 k1 k2 k3 h4 h5 h6 h7;have:=LE h1;have:=putN_le p;simp only [List.length_map,List.length_append,List.length_cons,List.length_nil,Go.maxLen];omega
 case g20 =>
  intro h1 h2 p i x1 x2 x3 x4 o e1 e2 e3 e4 k0 k1 k2 k3 h4 h5 h6 h7
  subst e1 e2 e3 e4
  have k3':=k3
  rw [pfalse h6.1] at k3'
  have hz:putN p=0:=by rw [pfalse h6.1];rfl
  have ho:putN true=1:=rfl
  refine ⟨rfl,rfl,rfl,rfl,by omega,by omega,by simp only [List.length_append,List.length_cons,List.length_nil];omega,ed_add (FO h1) k0 h4 k3' h6.2 _ (.inl ⟨Classical.not_not.1 fun k=>h7 ((keep_iff (ev_cases (Classical.not_not.1 h2)).2.2).2 k),rfl⟩)⟩
 case g21=>intro h1 h2 p i x1 x2 x3 x4 o e1 e2 e3 e4 k0 k1 k2 k3 h4 h5 h6 h7;show x3.length≤_;rw [e3];have:=hb.1.1;omega
 case g22=>intro h1 h2 p i x1 x2 x3 x4 o e1 e2 e3 e4 k0 k1 k2 k3 h4 h5 h6 h7 h8;show x3.length≤_;rw [e3];have:=hb.1.1;omega
 case g23=>intro h1 h2 p i x1 x2 x3 x4 o e1 e2 e3 e4 k0 k1 k2 k3 h4 h5 h6 h7 h8;rw [e4] at h8 ⊢;exact head0 _ (by omega)
 case g24=>intro h1 h2 p i x1 x2 x3 x4 o e1 e2 e3 e4 k0 k1 k2 k3 h4 h5 h6 h7 h8;rw [e4] at h8 ⊢;have:=(hb.2 _ (bang_in (l:=f.recs) (i:=0) (by omega))).1;omega
 case g25=>intro h1 h2 p i x1 x2 x3 x4 o e1 e2 e3 e4 k0 k1 k2 k3 h4 h5 h6 h7 h8;show x3.length≤_;rw [e3];have:=hb.1.1;omega
 case g26 =>
  intro h1 h2 p i x1 x2 x3 x4 o e1 e2 e3 e4 k0 k1 k2 k3 h4 h5 h6 h7
  subst e1 e2 e3 e4
  have hn:p=true∨¬ dLt f.adds[0]!.dot live[i.toNat]!.dot=true∧¬ live[i.toNat]!.dot=f.adds[0]!.dot:=by
   by_cases q:p=true
   ·exact .inl q
   ·exact .inr ⟨fun k=>h6 ⟨q,k⟩,fun k=>h5 ⟨q,k⟩⟩
  refine ⟨rfl,rfl,rfl,rfl,by omega,by omega,by (try simp only [List.length_append,List.length_cons,List.length_nil]);omega,ed_next (FO h1) k0 h4 k3 hn _ (.inr ⟨(keep_iff (ev_cases (Classical.not_not.1 h2)).2.2).1 h7,rfl⟩)⟩
 case g27=>intro h1 h2 p i x1 x2 x3 x4 o e1 e2 e3 e4 k0 k1 k2 k3 h4 h5 h6 h7;have:=LE h1;have:=putN_le p;simp only [List.length_map,List.length_append,List.length_cons,List.length_nil,Go.maxLen];omega
 case g28=>intro h1 h2 p i x1 x2 x3 x4 o e1 e2 e3 e4 k0 k1 k2 k3 h4 h5 h6 h7;have:=LE h1;have:=putN_le p;simp only [List.length_map,List.length_append,List.length_cons,List.length_nil,Go.maxLen];omega
 case g29 =>
  intro h1 h2 p i x1 x2 x3 x4 o e1 e2 e3 e4 k0 k1 k2 k3 h4 h5 h6 h7
  subst e1 e2 e3 e4
  have hn:p=true∨¬ dLt f.adds[0]!.dot live[i.toNat]!.dot=true∧¬ live[i.toNat]!.dot=f.adds[0]!.dot:=by
   by_cases q:p=true
   ·exact .inl q
   ·exact .inr ⟨fun k=>h6 ⟨q,k⟩,fun k=>h5 ⟨q,k⟩⟩
  refine ⟨rfl,rfl,rfl,rfl,by omega,by omega,by (try simp only [List.length_append,List.length_cons,List.length_nil]);omega,ed_next (FO h1) k0 h4 k3 hn _ (.inl ⟨Classical.not_not.1 fun k=>h7 ((keep_iff (ev_cases (Classical.not_not.1 h2)).2.2).2 k),rfl⟩)⟩
 case g30=>intro h1 h2 p i x1 x2 x3 x4 o e1 e2 e3 e4 k0 k1 k2 k3 h4 h5;rw [e1];exact head0 _ (NE k3 h5)
 case g31=>intro h1 h2 p i x1 x2 x3 x4 o e1 e2 e3 e4 k0 k1 k2 k3 h4 h5;have:=LE h1;have:=putN_le p;simp only [List.length_map,List.length_append,List.length_cons,List.length_nil,Go.maxLen];omega
 case g32=>intro h1 h2 p i x1 x2 x3 x4 o e1 e2 e3 e4 k0 k1 k2 k3 h4 h5;have:=LE h1;have:=putN_le p;simp only [List.length_map,List.length_append,List.length_cons,List.length_nil,Go.maxLen];omega
 case g33 =>
  intro h1 h2 p i x1 x2 x3 x4 o e1 e2 e3 e4 k0 k1 k2 k3 h4 h5
  subst e1 e2 e3 e4
  have hv:=Classical.not_not.1 h2
  have z:=ed_end (l:=o++[f.adds[0]!]) (FO h1) (FA h1) (ev_cases hv).2.1 k0 (by omega) k3 (.inr ⟨pfalse h5,rfl⟩)
  rw [eff_union h1 hv z.1,z.2]
 case g34 =>
  intro h1 h2 p i x1 x2 x3 x4 o e1 e2 e3 e4 k0 k1 k2 k3 h4 h5
  subst e1 e2 e3 e4
  have hv:=Classical.not_not.1 h2
  have z:=ed_end (l:=o++[f.adds[0]!]) (FO h1) (FA h1) (ev_cases hv).2.1 k0 (by omega) k3 (.inr ⟨pfalse h5,rfl⟩)
  rw [eff_union h1 hv z.1,z.2]
 case g35 =>
  intro h1 h2 p i x1 x2 x3 x4 o e1 e2 e3 e4 k0 k1 k2 k3 h4 h5
  subst e1 e2 e3 e4
  have hv:=Classical.not_not.1 h2
  have z:=ed_end (l:=o) (FO h1) (FA h1) (ev_cases hv).2.1 k0 (by omega) k3 (.inl ⟨Classical.not_not.1 h5,rfl⟩)
  rw [eff_union h1 hv z.1,z.2]
 case g36 =>
  intro h1 h2 p i x1 x2 x3 x4 o e1 e2 e3 e4 k0 k1 k2 k3 h4 h5
  subst e1 e2 e3 e4
  have hv:=Classical.not_not.1 h2
  have z:=ed_end (l:=o) (FO h1) (FA h1) (ev_cases hv).2.1 k0 (by omega) k3 (.inl ⟨Classical.not_not.1 h5,rfl⟩)
  rw [eff_union h1 hv z.1,z.2]
end Go.Proofs.YtaiepnaokhpmcaaGreat
namespace Go.Proofs.YtaiepnaokhpmcaaGreat
open Go.E
set_option maxRecDepth 100000
set_option maxHeartbeats 4000000
def oneE:List Entry:=[⟨⟨0,1⟩,⟨#[65]⟩,5⟩]
def nonF:Facts:=⟨[],⟨[],[]⟩,[]⟩
theorem one_form:formE oneE:=(lst_iff _).1 (by decide +kernel)
theorem non_ok:okF nonF=true:=by rw [okF_eq,decide_eq_true_iff];exact ⟨rfl,norm_none.symm,rfl⟩
theorem non_ev:evE nonF=0:=by
 unfold evE
 rw [non_ok,if_neg (by decide),if_neg (by decide),if_pos (by decide)]
theorem eff_one:effV oneE nonF=(oneE,0):=by
 have h1:¬ (¬ lstE oneE=0∨¬ okF nonF=true):=by
  rintro (h | h)
  ·exact h ((lst_iff _).2 one_form)
  ·exact h non_ok
 rw [eff_union h1 non_ev (by unfold clashA nonF;simp)]
 refine union_eq (left_form one_form) (lst_iff _ |>.1 rfl) one_form fun e=>?_
 rw [left_mem]
 constructor
 ·exact fun h=>.inl ⟨h,fun k=>(by rw [show nonF.gone=⟨[],[]⟩ from rfl,has_none] at k;cases k),rfl⟩
 ·rintro (h | h)
  ·exact h.1
  ·cases h
theorem con27 (a b:List Entry):Con Tryz.prog 27 [.sl (a.map c45),.sl (b.map c45)] (.b (decide (a=b))) :=
 by
 refine con_lens 0 (c45) (a) (by kernel_rfl) Go.Proofs.Tryz.func27 (by kernel_rfl) fun hl_0=>con_lens 1 (c45) (b) (by kernel_rfl) Go.Proofs.Tryz.func27 (by kernel_rfl) fun hl_1=>st_con tab_ok (by kernel_rfl) [.tmp 4] 26 Go.Proofs.Tryz.func27 (by kernel_rfl) (by kernel_rfl) ?_
 intro e0 cx
 refine sq<|rG cx [0,1] [] z0<|sn<|sq<|sq<|rG cx [0,1,10] [] (tL 1 c45 a (tL 3 c45 b (tN 4 (↑a.length:Int) (↑b.length:Int) z0)))<|sn<|dC (¬(↑a.length:Int)=(↑b.length:Int)) (fun h0=>?_) fun h0=>?_
 refine sq<|rG cx [4] [] z0<|sn<|rT<|nR<|qR (.b (false)) (.eq ?g0);rotate_left
 refine sK<|sn<|sq<|sq<|rG cx [0,1,5] [] z0<|sn<|bL 0<|st_loop (X:=Int) (fun x=>⟨[(0,.sl (List.map c45 a)),(1,.sl (List.map c45 b)),(5,.i .i64 (x))],[]⟩) (fun x ↦ dec30 a x) (fun x ↦ inv30 a b x) [0,1,5] [] ((0:Int)) (by kernel_rfl) (by kernel_rfl) (show inv30 a b (0:Int) from ?g1) ?_;rotate_left
 intro i1 h_2
 obtain ⟨hh3,hh4,hh5⟩:(0:Int)≤i1∧i1≤(↑a.length:Int)∧∀ (j:Nat),(↑j:Int) < i1→a[j]! = b[j]!:=h_2
 refine sq<|sq<|rG cx [0,1,5,14] [] (tL 2 c45 a (tB 3 (i1 < (↑a.length:Int)) z0))<|sn<|dC (i1 < (↑a.length:Int)) (fun h6=>?_) fun h6=>?_
 refine sK<|sn<|sq<|bL 1<|sq<|rA cx [0,1,5,25] [] (fA ((0:Int)≤i1) (fG c45 a i1.toNat (fR (4:Nat) (fN 4 4 (fA ((0:Int)≤i1) (fG c45 b i1.toNat (fR (4:Nat) (fN 4 4 (fT (aggNe_dec (eq45 a[i1.toNat]! b[i1.toNat]!)) (oR 2 (c45 a[i1.toNat]!) (oR 6 (c45 b[i1.toNat]!) (oA 8 (.b (decide ¬a[i1.toNat]! = b[i1.toNat]!)) z0))))))))))))<|sn<|dC (¬a[i1.toNat]! = b[i1.toNat]!) (fun h7=>?_) fun h7=>?_
 refine sq<|rG cx [4] [] z0<|sn<|rT<|bR<|nR<|nR<|bR<|nR<|qR (.b (false)) (.eq ?g2);rotate_left
 refine sK<|bN<|sn<|rG cx [0,1,5] [] (tW 1 (i1+(1:Int)) z0)<|sn<|loop_next (i1+(1:Int)) (by kernel_rfl) (show ((↑a.length:Int)-(i1+(1:Int))).toNat < ((↑a.length:Int)-i1).toNat from (by omega)) (show inv30 a b (i1+(1:Int)) from ?g3);rotate_left
 refine eX 0<|nE<|nE<|bH<|sn<|sq<|rG cx [4] [] z0<|sn<|rT<|qR (.b (true)) (.eq ?g4);rotate_left
 revert h0;rotate_left
 revert h0;rotate_left
 revert h0 i1 hh3 hh4 hh5 h6 h7;rotate_left
 revert h0 i1 hh3 hh4 hh5 h6 h7;rotate_left
 revert h0 i1 hh3 hh4 hh5 h6;rotate_left
 case g1=>exact (fun h=>⟨by omega,by omega,fun j hj=>by omega⟩)
 case' g4=>refine (fun h i h1 h2 h3 h4=>?_)
 case' g3=>refine (fun h i h1 h2 h3 h4 h5=>⟨by omega,by omega,fun j hj=>?_⟩)
 case' g2=>refine (fun h i h1 h2 h3 h4 h5=>?_)
 case' g0=>refine (fun h=>?_)
 ·congr 1;symm;rw [decide_eq_false_iff_not];rintro rfl;exact h rfl
 ·congr 1;symm;rw [decide_eq_false_iff_not];rintro rfl;exact h5 rfl
 ·by_cases e:j=i.toNat
  ·subst e;exact Classical.not_not.1 h5
  ·exact h3 j (by omega)
 ·congr 1;symm;rw [decide_eq_true_iff];exact bang_eq (Classical.not_not.1 h) fun j hj=>h3 j (by omega)
theorem con4 (live:List Entry) (f:Facts) (hb:szF f):Con Tryz.prog 4 [.sl (live.map c45),.agg (c29 f)] (.b true) :=
 by
 refine con_lens 0 (c45) (live) (by kernel_rfl) Go.Proofs.Tryz.func4 (by kernel_rfl) fun hl_0=>st_con tab_ok (by kernel_rfl) [.tmp 4] 51 Go.Proofs.Tryz.func4 (by kernel_rfl) (by kernel_rfl) ?_
 intro e0 cx
 refine sq<|rG cx [0,3] [3] z0<|sn<|sq<|rG cx [0,3,5,6] [3] (fP (Con Tryz.prog (25:Nat) [AV.sl (List.map c45 [{ dot:={ rep:=(0:Int),num:=(1:Int):Dot },sku:={ data:=#[(65:UInt8)]:ByteArray },qty:=(5:Int):Entry }]),AV.agg [AV.nl,AV.nl,AV.nl,AV.nl]] (AV.tup [AV.sl (List.map c45 (effV [{ dot:={ rep:=(0:Int),num:=(1:Int):Dot },sku:={ data:=#[(65:UInt8)]:ByteArray },qty:=(5:Int):Entry }] { adds:=[],gone:={ vec:=[],cloud:=[]:Past },recs:=[]:Facts }).1),AV.i .i64 (effV [{ dot:={ rep:=(0:Int),num:=(1:Int):Dot },sku:={ data:=#[(65:UInt8)]:ByteArray },qty:=(5:Int):Entry }] { adds:=[],gone:={ vec:=[],cloud:=[]:Past },recs:=[]:Facts }).2])) (Con.le (con25 ([{ dot:={ rep:=(0:Int),num:=(1:Int):Dot },sku:={ data:=#[(65:UInt8)]:ByteArray },qty:=(5:Int):Entry }]) ({ adds:=[],gone:={ vec:=[],cloud:=[]:Past },recs:=[]:Facts }) ?g0) (ZLe.cons (AVle.refl _) (ZLe.cons (AVle.agg (ZLe.cons AVle.nl (ZLe.cons AVle.nl (ZLe.cons AVle.nl (ZLe.cons AVle.nl ZLe.nil))))) ZLe.nil))) (oA 4 (.tup [.sl (List.map c45 (effV [{ dot:={ rep:=(0:Int),num:=(1:Int):Dot },sku:={ data:=#[(65:UInt8)]:ByteArray },qty:=(5:Int):Entry }] { adds:=[],gone:={ vec:=[],cloud:=[]:Past },recs:=[]:Facts }).1),.i .i64 ((effV [{ dot:={ rep:=(0:Int),num:=(1:Int):Dot },sku:={ data:=#[(65:UInt8)]:ByteArray },qty:=(5:Int):Entry }] { adds:=[],gone:={ vec:=[],cloud:=[]:Past },recs:=[]:Facts }).2)]) z0)) ?_;rotate_left
 refine sn<|sq<|sq<|st_join (σ':=⟨[(0,.sl (List.map c45 live)),(3,.ptr (3) (0) (0) (0)),(30,.b (decide (¬(↑(effV [{ dot:={ rep:=(0:Int),num:=(1:Int):Dot },sku:={ data:=#[(65:UInt8)]:ByteArray },qty:=(5:Int):Entry }] { adds:=[],gone:={ vec:=[],cloud:=[]:Past },recs:=[]:Facts }).1.length:Int)=(1:Int)∨¬(effV [{ dot:={ rep:=(0:Int),num:=(1:Int):Dot },sku:={ data:=#[(65:UInt8)]:ByteArray },qty:=(5:Int):Entry }] { adds:=[],gone:={ vec:=[],cloud:=[]:Past },recs:=[]:Facts }).2=(0:Int)∨¬(effV [{ dot:={ rep:=(0:Int),num:=(1:Int):Dot },sku:={ data:=#[(65:UInt8)]:ByteArray },qty:=(5:Int):Entry }] { adds:=[],gone:={ vec:=[],cloud:=[]:Past },recs:=[]:Facts }).1[(0:Nat)]!.qty=(5:Int))))],[(3,⟨0,29,.var [.sl (List.map c45 f.adds),.sl (List.map c3 f.gone.vec),.sl (List.map c104 f.gone.cloud),.sl (List.map c81 f.recs)]⟩)]⟩) ?_ ?_
 refine st_split (¬(↑(effV [{ dot:={ rep:=(0:Int),num:=(1:Int):Dot },sku:={ data:=#[(65:UInt8)]:ByteArray },qty:=(5:Int):Entry }] { adds:=[],gone:={ vec:=[],cloud:=[]:Past },recs:=[]:Facts }).1.length:Int)=(1:Int)) (fun h1=>?_) (fun h1=>?_)
 refine rG cx [0,3,30] [3] (tL 1 c45 ((effV [{ dot:={ rep:=(0:Int),num:=(1:Int):Dot },sku:={ data:=#[(65:UInt8)]:ByteArray },qty:=(5:Int):Entry }] { adds:=[],gone:={ vec:=[],cloud:=[]:Past },recs:=[]:Facts }).1) (tT 2 (told_neqt h1:AV.b ((↑(effV [{ dot:={ rep:=(0:Int),num:=(1:Int):Dot },sku:={ data:=#[(65:UInt8)]:ByteArray },qty:=(5:Int):Entry }] { adds:=[],gone:={ vec:=[],cloud:=[]:Past },recs:=[]:Facts }).1.length:Int) != (1:Int))=AV.b true) (tD 13 true (¬(↑(effV [{ dot:={ rep:=(0:Int),num:=(1:Int):Dot },sku:={ data:=#[(65:UInt8)]:ByteArray },qty:=(5:Int):Entry }] { adds:=[],gone:={ vec:=[],cloud:=[]:Past },recs:=[]:Facts }).1.length:Int)=(1:Int)∨¬(effV [{ dot:={ rep:=(0:Int),num:=(1:Int):Dot },sku:={ data:=#[(65:UInt8)]:ByteArray },qty:=(5:Int):Entry }] { adds:=[],gone:={ vec:=[],cloud:=[]:Past },recs:=[]:Facts }).2=(0:Int)∨¬(effV [{ dot:={ rep:=(0:Int),num:=(1:Int):Dot },sku:={ data:=#[(65:UInt8)]:ByteArray },qty:=(5:Int):Entry }] { adds:=[],gone:={ vec:=[],cloud:=[]:Past },recs:=[]:Facts }).1[(0:Nat)]!.qty=(5:Int)) (by simp only [eq_false h1,tsl]) z0))) ?_
 exact ⟨rfl,by kernel_rfl⟩
 refine st_split (¬(effV [{ dot:={ rep:=(0:Int),num:=(1:Int):Dot },sku:={ data:=#[(65:UInt8)]:ByteArray },qty:=(5:Int):Entry }] { adds:=[],gone:={ vec:=[],cloud:=[]:Past },recs:=[]:Facts }).2=(0:Int)) (fun h2=>?_) (fun h2=>?_)
 refine rG cx [0,3,30] [3] (tL 1 c45 ((effV [{ dot:={ rep:=(0:Int),num:=(1:Int):Dot },sku:={ data:=#[(65:UInt8)]:ByteArray },qty:=(5:Int):Entry }] { adds:=[],gone:={ vec:=[],cloud:=[]:Past },recs:=[]:Facts }).1) (tN 2 (↑(effV [{ dot:={ rep:=(0:Int),num:=(1:Int):Dot },sku:={ data:=#[(65:UInt8)]:ByteArray },qty:=(5:Int):Entry }] { adds:=[],gone:={ vec:=[],cloud:=[]:Past },recs:=[]:Facts }).1.length:Int) (1:Int) (tT 3 (told_false h1) (tT 5 (told_neqt h2:AV.b ((effV [{ dot:={ rep:=(0:Int),num:=(1:Int):Dot },sku:={ data:=#[(65:UInt8)]:ByteArray },qty:=(5:Int):Entry }] { adds:=[],gone:={ vec:=[],cloud:=[]:Past },recs:=[]:Facts }).2 != (0:Int))=AV.b true) (tT 13 (by first | (simp only [eq_false h1,eq_false h2,tsl];done) | simp_all:AV.b true=AV.b (decide (¬(↑(effV [{ dot:={ rep:=(0:Int),num:=(1:Int):Dot },sku:={ data:=#[(65:UInt8)]:ByteArray },qty:=(5:Int):Entry }] { adds:=[],gone:={ vec:=[],cloud:=[]:Past },recs:=[]:Facts }).1.length:Int)=(1:Int)∨¬(effV [{ dot:={ rep:=(0:Int),num:=(1:Int):Dot },sku:={ data:=#[(65:UInt8)]:ByteArray },qty:=(5:Int):Entry }] { adds:=[],gone:={ vec:=[],cloud:=[]:Past },recs:=[]:Facts }).2=(0:Int)∨¬(effV [{ dot:={ rep:=(0:Int),num:=(1:Int):Dot },sku:={ data:=#[(65:UInt8)]:ByteArray },qty:=(5:Int):Entry }] { adds:=[],gone:={ vec:=[],cloud:=[]:Past },recs:=[]:Facts }).1[(0:Nat)]!.qty=(5:Int)))) z0))))) ?_
 exact ⟨rfl,by kernel_rfl⟩
 refine rG cx [0,3,30] [3] (tL 1 c45 ((effV [{ dot:={ rep:=(0:Int),num:=(1:Int):Dot },sku:={ data:=#[(65:UInt8)]:ByteArray },qty:=(5:Int):Entry }] { adds:=[],gone:={ vec:=[],cloud:=[]:Past },recs:=[]:Facts }).1) (tN 2 (↑(effV [{ dot:={ rep:=(0:Int),num:=(1:Int):Dot },sku:={ data:=#[(65:UInt8)]:ByteArray },qty:=(5:Int):Entry }] { adds:=[],gone:={ vec:=[],cloud:=[]:Past },recs:=[]:Facts }).1.length:Int) (1:Int) (tT 3 (told_false h1) (tN 5 ((effV [{ dot:={ rep:=(0:Int),num:=(1:Int):Dot },sku:={ data:=#[(65:UInt8)]:ByteArray },qty:=(5:Int):Entry }] { adds:=[],gone:={ vec:=[],cloud:=[]:Past },recs:=[]:Facts }).2) (0:Int) (tT 6 (told_false h2) (fO ((0:Int)≤(0:Int)) (fP ((List.map c45 (effV [{ dot:={ rep:=(0:Int),num:=(1:Int):Dot },sku:={ data:=#[(65:UInt8)]:ByteArray },qty:=(5:Int):Entry }] { adds:=[],gone:={ vec:=[],cloud:=[]:Past },recs:=[]:Facts }).1)[Int.toNat (0:Int)]?=some (c45 (effV [{ dot:={ rep:=(0:Int),num:=(1:Int):Dot },sku:={ data:=#[(65:UInt8)]:ByteArray },qty:=(5:Int):Entry }] { adds:=[],gone:={ vec:=[],cloud:=[]:Past },recs:=[]:Facts }).1[(0:Nat)]!)) ?g1 (fR (4:Nat) (tN 12 ((effV [{ dot:={ rep:=(0:Int),num:=(1:Int):Dot },sku:={ data:=#[(65:UInt8)]:ByteArray },qty:=(5:Int):Entry }] { adds:=[],gone:={ vec:=[],cloud:=[]:Past },recs:=[]:Facts }).1[(0:Nat)]!.qty) (5:Int) (tT 13 (by first | (simp only [eq_false h1,eq_false h2,tsl];done) | simp_all:AV.b (decide ¬(effV [{ dot:={ rep:=(0:Int),num:=(1:Int):Dot },sku:={ data:=#[(65:UInt8)]:ByteArray },qty:=(5:Int):Entry }] { adds:=[],gone:={ vec:=[],cloud:=[]:Past },recs:=[]:Facts }).1[(0:Nat)]!.qty=(5:Int))=AV.b (decide (¬(↑(effV [{ dot:={ rep:=(0:Int),num:=(1:Int):Dot },sku:={ data:=#[(65:UInt8)]:ByteArray },qty:=(5:Int):Entry }] { adds:=[],gone:={ vec:=[],cloud:=[]:Past },recs:=[]:Facts }).1.length:Int)=(1:Int)∨¬(effV [{ dot:={ rep:=(0:Int),num:=(1:Int):Dot },sku:={ data:=#[(65:UInt8)]:ByteArray },qty:=(5:Int):Entry }] { adds:=[],gone:={ vec:=[],cloud:=[]:Past },recs:=[]:Facts }).2=(0:Int)∨¬(effV [{ dot:={ rep:=(0:Int),num:=(1:Int):Dot },sku:={ data:=#[(65:UInt8)]:ByteArray },qty:=(5:Int):Entry }] { adds:=[],gone:={ vec:=[],cloud:=[]:Past },recs:=[]:Facts }).1[(0:Nat)]!.qty=(5:Int)))) (oR 9 (c45 (effV [{ dot:={ rep:=(0:Int),num:=(1:Int):Dot },sku:={ data:=#[(65:UInt8)]:ByteArray },qty:=(5:Int):Entry }] { adds:=[],gone:={ vec:=[],cloud:=[]:Past },recs:=[]:Facts }).1[(0:Nat)]!) z0))))))))))) ?_;rotate_left
 exact ⟨rfl,by kernel_rfl⟩
 refine sn<|dC (¬(↑(effV [{ dot:={ rep:=(0:Int),num:=(1:Int):Dot },sku:={ data:=#[(65:UInt8)]:ByteArray },qty:=(5:Int):Entry }] { adds:=[],gone:={ vec:=[],cloud:=[]:Past },recs:=[]:Facts }).1.length:Int)=(1:Int)∨¬(effV [{ dot:={ rep:=(0:Int),num:=(1:Int):Dot },sku:={ data:=#[(65:UInt8)]:ByteArray },qty:=(5:Int):Entry }] { adds:=[],gone:={ vec:=[],cloud:=[]:Past },recs:=[]:Facts }).2=(0:Int)∨¬(effV [{ dot:={ rep:=(0:Int),num:=(1:Int):Dot },sku:={ data:=#[(65:UInt8)]:ByteArray },qty:=(5:Int):Entry }] { adds:=[],gone:={ vec:=[],cloud:=[]:Past },recs:=[]:Facts }).1[(0:Nat)]!.qty=(5:Int)) (fun h3=>?_) fun h3=>?_
 refine sq<|rG cx [4] [] z0<|sn<|rT<|nR<|qR (.b (false)) (.eq ?g2);rotate_left
 refine sK<|sn<|sq<|rG cx [0,3,7,8] [3] (fT (con26 (live) (f) (by (with_reducible assumption))) (oA 2 (.tup [.sl (List.map c45 (effV live f).1),.i .i64 ((effV live f).2)]) z0))<|sn<|sq<|rG cx [7,8,5,6] [] (fT (con25 (live) (f) (by (with_reducible assumption))) (oA 2 (.tup [.sl (List.map c45 (effV live f).1),.i .i64 ((effV live f).2)]) z0))<|sn<|sq<|rG cx [4] [] (tT 2 (told_ies:AV.b ((effV live f).2 == (effV live f).2)=AV.b true) (fT (con27 ((effV live f).1) ((effV live f).1)) (oA 6 (.b (decide ((effV live f).1=(effV live f).1))) z0)))<|sn<|rT<|qR (.b (decide ((effV live f).1=(effV live f).1))) (.eq ?g3);rotate_left
 rotate_left
 revert h1 h2;rotate_left
 revert h3;rotate_left
 revert h3;rotate_left
 case g0=>exact ⟨⟨by decide,by decide⟩,fun r hr=>by cases hr⟩
 case g1 =>
  intro _ _
  rw [show effV [⟨⟨0,1⟩,⟨#[65]⟩,5⟩] ⟨[],⟨[],[]⟩,[]⟩=(oneE,0) from eff_one]
  rfl
 case g2 =>
  intro h
  rw [show effV [⟨⟨0,1⟩,⟨#[65]⟩,5⟩] ⟨[],⟨[],[]⟩,[]⟩=(oneE,0) from eff_one] at h
  rcases h with h | h | h
  ·exact absurd rfl h
  ·exact absurd rfl h
  ·exact absurd rfl h
 case g3 =>
  intro _
  simp
end Go.Proofs.YtaiepnaokhpmcaaGreat
