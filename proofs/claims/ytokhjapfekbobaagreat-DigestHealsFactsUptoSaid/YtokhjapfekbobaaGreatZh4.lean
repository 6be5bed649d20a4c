/- Kg: keep.Covers, Bars, Fold, Apply. Conditions: sizes. Ra: the document's past: dots, Has, Same, sorted. Conditions: sizes. Rb: the document's turns: sorted (by halves). Conditions: sizes. Rt: the document's turns, in plain words: a sweep over where runs begin and end. Conditions: none. Rd: the document's turns. Conditions: sizes. Re: the document's Mean. Conditions: sizes. Rf: the document's Form. Conditions: the runs are in form. Rg: the document's Norm, Of, IsNorm. Conditions: sizes. Rm: the document's combine, Minus, Join, Size, Empty. Conditions: sizes. Rn: the document's Compare, Next, Within. Conditions: sizes. Kr: records in the documents. Conditions: sizes. Pv: past.Meet, Within, Order; span.Within. Conditions: sizes. EZ: what has been drawn is never taken back: a call leaves the count of draws no smaller. Conditions: none. ET3: slices.SortFunc at a row whose cells lead on, by a comparing call that may lay blocks: the row comes into the one order. Conditions: the comparing is a total order of what the row holds. Ko: records put in order, each once, in plain words. Conditions: none. -/
import Derived.Below
import Derived.OwnWalk
import Derived.WalkKit
import Derived.KernelRfl
import Derived.Laws.MakeOwn
import Derived.Laws.OwnMore
import Derived.Laws.Slices
import Derived.Laws.CopyOwn
import Derived.Laws.AppendOwnNone
import Derived.Laws.Rows
import Derived.Orders
import Derived.Test.YtokhjapfekbobaaGreatProg
import Derived.DataReads
import Derived.ChangeOld
import Derived.DataElems
import Derived.SizedLaws
import Derived.ChangeKeysEq
import Derived.Sort.LotA
import Derived.Shelf.SlSortFuncK.RowK2
import Derived.Shelf.SlSortCmp.NoneTotal
import Derived.Lib.Walk
import Derived.Shelf.SlLaysE0
import Derived.Shelf.RegionOpenPlain
import Derived.Deep.LoopGhost
import Derived.Lib.SliceRun
import Derived.Lib.Bytealg
import Derived.Calls
import Derived.Test.YtokhjapfekbobaaGreatZh3
set_option linter.unusedVariables false
set_option linter.unusedSimpArgs false
set_option linter.unusedSectionVars false
namespace Go.Proofs.YtokhjapfekbobaaGreat
open Go.E
set_option maxRecDepth 100000
set_option maxHeartbeats 4000000
def B6m(rs:List Record)(e:Entry)(n i r m:Int)(s:ByteArray)(q:Int):Prop:=r=e.dot.rep∧m=e.dot.num∧s=e.sku∧q=e.qty∧0≤i∧i≤rs.length∧0≤n∧n≤i∧n=H4 (rs.take i.toNat) e
def decBr(rs:List Record)(n i r m:Int)(s:ByteArray)(q:Int):Nat:=(rs.length-i).toNat
def Bf0(rs:List Record)(i:Int)(all:Past)(out:List Record):Prop:=Y2 all out (rs.drop i.toNat)=Y2 ⟨[],[]⟩ [] rs
def Az8(rs:List Record)(i:Int)(v:List Int)(c:List Span)(out:List Record):Prop:=0≤i∧i≤rs.length∧(out.length:Int)≤i∧c.length≤8000000000∧Bf0 rs i ⟨v,c⟩ out∧(∀ r∈out,r.past=A3 r.past)
def decFo(rs:List Record)(i:Int)(v:List Int)(c:List Span)(out:List Record):Nat:=(rs.length-i).toNat
def B96(rs:List Record)(i j:Int)(ps:List Past):Prop:=ps=((rs.drop i.toNat).take (j-i).toNat).map (fun x=>x.past)∧∀ k:Nat,i≤k→(k:Int) < j→rs[k]!.sku=rs[i.toNat]!.sku
def Bf1(rs:List Record)(i:Int)(v0:List Int)(c0:List Span)(o0:List Record)(j:Int)(v:List Int)(c:List Span)(o:List Record)(ps:List Past):Prop:=v=v0∧c=c0∧o=o0∧i≤j∧j≤rs.length∧B96 rs i j ps
def decGr(rs:List Record)(j:Int)(v:List Int)(c:List Span)(o:List Record)(ps:List Past):Nat:=(rs.length-j).toNat
def B6n(es:List Entry)(bars:List Record)(i:Int)(out:List Entry):Prop:=0≤i∧i≤es.length∧(out.length:Int)≤i∧out=(es.take i.toNat).filter fun e=>decide (H4 bars e=0)
def decAp(es:List Entry)(i:Int)(out:List Entry):Nat:=(es.length-i).toNat
theorem As7{α:Type}[Inhabited α](p:α→Bool):∀(l:List α) (n:Nat),n≤l.length→(∀ k:Nat,k < n→p l[k]! = true)→(n < l.length→p l[n]! = false)→l.takeWhile p=l.take n∧l.dropWhile p=l.drop n
 | [],n,hn,_,_=>by simp
 | x :: l,0,_,_,h=>by
  have:=h (by simp)
  have hx:p x=false:=this
  simp [List.takeWhile_cons,List.dropWhile_cons,hx]
 | x :: l,n+1,hn,h,hx=>by
  have h0:p x=true:=h 0 (by omega)
  have ih:=As7 p l n (by simpa using hn) (fun k hk=>by have:=h (k+1) (by omega);simpa using this) (fun hl=>by have:=hx (by simpa using hl);simpa using this)
  simp [List.takeWhile_cons,List.dropWhile_cons,h0,ih.1,ih.2]
theorem Bf2{α:Type}[Inhabited α]{a:List α}{i:Int}(h0:0≤i)(h:i < a.length):a.drop i.toNat=a[i.toNat]! :: a.drop (i+1).toNat:=by
 rw[show(i+1).toNat=i.toNat+1 by omega,getElem!_pos a i.toNat (by omega)]
 exact List.drop_eq_getElem_cons (by omega)
theorem Ae2{α:Type}[Inhabited α]{a:List α}{i k:Nat}(h:i+k < a.length):(a.drop i)[k]! = a[i+k]!:=by
 rw[getElem!_pos (a.drop i) k (by rw[List.length_drop];omega),getElem!_pos a (i+k) h,List.getElem_drop]
theorem A2a{rs:List Record}{i j:Int}{ps:List Past}(h0:0≤i)(hi:i < rs.length)(hij:i≤j)(hj:j≤rs.length)(he:¬(j < rs.length∧rs[j.toNat]!.sku=rs[i.toNat]!.sku))(h:B96 rs i j ps) :
  i < j∧ps=(M0 rs[i.toNat]! (rs.drop (i+1).toNat)).map (fun x=>x.past)∧rs.drop j.toNat=A6c rs[i.toNat]! (rs.drop (i+1).toNat):=by
 have hlt:i < j:=by
  apply Classical.byContradiction
  intro k
  have:j=i:=by omega
  subst this
  exact he ⟨hi,rfl⟩
 have hw:=As7 (fun x:Record=>decide (x.sku=rs[i.toNat]!.sku)) (rs.drop i.toNat) (j-i).toNat (by rw[List.length_drop];omega) (fun k hk=>by
  rw[Ae2 (by omega),decide_eq_true_iff]
  exact h.2 (i.toNat+k) (by omega) (by omega)) (fun hl=>by
  rw[List.length_drop]at hl
  rw[Ae2 (by omega),decide_eq_false_iff_not,show i.toNat+(j-i).toNat=j.toNat by omega]
  exact fun k=>he ⟨by omega,k⟩)
 have e1:M0 rs[i.toNat]! (rs.drop (i+1).toNat)=(rs.drop i.toNat).takeWhile fun x=>decide (x.sku=rs[i.toNat]!.sku):=by
  rw[Bf2 h0 hi,List.takeWhile_cons]
  simp [M0]
 have e2:A6c rs[i.toNat]! (rs.drop (i+1).toNat)=(rs.drop i.toNat).dropWhile fun x=>decide (x.sku=rs[i.toNat]!.sku):=by
  rw[Bf2 h0 hi,List.dropWhile_cons]
  simp [A6c]
 refine⟨hlt,?_,?_⟩
 ·rw[e1,hw.1];exact h.1
 ·rw[e2,hw.2,List.drop_drop,show i.toNat+(j-i).toNat=j.toNat by omega]
theorem A8r{rs:List Record}{i j:Int}{ps:List Past}{all:Past}{out:List Record}(h0:0≤i)(hi:i < rs.length)(hij:i≤j)(hj:j≤rs.length)(he:¬(j < rs.length∧rs[j.toNat]!.sku=rs[i.toNat]!.sku))(h:B96 rs i j ps)(hf:Bf0 rs i all out) :
  Bf0 rs j (if rs[i.toNat]!.sku=noneS then C3 ps else all) (if B8 (if rs[i.toNat]!.sku=noneS then C3 ps else B1 (C3 ps) all)=0 then out else out++[⟨rs[i.toNat]!.sku,if rs[i.toNat]!.sku=noneS then C3 ps else B1 (C3 ps) all⟩]):=by
 obtain⟨_,e1,e2⟩:=A2a h0 hi hij hj he h
 unfold Bf0 at *
 rw[← hf,Bf2 h0 hi,A75,e2,e1]
 rfl
theorem A8s(a b:List Record):A2q (a++b)=A2q a+A2q b:=by simp [A2q]
theorem Bf3(a:List Record):a.length≤A2q a:=by
 induction a with
 | nil=>simp [A2q]
 | cons r a ih=>simp only [A2q,List.map_cons,List.sum_cons,List.length_cons]at *;omega
theorem B6o(l:List Record):A0l (l.map fun x=>x.past)=A2q l:=by simp [A0l,A2q,Function.comp_def]
theorem gr_tot{rs:List Record}{i j:Int}{ps:List Past}(h:B96 rs i j ps):A0l ps≤A2q rs:=by
 rw[h.1,B6o]
 have h1:=A8s (rs.take i.toNat) (rs.drop i.toNat)
 rw[List.take_append_drop]at h1
 have h2:=A8s ((rs.drop i.toNat).take (j-i).toNat) ((rs.drop i.toNat).drop (j-i).toNat)
 rw[List.take_append_drop]at h2
 omega
theorem B97{rs:List Record}{i j:Int}{ps:List Past}(h:B96 rs i j ps):(ps.length:Int)≤(j-i).toNat:=by
 rw[h.1,List.length_map,List.length_take]
 omega
theorem Bf4{rs:List Record}{i j:Int}{ps:List Past}(h0:0≤i)(hij:i≤j)(hj:j < rs.length)(hs:rs[j.toNat]!.sku=rs[i.toNat]!.sku)(h:B96 rs i j ps):B96 rs i (j+1) (ps++[rs[j.toNat]!.past]):=by
 refine⟨?_,fun k hk1 hk2=>?_⟩
 ·rw[h.1,show(j+1-i).toNat=(j-i).toNat+1 by omega,List.take_succ_eq_append_getElem (by rw[List.length_drop];omega),List.map_append]
  congr 1
  have hjn:i.toNat+(j-i).toNat < rs.length:=by omega
  have:(rs.drop i.toNat)[(j-i).toNat]'(by rw[List.length_drop];omega)=rs[j.toNat]!:=by
   rw[List.getElem_drop,getElem!_pos rs j.toNat (by omega)]
   congr 1
   omega
  simp only [List.map_cons,List.map_nil,this]
 ·by_cases e:k=j.toNat
  ·rw[e];exact hs
  ·exact h.2 k hk1 (by omega)
theorem R7{p:Past}(h:p=A3 p):p.cloud.length≤8000000000:=by
 rw[h]
 exact(P9 _).1
theorem A8t(ps:List Past):(C3 ps).cloud.length≤8000000000:=(P9 _).1
theorem B6p(a b:Past):(B1 a b).cloud.length≤8000000000:=(P9 fun r=>A0v (A7 [a] r) (A7 [b] r)).1
theorem B98{rs:List Record}{i:Int}{all:Past}{out:List Record}(hi:¬ i < rs.length)(h:Bf0 rs i all out):out=Y2 ⟨[],[]⟩ [] rs:=by
 unfold Bf0 at h
 rw[List.drop_of_length_le (by omega),A5a]at h
 exact h
theorem As8{out:List Record}{b:Go.E.Blk}{n m:Nat}(hb:b.k=.row m (out.map c83))(h:0 <(out.length:Int))(hn:n=0):Go.E.rowAt b n (c83 out[0]!):=by
 unfold Go.E.rowAt
 rw[hb,hn]
 cases out with
 | nil=>simp at h
 | cons x l=>rfl
theorem B31{es:List Entry}{B:List Record}{i:Int}{o:List Entry}(h0:0≤i)(hi:i < es.length)(ho:o=(es.take i.toNat).filter fun e=>decide (H4 B e=0)) :
  (es.take (i+1).toNat).filter (fun e=>decide (H4 B e=0))=o++if H4 B es[i.toNat]! = 0 then[es[i.toNat]!]else[]:=by
 rw[← D4 h0 hi,List.filter_append,ho]
 congr 1
 generalize es[i.toNat]! = x
 split
 ·rename_i h;simp [List.filter_cons,h]
 ·rename_i h;simp [List.filter_cons,h]
theorem Bf5(es:List Entry)(rs:List Record):es.filter (fun e=>decide (H4 (Y2 ⟨[],[]⟩ [] rs) e=0))=es.filter fun e=>decide (H4 rs e=0) :=
 List.filter_congr fun e _=>decide_eq_decide.2 (B30 rs e)
theorem Bf6(r:Record)(hb:szR r):Con Tryz.prog 96 [.agg (c83 r)] (.agg (c83 ⟨r.sku,A3 r.past⟩)) :=
 by
 refine sC A9 [.cell 2 83] 9 Tryz.func96 ?_
 intro e0 cx
 refine sq<|rG cx [1,2] [1,2] z0<|sn<|sq<|rA cx [2] [2] (fT (B61 (r.past) ?g0) (oA 4 (.agg [.sl (List.map c3 (A3 r.past).vec),.sl (List.map B3 (A3 r.past).cloud)]) z0)) ?_;rotate_left
 refine sn<|rT<|qR (.agg [.s (r.sku),.sl (List.map c3 (A3 r.past).vec),.sl (List.map B3 (A3 r.past).cloud)]) (.eq ?g1);rotate_left
 case g0=>exact hb
 case g1=>exact rfl
theorem con156(r:Record)(e:Entry):Con Tryz.prog 156 [.agg (c83 r),.agg (c67 e)] (.b (A58 r e)) :=
 by
 refine sC A9 [.tmp 4] 22 Tryz.func156 ?_
 intro e0 cx
 refine sq<|rG cx [2,3] [2,3] z0<|sn<|sq<|B4 (σ':=⟨[(4,.b (decide (r.sku={ data:=#[]:ByteArray }∧C8 r.past e.dot=true∨¬r.sku={ data:=#[]:ByteArray }∧r.sku=e.sku∧C8 r.past e.dot=true)))],[]⟩) ?_ ?_
 refine A4 (r.sku={ data:=#[]:ByteArray }) (fun h_1=>?_) (fun h_1=>?_)
 refine rG cx [4] [] (tT 2 (Z7 h_1:AV.b (r.sku.toList == { data:=#[]:ByteArray }.toList)=AV.b true) (fT (Bc8 (r.past) (e.dot)) (tD 17 (C8 r.past e.dot) (r.sku={ data:=#[]:ByteArray }∧C8 r.past e.dot=true∨¬r.sku={ data:=#[]:ByteArray }∧r.sku=e.sku∧C8 r.past e.dot=true) (by simp only [eq_true h_1,tsl]) (oA 15 (.b (C8 r.past e.dot)) z0)))) ?_
 exact⟨rfl,by kernel_rfl⟩
 refine A4 (r.sku=e.sku) (fun h_2=>?_) (fun h_2=>?_)
 refine rG cx [4] [] (tT 2 (Q7 h_1:AV.b (r.sku.toList == { data:=#[]:ByteArray }.toList)=AV.b false) (tT 8 (Z7 h_2:AV.b (r.sku.toList == e.sku.toList)=AV.b true) (fT (Bc8 (r.past) (e.dot)) (tD 17 (C8 r.past e.dot) (r.sku={ data:=#[]:ByteArray }∧C8 r.past e.dot=true∨¬r.sku={ data:=#[]:ByteArray }∧r.sku=e.sku∧C8 r.past e.dot=true) (by simp only [eq_false h_1,eq_true h_2,tsl]) (oA 15 (.b (C8 r.past e.dot)) z0))))) ?_
 exact⟨rfl,by kernel_rfl⟩
 refine rG cx [4] [] (tT 2 (Q7 h_1:AV.b (r.sku.toList == { data:=#[]:ByteArray }.toList)=AV.b false) (tT 8 (Q7 h_2:AV.b (r.sku.toList == e.sku.toList)=AV.b false) (tD 17 false (r.sku={ data:=#[]:ByteArray }∧C8 r.past e.dot=true∨¬r.sku={ data:=#[]:ByteArray }∧r.sku=e.sku∧C8 r.past e.dot=true) (by simp only [eq_false h_1,eq_false h_2,tsl]) z0))) ?_
 exact⟨rfl,by kernel_rfl⟩
 refine sn<|rT<|qR (.b (decide (r.sku={ data:=#[]:ByteArray }∧C8 r.past e.dot=true∨¬r.sku={ data:=#[]:ByteArray }∧r.sku=e.sku∧C8 r.past e.dot=true))) (.eq ?g0);rotate_left
 case g0 =>
  refine congrArg AV.b ?_
  rw[Bool.eq_iff_iff,A1f,decide_eq_true_iff]
  show(r.sku=noneS∧_∨¬ r.sku=noneS∧_)↔_
  by_cases c:r.sku=noneS <;> simp [c]
theorem con113(rs:List Record)(e:Entry):Con Tryz.prog 113 [.sl (rs.map c83),.agg (c67 e)] (.i .i64 (H4 rs e)) :=
 by
 have st:∀ {i:Int},0≤i→i < rs.length→H4 (rs.take (i+1).toNat) e=H4 (rs.take i.toNat) e+if A58 rs[i.toNat]! e=true then 1 else 0:=by
  intro i h0 h1
  unfold H4
  rw[← D4 h0 h1,List.filter_append,List.length_append]
  generalize rs[i.toNat]! = x
  split
  ·rename_i h;simp [List.filter_cons,h]
  ·rename_i h;simp [List.filter_cons,h]
 refine lN 0 c83 (rs) Tryz.func113 fun hl_0=>sC A9 [.tmp 4] 21 Tryz.func113 ?_
 intro e0 cx
 refine sq<|rG cx [0,3] [3] z0<|sn<|sq<|rG cx [0,3,5] [3] z0<|sn<|sq<|sq<|rG cx [3,5,8,9,10] [3] (tL 1 c83 rs z0)<|sn<|bL 0<|sL (X:=Int×Int×Int×Int×ByteArray×Int) (fun x=>⟨[(3,.ptr (3) (0) (0) (0)),(5,.i .i64 (x.1)),(8,.sl (List.map c83 rs)),(9,.i .i64 ((↑rs.length:Int))),(10,.i .i64 (x.2.1))],[(3,⟨0,67,.var [.i .i64 (x.2.2.1),.i .i64 (x.2.2.2.1),.s (x.2.2.2.2.1),.i .i64 (x.2.2.2.2.2)]⟩)]⟩) (fun x ↦ decBr rs x.1 x.2.1 x.2.2.1 x.2.2.2.1 x.2.2.2.2.1 x.2.2.2.2.2) (fun x ↦ B6m rs e x.1 x.2.1 x.2.2.1 x.2.2.2.1 x.2.2.2.2.1 x.2.2.2.2.2) [3,5,8,9,10] [3] (((0:Int),(0:Int),e.dot.rep,e.dot.num,e.sku,e.qty)) (show B6m rs e (0:Int) (0:Int) e.dot.rep e.dot.num e.sku e.qty from(by exact⟨rfl,rfl,rfl,rfl,by omega,by omega,by omega,by omega,by simp [H4]⟩)) ?_
 rintro⟨n0,i1,r2,m3,s4,q5⟩ h_6
 obtain⟨hh7,hh8,hh9,hh10,h11,h12,h13,h14,h15⟩:r2=e.dot.rep∧m3=e.dot.num∧s4=e.sku∧q5=e.qty∧0≤i1∧i1≤(↑rs.length:Int)∧0≤n0∧n0≤i1∧n0=H4 (List.take i1.toNat rs) e:=h_6
 refine rE cx [3,5,8,9,10,11] [3] (zB 0 (i1 <(↑rs.length:Int))) (fun h16=>?_) fun h16=>?_
 refine sK<|sn<|sq<|bL 1<|sq<|rG cx [3,5,8,9,10,7] [3,7] (fA (0≤i1) (fG c83 rs i1.toNat (fR 3 (fN 3 3 (oR 0 (c83 rs[i1.toNat]!) z0)))))<|sn<|sq<|rG cx [3,5,8,9,10,16] [3] (fT (con156 (rs[i1.toNat]!) ({ dot:={ rep:=r2,num:=m3:Dot },sku:=s4,qty:=q5:Entry })) (oA 2 (.b (A58 rs[i1.toNat]! { dot:={ rep:=r2,num:=m3:Dot },sku:=s4,qty:=q5:Entry })) z0))<|sn<|A4i (A58 rs[i1.toNat]! { dot:={ rep:=r2,num:=m3:Dot },sku:=s4,qty:=q5:Entry }) (by kernel_rfl) (by kernel_rfl) (fun h17=>?_) (fun h17=>?_)
 refine rG cx [3,5,8,9,10] [3] (tW 1 (n0+1) z0)<|bN<|sn<|rG cx [3,5,8,9,10] [3] (tW 0 (i1+1) z0)<|sn<|nX ((n0+1,i1+1,r2,m3,s4,q5)) (show((↑rs.length:Int)-(i1+1)).toNat <((↑rs.length:Int)-i1).toNat from(by omega)) (show B6m rs e (n0+1) (i1+1) r2 m3 s4 q5 from ?g1);rotate_left
 refine sK<|bN<|sn<|rG cx [3,5,8,9,10] [3] (tW 0 (i1+1) z0)<|sn<|nX ((n0,i1+1,r2,m3,s4,q5)) (show((↑rs.length:Int)-(i1+1)).toNat <((↑rs.length:Int)-i1).toNat from(by omega)) (show B6m rs e n0 (i1+1) r2 m3 s4 q5 from ?g2);rotate_left
 refine eX 0<|nE<|nE<|bH<|sn<|sq<|rG cx [4] [] z0<|sn<|rT<|qR (.i .i64 (n0)) (.eq (by rw[h15,List.take_of_length_le (by omega)]))
 case g1 =>
  subst hh7 hh8 hh9 hh10
  refine⟨rfl,rfl,rfl,rfl,by omega,by omega,by omega,by omega,?_⟩
  rw[st h11 h16,if_pos h17,h15]
 case g2 =>
  subst hh7 hh8 hh9 hh10
  refine⟨rfl,rfl,rfl,rfl,by omega,by omega,by omega,by omega,?_⟩
  have h17:A58 rs[i1.toNat]! e=false:=h17
  rw[st h11 h16,if_neg (by rw[h17];simp),h15]
  omega
theorem con112(rs:List Record)(hb:B0o rs)(ht:tokR rs):Con Tryz.prog 112 [.sl (rs.map c83)] (.tup [.sl ((R6 rs).1.map c83),.i .i64 (R6 rs).2]) :=
 by
 have hl:=Bf3 rs
 have ht1:=ht.1
 have ht2:=ht.2
 refine lN 0 c83 (rs) Tryz.func112 fun hl_0=>sC A9 [.tmp 2,.tmp 3] 89 Tryz.func112 ?_
 intro e0 cx
 refine sq<|rG cx [0] [] z0<|sn<|sq<|sq<|rG cx [0,12] [] (fT (Ad7 (rs) (by(with_reducible assumption))) (tN 2 (E2 rs) (0:Int) (oA 1 (.i .i64 (E2 rs)) z0)))<|sn<|dC (¬E2 rs=0) (fun hh0=>?_) fun hh0=>?_
 refine sq<|rG cx [2,3] [] z0<|sn<|rT<|nR<|qR (.tup [.nl,.i .i64 ((1:Int))]) (C1.tup (ZLe.cons (C1.nl' (show List.map c83 (R6 rs).1=[]from(by unfold R6;rw[if_neg hh0];rfl))) (ZLe.cons (C1.eq (show AV.i .i64 1=AV.i .i64 (R6 rs).2 from(by unfold R6;rw[if_neg hh0]))) ZLe.nil)))
 refine sK<|sn<|sq<|rG cx [0,4] [4] z0<|sn<|sq<|rG cx [0,4,5] [4] z0<|sn<|sq<|sq<|rG cx [0,4,5,6] [4] z0<|sn<|bL 0<|G3 5 1005 83 3 (σ':=⟨[(0,.sl (List.map c83 rs)),(4,.ptr (4) (0) (0) (0)),(5,.own 1005 0),(6,.i .i64 ((0:Int)))],[(4,⟨0,26,.var [.nl,.nl]⟩),(1005,⟨0,83,.row 3 (List.map c83 [])⟩)]⟩) (by kernel_rfl)<|Aq0 4 0 (σ':=⟨[(0,.sl (List.map c83 rs)),(4,.ptr (4) (0) (0) (0)),(5,.own 1005 0),(6,.i .i64 ((0:Int)))],[(4,⟨0,26,.var [.sl (List.map c3 []),.nl]⟩),(1005,⟨0,83,.row 3 (List.map c83 [])⟩)]⟩) (by kernel_rfl)<|Aq0 4 1 (σ':=⟨[(0,.sl (List.map c83 rs)),(4,.ptr (4) (0) (0) (0)),(5,.own 1005 0),(6,.i .i64 ((0:Int)))],[(4,⟨0,26,.var [.sl (List.map c3 []),.sl (List.map B3 [])]⟩),(1005,⟨0,83,.row 3 (List.map c83 [])⟩)]⟩) (by kernel_rfl)<|sL (X:=Int×List Int×List Span×List Record) (fun x=>⟨[(0,.sl (List.map c83 rs)),(4,.ptr (4) (0) (0) (0)),(5,.own 1005 0),(6,.i .i64 (x.1))],[(4,⟨0,26,.var [.sl (List.map c3 x.2.1),.sl (List.map B3 x.2.2.1)]⟩),(1005,⟨0,83,.row 3 (List.map c83 x.2.2.2)⟩)]⟩) (fun x ↦ decFo rs x.1 x.2.1 x.2.2.1 x.2.2.2) (fun x ↦ Az8 rs x.1 x.2.1 x.2.2.1 x.2.2.2) [0,4,5,6] [4,1005] (((0:Int),[],[],[])) (show Az8 rs (0:Int) [] [] []from(by exact⟨by omega,by omega,by simp,by simp,rfl,fun r hr=>by cases hr⟩)) ?_
 rintro⟨i1,v2,cc3,o4⟩ h_5
 obtain⟨hh6,hh7,h8,h9,h10,h11⟩:0≤i1∧i1≤(↑rs.length:Int)∧(↑o4.length:Int)≤i1∧cc3.length≤(8000000000:Nat)∧Bf0 rs i1 { vec:=v2,cloud:=cc3:Past } o4∧∀(r:Record),r∈o4→r.past=A3 r.past:=h_5
 refine sq<|rD cx [0,4,5,6,16] [4,1005] (tL 2 c83 rs (zB 3 (i1 <(↑rs.length:Int)))) (fun h12=>?_) fun h12=>?_
 refine sK<|sn<|bL 1<|sq<|rG cx [0,4,5,6,7] [4,1005] z0<|sn<|sq<|rG cx [0,4,5,6,7,8] [4,1005] z0<|sn<|sq<|bL 2<|G3 8 1008 26 2 (σ':=⟨[(0,.sl (List.map c83 rs)),(4,.ptr (4) (0) (0) (0)),(5,.own 1005 0),(6,.i .i64 (i1)),(7,.i .i64 (i1)),(8,.own 1008 0)],[(4,⟨0,26,.var [.sl (List.map c3 v2),.sl (List.map B3 cc3)]⟩),(1005,⟨0,83,.row 3 (List.map c83 o4)⟩),(1008,⟨0,26,.row 2 (List.map c26 [])⟩)]⟩) (by kernel_rfl)<|sL (X:=Int×List Int×List Span×List Record×List Past) (fun x=>⟨[(0,.sl (List.map c83 rs)),(4,.ptr (4) (0) (0) (0)),(5,.own 1005 0),(6,.i .i64 (i1)),(7,.i .i64 (x.1)),(8,.own 1008 0)],[(4,⟨0,26,.var [.sl (List.map c3 x.2.1),.sl (List.map B3 x.2.2.1)]⟩),(1005,⟨0,83,.row 3 (List.map c83 x.2.2.2.1)⟩),(1008,⟨0,26,.row 2 (List.map c26 x.2.2.2.2)⟩)]⟩) (fun x ↦ decGr rs x.1 x.2.1 x.2.2.1 x.2.2.2.1 x.2.2.2.2) (fun x ↦ Bf1 rs i1 v2 cc3 o4 x.1 x.2.1 x.2.2.1 x.2.2.2.1 x.2.2.2.2) [0,4,5,6,7,8] [4,1005,1008] ((i1,v2,cc3,o4,[])) (show Bf1 rs i1 v2 cc3 o4 i1 v2 cc3 o4 []from(by exact⟨rfl,rfl,rfl,by omega,by omega,by simp,fun k hk1 hk2=>by omega⟩)) ?_
 rintro⟨j13,v14,c15,o16,p17⟩ h_18
 obtain⟨h19,h20,h21,h22,h23,h24⟩:v14=v2∧c15=cc3∧o16=o4∧i1≤j13∧j13≤(↑rs.length:Int)∧B96 rs i1 j13 p17:=h_18
 refine sq<|sq<|B4 (σ':=⟨[(0,.sl (List.map c83 rs)),(4,.ptr (4) (0) (0) (0)),(5,.own 1005 0),(6,.i .i64 (i1)),(7,.i .i64 (j13)),(8,.own 1008 0),(34,.b (decide (j13 <(↑rs.length:Int)∧rs[j13.toNat]!.sku=rs[i1.toNat]!.sku)))],[(4,⟨0,26,.var [.sl (List.map c3 v14),.sl (List.map B3 c15)]⟩),(1005,⟨0,83,.row 3 (List.map c83 o16)⟩),(1008,⟨0,26,.row 2 (List.map c26 p17)⟩)]⟩) ?_ ?_
 refine A4 (j13 <(↑rs.length:Int)) (fun h_26=>?_) (fun h_26=>?_)
 refine rA cx [0,4,5,6,7,8,34] [4,1005,1008] (tL 2 c83 rs (tT 3 (A6 h_26) (fO (0≤j13) (fG c83 rs j13.toNat (fR 3 (fA (0≤i1) (fG c83 rs i1.toNat (fR 3 (tT 15 (A3x:AV.b (rs[j13.toNat]!.sku.toList == rs[i1.toNat]!.sku.toList)=AV.b (decide (rs[j13.toNat]!.sku=rs[i1.toNat]!.sku))) (tD 16 (decide (rs[j13.toNat]!.sku=rs[i1.toNat]!.sku)) (j13 <(↑rs.length:Int)∧rs[j13.toNat]!.sku=rs[i1.toNat]!.sku) (by simp only [eq_true h_26,tsl]) (oR 7 (c83 rs[j13.toNat]!) (oR 12 (c83 rs[i1.toNat]!) z0)))))))))))) ?_
 exact⟨rfl,by kernel_rfl⟩
 refine rA cx [0,4,5,6,7,8,34] [4,1005,1008] (tL 2 c83 rs (tT 3 (A0 h_26) (tD 16 false (j13 <(↑rs.length:Int)∧rs[j13.toNat]!.sku=rs[i1.toNat]!.sku) (by simp only [eq_false h_26,tsl]) z0))) ?_
 exact⟨rfl,by kernel_rfl⟩
 refine sn<|dC (j13 <(↑rs.length:Int)∧rs[j13.toNat]!.sku=rs[i1.toNat]!.sku) (fun h27=>?_) fun h27=>?_
 refine sK<|sn<|bL 3<|sq<|rG cx [0,4,5,6,7,8] [4,1005,1008] (fO (0≤j13) (fG c83 rs j13.toNat (fR 3 (fN 2 2 (fR 26 (fR 2 (fR 2 (fX c26 [rs[j13.toNat]!.past] 2 (fP ((List.map c26 p17).length+(List.map c26 [rs[j13.toNat]!.past]).length≤maxLen) (by have:=B97 h24;simp only [List.length_map,List.length_cons,List.length_nil,Go.maxLen];omega) (fP (((List.map c26 p17).length+(List.map c26 [rs[j13.toNat]!.past]).length)*(48:Nat)≤(140737488355328:Nat)) (by have:=B97 h24;simp only [List.length_map,List.length_cons,List.length_nil];omega) (fM c26 p17 [rs[j13.toNat]!.past] (oR 3 (c83 rs[j13.toNat]!) (oV 7 { rows:=some (List.map c26 (p17++[rs[j13.toNat]!.past])) } z0))))))))))))) ?_
 refine sn<|rG cx [0,4,5,6,7,8] [4,1005,1008] (tW 1 (j13+1) z0)<|bN<|sn<|nX ((j13+1,v14,c15,o16,p17++[rs[j13.toNat]!.past])) (show((↑rs.length:Int)-(j13+1)).toNat <((↑rs.length:Int)-j13).toNat from(by omega)) (show Bf1 rs i1 v2 cc3 o4 (j13+1) v14 c15 o16 (p17++[rs[j13.toNat]!.past])from(by exact⟨h19,h20,h21,by omega,by omega,Bf4 hh6 h22 h27.1 h27.2 h24⟩))
 refine eX 2<|nE<|nE<|bH<|sn<|sq<|rA cx [0,4,5,7,9] [4,1005,9] (fA (0≤i1) (fG c83 rs i1.toNat (fR 3 (fT (B6l (p17) (by have:=gr_tot h24;omega)) (oR 2 (c83 rs[i1.toNat]!) (oA 6 (.agg [.sl (List.map c3 (C3 p17).vec),.sl (List.map B3 (C3 p17).cloud)]) z0)))))) ?_
 refine sn<|sq<|sq<|rG cx [0,4,5,7,9,55] [4,1005,9] (tT 2 (A3x:AV.b (rs[i1.toNat]!.sku.toList == { data:=#[]:ByteArray }.toList)=AV.b (decide (rs[i1.toNat]!.sku={ data:=#[]:ByteArray }))) z0)<|sn<|dC (rs[i1.toNat]!.sku={ data:=#[]:ByteArray }) (fun h28=>?_) fun h28=>?_
 refine rG cx [0,4,5,7,9] [4,1005,9] z0<|sn<|sq<|sq<|rG cx [0,4,5,7,9,66] [4,1005,9] (fT (B6d (C3 p17) (by have:=A8t p17;omega)) (tQ 3 (B8 (C3 p17)=0) (oA 2 (.b (decide (B8 (C3 p17)=0))) z0))) ?_
 refine sn<|dC (¬B8 (C3 p17)=0) (fun h29=>?_) fun h29=>?_
 refine rG cx [0,4,5,7] [4,1005] (fR 83 (fR 3 (fR 3 (fX c83 [{ sku:=rs[i1.toNat]!.sku,past:=C3 p17:Record }] 3 (fP ((List.map c83 o16).length+(List.map c83 [{ sku:=rs[i1.toNat]!.sku,past:=C3 p17:Record }]).length≤maxLen) (by subst h21;simp only [List.length_map,List.length_cons,List.length_nil,Go.maxLen];omega) (fP (((List.map c83 o16).length+(List.map c83 [{ sku:=rs[i1.toNat]!.sku,past:=C3 p17:Record }]).length)*(64:Nat)≤(140737488355328:Nat)) (by subst h21;simp only [List.length_map,List.length_cons,List.length_nil];omega) (fM c83 o16 [{ sku:=rs[i1.toNat]!.sku,past:=C3 p17:Record }] (oV 3 { rows:=some (List.map c83 (o16++[{ sku:=rs[i1.toNat]!.sku,past:=C3 p17:Record }])) } z0)))))))) ?_
 refine sn<|rG cx [0,4,5,6] [4,1005] z0<|bN<|sn<|nX ((j13,(C3 p17).vec,(C3 p17).cloud,o16++[{ sku:=rs[i1.toNat]!.sku,past:=C3 p17:Record }])) (show((↑rs.length:Int)-j13).toNat <((↑rs.length:Int)-i1).toNat from(by have:=(A2a hh6 h12 h22 h23 h27 h24).1;omega)) (show Az8 rs j13 (C3 p17).vec (C3 p17).cloud (o16++[{ sku:=rs[i1.toNat]!.sku,past:=C3 p17:Record }])from ?g12);rotate_left
 refine sK<|sn<|rG cx [0,4,5,6] [4,1005] z0<|bN<|sn<|nX ((j13,(C3 p17).vec,(C3 p17).cloud,o16)) (show((↑rs.length:Int)-j13).toNat <((↑rs.length:Int)-i1).toNat from(by have:=(A2a hh6 h12 h22 h23 h27 h24).1;omega)) (show Az8 rs j13 (C3 p17).vec (C3 p17).cloud o16 from ?g14);rotate_left
 refine rG cx [0,4,5,7,9] [4,1005,9] (fT (Be9 (C3 p17) ({ vec:=v14,cloud:=c15:Past }) (by have:=A8t p17;omega) (by subst h20;simp only;omega)) (oA 3 (.agg [.sl (List.map c3 (B1 (C3 p17) { vec:=v14,cloud:=c15:Past }).vec),.sl (List.map B3 (B1 (C3 p17) { vec:=v14,cloud:=c15:Past }).cloud)]) z0)) ?_
 refine sn<|sq<|sq<|rG cx [0,4,5,7,9,66] [4,1005,9] (fT (B6d (B1 (C3 p17) { vec:=v14,cloud:=c15:Past }) (by have:=B6p (C3 p17) ⟨v14,c15⟩;omega)) (tQ 3 (B8 (B1 (C3 p17) { vec:=v14,cloud:=c15:Past })=0) (oA 2 (.b (decide (B8 (B1 (C3 p17) { vec:=v14,cloud:=c15:Past })=0))) z0))) ?_
 refine sn<|dC (¬B8 (B1 (C3 p17) { vec:=v14,cloud:=c15:Past })=0) (fun h30=>?_) fun h30=>?_
 refine rG cx [0,4,5,7] [4,1005] (fR 83 (fR 3 (fR 3 (fX c83 [{ sku:=rs[i1.toNat]!.sku,past:=B1 (C3 p17) { vec:=v14,cloud:=c15:Past }:Record }] 3 (fP ((List.map c83 o16).length+(List.map c83 [{ sku:=rs[i1.toNat]!.sku,past:=B1 (C3 p17) { vec:=v14,cloud:=c15:Past }:Record }]).length≤maxLen) (by subst h21;simp only [List.length_map,List.length_cons,List.length_nil,Go.maxLen];omega) (fP (((List.map c83 o16).length+(List.map c83 [{ sku:=rs[i1.toNat]!.sku,past:=B1 (C3 p17) { vec:=v14,cloud:=c15:Past }:Record }]).length)*(64:Nat)≤(140737488355328:Nat)) (by subst h21;simp only [List.length_map,List.length_cons,List.length_nil];omega) (fM c83 o16 [{ sku:=rs[i1.toNat]!.sku,past:=B1 (C3 p17) { vec:=v14,cloud:=c15:Past }:Record }] (oV 3 { rows:=some (List.map c83 (o16++[{ sku:=rs[i1.toNat]!.sku,past:=B1 (C3 p17) { vec:=v14,cloud:=c15:Past }:Record }])) } z0)))))))) ?_
 refine sn<|rG cx [0,4,5,6] [4,1005] z0<|bN<|sn<|nX ((j13,v14,c15,o16++[{ sku:=rs[i1.toNat]!.sku,past:=B1 (C3 p17) { vec:=v14,cloud:=c15:Past }:Record }])) (show((↑rs.length:Int)-j13).toNat <((↑rs.length:Int)-i1).toNat from(by have:=(A2a hh6 h12 h22 h23 h27 h24).1;omega)) (show Az8 rs j13 v14 c15 (o16++[{ sku:=rs[i1.toNat]!.sku,past:=B1 (C3 p17) { vec:=v14,cloud:=c15:Past }:Record }])from ?g21);rotate_left
 refine sK<|sn<|rG cx [0,4,5,6] [4,1005] z0<|bN<|sn<|nX ((j13,v14,c15,o16)) (show((↑rs.length:Int)-j13).toNat <((↑rs.length:Int)-i1).toNat from(by have:=(A2a hh6 h12 h22 h23 h27 h24).1;omega)) (show Az8 rs j13 v14 c15 o16 from ?g23);rotate_left
 refine eX 0<|nE<|nE<|bH<|sn<|sq<|sq<|B4 (σ':=⟨[(5,.own 1005 0),(81,.b (decide ((0:Int) <(↑o4.length:Int)∧o4[0]!.sku={ data:=#[]:ByteArray })))],[(1005,⟨0,83,.row 3 (List.map c83 o4)⟩)]⟩) ?_ ?_
 refine A4 ((0:Int) <(↑o4.length:Int)) (fun h32=>?_) (fun h32=>?_)
 refine rG cx [5,81] [1005] (tL 1 c83 o4 (tT 2 (A6 h32) (fO ((0:Int)≤(0:Int)) (fP (Int.toNat (0:Int) <(List.map c83 o4).length) (by(first | omega | (simp only [List.length_map];omega))) (fR 3 (fP (E.rowAt { ver:=0,ty:=83,k:=BK.row (3) (List.map c83 o4):Blk } (0) (c83 o4[0]!)) (by exact As8 rfl h32 rfl) (tT 8 (A3x:AV.b (o4[0]!.sku.toList == { data:=#[]:ByteArray }.toList)=AV.b (decide (o4[0]!.sku={ data:=#[]:ByteArray }))) (tD 9 (decide (o4[0]!.sku={ data:=#[]:ByteArray })) ((0:Int) <(↑o4.length:Int)∧o4[0]!.sku={ data:=#[]:ByteArray }) (by simp only [eq_true h32,tsl]) (oR 7 (c83 o4[0]!) z0))))))))) ?_
 exact⟨rfl,by kernel_rfl⟩
 refine rG cx [5,81] [1005] (tL 1 c83 o4 (tT 2 (A0 h32) (tD 9 false ((0:Int) <(↑o4.length:Int)∧o4[0]!.sku={ data:=#[]:ByteArray }) (by simp only [eq_false h32,tsl]) z0))) ?_
 exact⟨rfl,by kernel_rfl⟩
 refine sn<|dC ((0:Int) <(↑o4.length:Int)∧o4[0]!.sku={ data:=#[]:ByteArray }) (fun h33=>?_) fun h33=>?_
 refine rG cx [5] [1005] (fO ((0:Int)≤(0:Int)) (fP (Int.toNat (0:Int) <(List.map c83 o4).length) (by(first | omega | (simp only [List.length_map];omega))) (fR 3 (fP (E.rowAt { ver:=0,ty:=83,k:=BK.row (3) (List.map c83 o4):Blk } (0) (c83 o4[0]!)) (by exact As8 rfl h33.1 rfl) (fP (0+(3:Nat)≤(c83 o4[0]!).length) (by exact Nat.le_refl 3) (fT (Bf6 (o4[0]!) ?g27) (fO ((0:Int)≤(0:Int)) (fP (Int.toNat (0:Int) <(List.map c83 o4).length) (by(first | omega | (simp only [List.length_map];omega))) (fR 3 (fP ((List.map c83 o4)[0]?=some (c83 o4[0]!)) (by((try simp only [Nat.mul_one,Nat.add_zero,Nat.zero_add]);with_reducible refine H6 ?_;omega)) (fR 3 (fP (0+(3:Nat)≤3) (by(first | omega | (simp only [List.length_map];omega))) (fP ((List.map c83 o4).set (0) (List.take (0) (c83 o4[0]!)++D1 (AV.agg [AV.s { sku:=o4[0]!.sku,past:=A3 o4[0]!.past:Record }.sku,AV.sl (List.map c3 { sku:=o4[0]!.sku,past:=A3 o4[0]!.past:Record }.past.vec),AV.sl (List.map B3 { sku:=o4[0]!.sku,past:=A3 o4[0]!.past:Record }.past.cloud)])++List.drop (0+(3:Nat)) (c83 o4[0]!))=List.map c83 (o4.set (0) { sku:=o4[0]!.sku,past:=A3 o4[0]!.past:Record })) (by(with_reducible refine A2u ?_;kernel_rfl)) (oR 3 (c83 o4[0]!) (oA 4 (.agg [.s ({ sku:=o4[0]!.sku,past:=A3 o4[0]!.past:Record }.sku),.sl (List.map c3 { sku:=o4[0]!.sku,past:=A3 o4[0]!.past:Record }.past.vec),.sl (List.map B3 { sku:=o4[0]!.sku,past:=A3 o4[0]!.past:Record }.past.cloud)]) (oV 6 { row:=(c83 o4[0]!),rows:=some (List.map c83 (o4.set (0) { sku:=o4[0]!.sku,past:=A3 o4[0]!.past:Record })) } z0)))))))))))))))) ?_;rotate_left
 refine sn<|sq<|rG cx [2,3] [1005] z0<|sn<|rT<|qR (.tup [.sl (List.map c83 (o4.set (0) { sku:=o4[0]!.sku,past:=A3 o4[0]!.past:Record })),.i .i64 ((0:Int))]) (C1.tup (ZLe.cons (C1.eq (show AV.sl (List.map c83 (o4.set (0) { sku:=o4[0]!.sku,past:=A3 o4[0]!.past:Record }))=AV.sl (List.map c83 (R6 rs).1)from ?g29)) (ZLe.cons (C1.eq (show AV.i .i64 0=AV.i .i64 (R6 rs).2 from(by unfold R6;rw[if_pos (Classical.not_not.1 hh0)]))) ZLe.nil)));rotate_left
 refine sK<|sn<|sq<|rG cx [2,3] [1005] z0<|sn<|rT<|qR (.tup [.sl (List.map c83 o4),.i .i64 ((0:Int))]) (C1.tup (ZLe.cons (C1.eq (show AV.sl (List.map c83 o4)=AV.sl (List.map c83 (R6 rs).1)from ?g31)) (ZLe.cons (C1.eq (show AV.i .i64 0=AV.i .i64 (R6 rs).2 from(by unfold R6;rw[if_pos (Classical.not_not.1 hh0)]))) ZLe.nil)));rotate_left
 case g12 =>
  have k4':rs[i1.toNat]!.sku=noneS:=h28
  have g:=A8r hh6 h12 h22 h23 h27 h24 h10
  have g2:=(A2a hh6 h12 h22 h23 h27 h24).1
  rw[if_pos k4',if_neg (by rw[if_pos k4'];exact h29),if_pos k4']at g
  subst h21
  refine⟨by omega,by omega,by rw[List.length_append,List.length_singleton];omega,A8t p17,g,fun r hr=>?_⟩
  rcases List.mem_append.1 hr with hr | hr
  ·exact h11 r hr
  ·have:r=⟨rs[i1.toNat]!.sku,C3 p17⟩:=by simpa using hr
   subst this
   exact R4 p17
 case g14 =>
  have k4':rs[i1.toNat]!.sku=noneS:=h28
  have g:=A8r hh6 h12 h22 h23 h27 h24 h10
  have g2:=(A2a hh6 h12 h22 h23 h27 h24).1
  rw[if_pos k4',if_pos (by rw[if_pos k4'];exact Classical.not_not.1 h29)]at g
  subst h21
  exact⟨by omega,by omega,by omega,A8t p17,g,h11⟩
 case g21 =>
  have k4':¬ rs[i1.toNat]!.sku=noneS:=h28
  have g:=A8r hh6 h12 h22 h23 h27 h24 h10
  have g2:=(A2a hh6 h12 h22 h23 h27 h24).1
  subst h19 h20 h21
  rw[if_neg k4',if_neg (by rw[if_neg k4'];exact h30),if_neg k4']at g
  refine⟨by omega,by omega,by rw[List.length_append,List.length_singleton];omega,h9,g,fun r hr=>?_⟩
  rcases List.mem_append.1 hr with hr | hr
  ·exact h11 r hr
  ·have:r=⟨rs[i1.toNat]!.sku,B1 (C3 p17) ⟨v14,c15⟩⟩:=by simpa using hr
   subst this
   exact W3 _ _
 case g23 =>
  have k4':¬ rs[i1.toNat]!.sku=noneS:=h28
  have g:=A8r hh6 h12 h22 h23 h27 h24 h10
  have g2:=(A2a hh6 h12 h22 h23 h27 h24).1
  subst h19 h20 h21
  rw[if_neg k4',if_pos (by rw[if_neg k4'];exact Classical.not_not.1 h30)]at g
  exact⟨by omega,by omega,by omega,h9,g,h11⟩
 case g27 =>
  have:=R7 (h11 o4[0]! (E4 (by omega)))
  unfold szR
  omega
 case g29 =>
  have e:(⟨o4[0]!.sku,A3 o4[0]!.past⟩:Record)=o4[0]!:=by
   have:=h11 o4[0]! (E4 (by omega))
   generalize o4[0]! = r at *
   cases r
   simp only at this
   rw[← this]
  have e2:o4.set 0 o4[0]! = o4:=by
   cases o4 with
   | nil=>rfl
   | cons x l=>rfl
  unfold R6
  rw[if_pos (Classical.not_not.1 hh0),← B98 h12 h10]
  show AV.sl (List.map c83 (o4.set 0 ⟨o4[0]!.sku,A3 o4[0]!.past⟩))=_
  rw[e,e2]
 case g31 =>
  unfold R6
  rw[if_pos (Classical.not_not.1 hh0),← B98 h12 h10]
theorem con62(es:List Entry)(rs:List Record)(hb:B0o rs)(ht:tokR rs):Con Tryz.prog 62 [.sl (es.map c67),.sl (rs.map c83)] (.tup [.sl ((M5 es rs).1.map c67),.i .i64 (M5 es rs).2]) :=
 by
 have hl:D9 es=0→es.length≤16000000000:=fun h=>A2y (O9 h)
 have hf:E2 rs=0→(R6 rs).1=Y2 ⟨[],[]⟩ [] rs:=fun h=>by unfold R6;rw[if_pos h]
 have no:¬D9 es=0∨¬E2 rs=0→¬(D9 es=0∧E2 rs=0):=fun h k=>by rcases h with h | h;exact h k.1;exact h k.2
 have yes:¬(¬D9 es=0∨¬E2 rs=0)→D9 es=0∧E2 rs=0:=fun h=>⟨Classical.not_not.1 fun k=>h (.inl k),Classical.not_not.1 fun k=>h (.inr k)⟩
 refine lN 0 c67 (es) Tryz.func62 fun hl_0=>lN 1 c83 (rs) Tryz.func62 fun hl_1=>sC A9 [.tmp 4,.tmp 5] 40 Tryz.func62 ?_
 intro e0 cx
 refine sq<|rG cx [0,1] [] z0<|sn<|sq<|sq<|B4 (σ':=⟨[(0,.sl (List.map c67 es)),(1,.sl (List.map c83 rs)),(18,.b (decide (¬D9 es=0∨¬E2 rs=0)))],[]⟩) ?_ ?_
 refine A4 (¬D9 es=0) (fun h_1=>?_) (fun h_1=>?_)
 refine rG cx [0,1,18] [] (fT (A56 (es)) (tT 2 (F4 h_1:AV.b (D9 es !=0)=AV.b true) (tD 7 true (¬D9 es=0∨¬E2 rs=0) (by simp only [eq_false h_1,tsl]) (oA 1 (.i .i64 (D9 es)) z0)))) ?_
 exact⟨rfl,by kernel_rfl⟩
 refine rG cx [0,1,18] [] (fT (A56 (es)) (tN 2 (D9 es) (0:Int) (tT 3 (A0 h_1) (fT (Ad7 (rs) (by(with_reducible assumption))) (tN 6 (E2 rs) (0:Int) (tT 7 (by first | (simp only [eq_false h_1,tsl];done) | simp_all:AV.b (decide ¬E2 rs=0)=AV.b (decide (¬D9 es=0∨¬E2 rs=0))) (oA 1 (.i .i64 (D9 es)) (oA 5 (.i .i64 (E2 rs)) z0)))))))) ?_
 exact⟨rfl,by kernel_rfl⟩
 refine sn<|dC (¬D9 es=0∨¬E2 rs=0) (fun hh2=>?_) fun hh2=>?_
 refine sq<|rG cx [4,5] [] z0<|sn<|rT<|nR<|qR (.tup [.nl,.i .i64 ((1:Int))]) (C1.tup (ZLe.cons (C1.nl' (show List.map c67 (M5 es rs).1=[]from(by unfold M5;rw[if_neg (no hh2)];rfl))) (ZLe.cons (C1.eq (show AV.i .i64 1=AV.i .i64 (M5 es rs).2 from(by unfold M5;rw[if_neg (no hh2)]))) ZLe.nil)))
 refine sK<|sn<|sq<|rG cx [0,6] [] (fT (con112 (rs) (by(with_reducible assumption)) (by(with_reducible assumption))) (oA 1 (.tup [.sl (List.map c83 (R6 rs).1),.i .i64 ((R6 rs).2)]) z0))<|sn<|sq<|rG cx [0,6,8] [] z0<|sn<|sq<|sq<|rG cx [6,8,24,25,26] [] (tL 1 c67 es z0)<|sn<|bL 0<|G3 8 1008 67 4 (σ':=⟨[(6,.sl (List.map c83 (R6 rs).1)),(8,.own 1008 0),(24,.sl (List.map c67 es)),(25,.i .i64 ((↑es.length:Int))),(26,.i .i64 ((0:Int)))],[(1008,⟨0,67,.row 4 (List.map c67 [])⟩)]⟩) (by kernel_rfl)<|sL (X:=Int×List Entry) (fun x=>⟨[(6,.sl (List.map c83 (R6 rs).1)),(8,.own 1008 0),(24,.sl (List.map c67 es)),(25,.i .i64 ((↑es.length:Int))),(26,.i .i64 (x.1))],[(1008,⟨0,67,.row 4 (List.map c67 x.2)⟩)]⟩) (fun x ↦ decAp es x.1 x.2) (fun x ↦ B6n es (Y2 { vec:=[],cloud:=[]:Past } [] rs) x.1 x.2) [6,8,24,25,26] [1008] (((0:Int),[])) (show B6n es (Y2 { vec:=[],cloud:=[]:Past } [] rs) (0:Int) []from(by exact⟨by omega,by omega,by simp,by simp⟩)) ?_
 rintro⟨i3,o4⟩ h_5
 obtain⟨h6,h7,h8,h9⟩:0≤i3∧i3≤(↑es.length:Int)∧(↑o4.length:Int)≤i3∧o4=List.filter (fun e ↦ decide (H4 (Y2 { vec:=[],cloud:=[]:Past } [] rs) e=0)) (List.take i3.toNat es):=h_5
 refine rE cx [6,8,24,25,26,27] [1008] (zB 0 (i3 <(↑es.length:Int))) (fun h10=>?_) fun h10=>?_
 refine sK<|sn<|sq<|bL 1<|sq<|rG cx [6,8,24,25,26,10] [1008,10] (fA (0≤i3) (fG c67 es i3.toNat (fR 4 (fN 4 4 (oR 0 (c67 es[i3.toNat]!) z0)))))<|sn<|rD cx [6,8,24,25,26,10,33] [1008,10] (fT (con113 ((R6 rs).1) (es[i3.toNat]!)) (oA 2 (.i .i64 (H4 (R6 rs).1 es[i3.toNat]!)) (zB 3 (H4 (R6 rs).1 es[i3.toNat]! =(0:Int))))) (fun h11=>?_) fun h11=>?_
 refine rG cx [6,8,24,25,26] [1008] (fR 67 (fR 4 (fR 4 (fX c67 [es[i3.toNat]!] 4 (fS c67 o4 c67 [es[i3.toNat]!] (fP (((List.map c67 o4).length+(List.map c67 [es[i3.toNat]!]).length)*(40:Nat)≤(140737488355328:Nat)) (by have:=hl (yes hh2).1;simp only [List.length_map,List.length_cons,List.length_nil];omega) (fM c67 o4 [es[i3.toNat]!] (oV 3 { rows:=some (List.map c67 (o4++[es[i3.toNat]!])) } z0)))))))) ?_
 refine bN<|sn<|rG cx [6,8,24,25,26] [1008] (tW 0 (i3+1) z0)<|sn<|nX ((i3+1,o4++[es[i3.toNat]!])) (show((↑es.length:Int)-(i3+1)).toNat <((↑es.length:Int)-i3).toNat from(by omega)) (show B6n es (Y2 { vec:=[],cloud:=[]:Past } [] rs) (i3+1) (o4++[es[i3.toNat]!])from ?g4);rotate_left
 refine sK<|bN<|sn<|rG cx [6,8,24,25,26] [1008] (tW 0 (i3+1) z0)<|sn<|nX ((i3+1,o4)) (show((↑es.length:Int)-(i3+1)).toNat <((↑es.length:Int)-i3).toNat from(by omega)) (show B6n es (Y2 { vec:=[],cloud:=[]:Past } [] rs) (i3+1) o4 from ?g5);rotate_left
 refine eX 0<|nE<|nE<|bH<|sn<|sq<|rG cx [4,5] [1008] z0<|sn<|rT<|qR (.tup [.sl (List.map c67 o4),.i .i64 ((0:Int))]) (C1.tup (ZLe.cons (C1.eq (show AV.sl (List.map c67 o4)=AV.sl (List.map c67 (M5 es rs).1)from ?g7)) (ZLe.cons (C1.eq (show AV.i .i64 0=AV.i .i64 (M5 es rs).2 from(by unfold M5;rw[if_pos (yes hh2)]))) ZLe.nil)));rotate_left
 case g4 =>
  rw[hf (yes hh2).2]at h11
  refine⟨by omega,by omega,by rw[List.length_append,List.length_singleton];omega,?_⟩
  rw[B31 h6 h10 h9,if_pos h11]
 case g5 =>
  rw[hf (yes hh2).2]at h11
  refine⟨by omega,by omega,by omega,?_⟩
  rw[B31 h6 h10 h9,if_neg h11,List.append_nil]
 case g7 =>
  unfold M5
  rw[if_pos (yes hh2),h9,List.take_of_length_le (by omega),Bf5]
end Go.Proofs.YtokhjapfekbobaaGreat
namespace Go.Proofs.YtokhjapfekbobaaGreat
open Go.E
set_option maxRecDepth 100000
set_option maxHeartbeats 4000000
def Bf7(a b:Past)(i:Int)(v:List Int)(c:List Span)(w:List Int)(e:List Span):Prop:=v=a.vec∧c=a.cloud∧w=b.vec∧e=b.cloud∧0≤i∧i≤a.vec.length∧∀ j:Nat,(j:Int) < i→a.vec[j]! = b.vec[j]!
def decSV(a:Past)(i:Int)(v:List Int)(c:List Span)(w:List Int)(e:List Span):Nat:=(a.vec.length-i).toNat
def Bf8(a b:Past)(i:Int)(v:List Int)(c:List Span)(w:List Int)(e:List Span):Prop:=v=a.vec∧c=a.cloud∧w=b.vec∧e=b.cloud∧0≤i∧i≤a.cloud.length∧∀ j:Nat,(j:Int) < i→a.cloud[j]! = b.cloud[j]!
def decSC(a:Past)(i:Int)(v:List Int)(c:List Span)(w:List Int)(e:List Span):Nat:=(a.cloud.length-i).toNat
theorem B6q(d:Dot):Con Tryz.prog 77 [.agg (c65 d)] (.b (P7 d)) :=
 by
 refine sC A9 [.tmp 2] 21 Tryz.func77 ?_
 intro e0 cx
 refine sq<|rG cx [1] [1] z0<|sn<|sq<|B4 (σ':=⟨[(2,.b (decide (0≤d.rep∧d.rep <(16:Int)∧1≤d.num∧d.num≤1000000000)))],[]⟩) ?_ ?_
 refine A4 (0≤d.rep) (fun h_1=>?_) (fun h_1=>?_)
 refine A4 (d.rep <(16:Int)) (fun h_2=>?_) (fun h_2=>?_)
 refine A4 (1≤d.num) (fun h_3=>?_) (fun h_3=>?_)
 refine rG cx [2] [] (tT 2 (A6 h_1) (tT 6 (A6 h_2) (tT 11 (A6 h_3) (tB 16 (d.num≤1000000000) (tD 18 (decide (d.num≤1000000000)) (0≤d.rep∧d.rep <(16:Int)∧1≤d.num∧d.num≤1000000000) (by simp only [eq_true h_1,eq_true h_2,eq_true h_3,tsl]) z0))))) ?_
 exact⟨rfl,by kernel_rfl⟩
 refine rG cx [2] [] (tT 2 (A6 h_1) (tT 6 (A6 h_2) (tT 11 (A0 h_3) (tD 18 false (0≤d.rep∧d.rep <(16:Int)∧1≤d.num∧d.num≤1000000000) (by simp only [eq_true h_1,eq_true h_2,eq_false h_3,tsl]) z0)))) ?_
 exact⟨rfl,by kernel_rfl⟩
 refine rG cx [2] [] (tT 2 (A6 h_1) (tT 6 (A0 h_2) (tD 18 false (0≤d.rep∧d.rep <(16:Int)∧1≤d.num∧d.num≤1000000000) (by simp only [eq_true h_1,eq_false h_2,tsl]) z0))) ?_
 exact⟨rfl,by kernel_rfl⟩
 refine rG cx [2] [] (tT 2 (A0 h_1) (tD 18 false (0≤d.rep∧d.rep <(16:Int)∧1≤d.num∧d.num≤1000000000) (by simp only [eq_false h_1,tsl]) z0)) ?_
 exact⟨rfl,by kernel_rfl⟩
 refine sn<|rT<|qR (.b (decide (0≤d.rep∧d.rep <(16:Int)∧1≤d.num∧d.num≤1000000000))) (.eq ?g0);rotate_left
 case g0=>exact rfl
theorem B6r(a b:Past)(h1:a.vec.length≤9223372036854775807)(h2:a.cloud.length≤9223372036854775807):Con Tryz.prog 25 [.agg (c26 a),.agg (c26 b)] (.b (decide (a=b))) :=
 by
 refine sC A9 [.tmp 4] 59 Tryz.func25 ?_
 intro e0 cx
 refine sq<|rG cx [2,3] [2,3] z0<|sn<|sq<|sq<|B4 (σ':=⟨[(2,.ptr (2) (0) (0) (0)),(3,.ptr (3) (0) (0) (0)),(22,.b (decide (¬(↑a.vec.length:Int)=(↑b.vec.length:Int)∨¬(↑a.cloud.length:Int)=(↑b.cloud.length:Int))))],[(2,⟨0,26,.var [.sl (List.map c3 a.vec),.sl (List.map B3 a.cloud)]⟩),(3,⟨0,26,.var [.sl (List.map c3 b.vec),.sl (List.map B3 b.cloud)]⟩)]⟩) ?_ ?_
 refine A4 (¬(↑a.vec.length:Int)=(↑b.vec.length:Int)) (fun h_1=>?_) (fun h_1=>?_)
 refine rG cx [2,3,22] [2,3] (tL 2 c3 a.vec (tL 5 c3 b.vec (tT 6 (F4 h_1:AV.b ((↑a.vec.length:Int) !=(↑b.vec.length:Int))=AV.b true) (tD 15 true (¬(↑a.vec.length:Int)=(↑b.vec.length:Int)∨¬(↑a.cloud.length:Int)=(↑b.cloud.length:Int)) (by simp only [eq_false h_1,tsl]) z0)))) ?_
 exact⟨rfl,by kernel_rfl⟩
 refine rG cx [2,3,22] [2,3] (tL 2 c3 a.vec (tL 5 c3 b.vec (tN 6 (↑a.vec.length:Int) (↑b.vec.length:Int) (tT 7 (A0 h_1) (tL 10 B3 a.cloud (tL 13 B3 b.cloud (tN 14 (↑a.cloud.length:Int) (↑b.cloud.length:Int) (tT 15 (by first | (simp only [eq_false h_1,tsl];done) | simp_all:AV.b (decide ¬(↑a.cloud.length:Int)=(↑b.cloud.length:Int))=AV.b (decide (¬(↑a.vec.length:Int)=(↑b.vec.length:Int)∨¬(↑a.cloud.length:Int)=(↑b.cloud.length:Int)))) z0)))))))) ?_
 exact⟨rfl,by kernel_rfl⟩
 refine sn<|dC (¬(↑a.vec.length:Int)=(↑b.vec.length:Int)∨¬(↑a.cloud.length:Int)=(↑b.cloud.length:Int)) (fun hh2=>?_) fun hh2=>?_
 refine sq<|rG cx [4] [] z0<|sn<|rT<|nR<|qR (.b (false)) (.eq (by rw[decide_eq_false];rintro rfl;exact hh2.elim (fun k=>k rfl) (fun k=>k rfl)))
 refine sK<|sn<|sq<|sq<|rG cx [2,3,5] [2,3] z0<|sn<|bL 0<|sL (X:=Int×List Int×List Span×List Int×List Span) (fun x=>⟨[(2,.ptr (2) (0) (0) (0)),(3,.ptr (3) (0) (0) (0)),(5,.i .i64 (x.1))],[(2,⟨0,26,.var [.sl (List.map c3 x.2.1),.sl (List.map B3 x.2.2.1)]⟩),(3,⟨0,26,.var [.sl (List.map c3 x.2.2.2.1),.sl (List.map B3 x.2.2.2.2)]⟩)]⟩) (fun x ↦ decSV a x.1 x.2.1 x.2.2.1 x.2.2.2.1 x.2.2.2.2) (fun x ↦ Bf7 a b x.1 x.2.1 x.2.2.1 x.2.2.2.1 x.2.2.2.2) [2,3,5] [2,3] (((0:Int),a.vec,a.cloud,b.vec,b.cloud)) (show Bf7 a b (0:Int) a.vec a.cloud b.vec b.cloud from(by exact⟨rfl,rfl,rfl,rfl,by omega,by omega,fun j hj=>by omega⟩)) ?_
 rintro⟨i3,v4,c5,w6,e7⟩ h_8
 obtain⟨h9,h10,h11,h12,h13,h14,h15⟩:v4=a.vec∧c5=a.cloud∧w6=b.vec∧e7=b.cloud∧0≤i3∧i3≤(↑a.vec.length:Int)∧∀(j:Nat),(↑j:Int) < i3→a.vec[j]! = b.vec[j]!:=h_8
 refine sq<|rD cx [2,3,5,27] [2,3] (tL 3 c3 v4 (zB 4 (i3 <(↑v4.length:Int)))) (fun h16=>?_) fun h16=>?_
 refine sK<|sn<|sq<|bL 1<|sq<|rA cx [2,3,5,40] [2,3] (fA (0≤i3) (fG c3 v4 i3.toNat (fR 1 (fA (0≤i3) (fP ((List.map c3 w6)[i3.toNat]?=some (c3 w6[i3.toNat]!)) (by subst h9 h10 h11 h12;exact H6 (by omega)) (fR 1 (tN 10 v4[i3.toNat]! w6[i3.toNat]! (oR 3 (c3 v4[i3.toNat]!) (oR 8 (c3 w6[i3.toNat]!) z0))))))))) ?_
 refine sn<|dC (¬v4[i3.toNat]! = w6[i3.toNat]!) (fun h17=>?_) fun h17=>?_
 refine sq<|rG cx [4] [] z0<|sn<|rT<|bR<|nR<|nR<|bR<|nR<|qR (.b (false)) (.eq (by subst h9 h10 h11 h12;rw[decide_eq_false];rintro rfl;exact h17 rfl))
 refine sK<|bN<|sn<|rG cx [2,3,5] [2,3] (tT 1 (B5 (by omega) (by subst h9 h10 h11 h12;omega):AV.i .i64 (IntKind.i64.wrap (i3+1))=AV.i .i64 (i3+1)) z0) ?_
 refine sn<|nX ((i3+1,v4,c5,w6,e7)) (show((↑a.vec.length:Int)-(i3+1)).toNat <((↑a.vec.length:Int)-i3).toNat from(by subst h9 h10 h11 h12;omega)) (show Bf7 a b (i3+1) v4 c5 w6 e7 from ?g6);rotate_left
 refine eX 0<|nE<|nE<|bH<|sn<|sq<|sq<|rG cx [2,3,6] [2,3] z0<|sn<|bL 2<|sL (X:=Int×List Int×List Span×List Int×List Span) (fun x=>⟨[(2,.ptr (2) (0) (0) (0)),(3,.ptr (3) (0) (0) (0)),(6,.i .i64 (x.1))],[(2,⟨0,26,.var [.sl (List.map c3 x.2.1),.sl (List.map B3 x.2.2.1)]⟩),(3,⟨0,26,.var [.sl (List.map c3 x.2.2.2.1),.sl (List.map B3 x.2.2.2.2)]⟩)]⟩) (fun x ↦ decSC a x.1 x.2.1 x.2.2.1 x.2.2.2.1 x.2.2.2.2) (fun x ↦ Bf8 a b x.1 x.2.1 x.2.2.1 x.2.2.2.1 x.2.2.2.2) [2,3,6] [2,3] (((0:Int),v4,c5,w6,e7)) (show Bf8 a b (0:Int) v4 c5 w6 e7 from(by exact⟨h9,h10,h11,h12,by omega,by omega,fun j hj=>by omega⟩)) ?_
 rintro⟨i18,v19,c20,w21,e22⟩ h_23
 obtain⟨h24,h25,h26,h27,h28,h29,h30⟩:v19=a.vec∧c20=a.cloud∧w21=b.vec∧e22=b.cloud∧0≤i18∧i18≤(↑a.cloud.length:Int)∧∀(j:Nat),(↑j:Int) < i18→a.cloud[j]! = b.cloud[j]!:=h_23
 refine sq<|rD cx [2,3,6,45] [2,3] (tL 3 B3 c20 (zB 4 (i18 <(↑c20.length:Int)))) (fun h31=>?_) fun h31=>?_
 refine sK<|sn<|sq<|bL 3<|sq<|rA cx [2,3,6,58] [2,3] (fA (0≤i18) (fG B3 c20 i18.toNat (fR 3 (fN 3 3 (fA (0≤i18) (fP ((List.map B3 e22)[i18.toNat]?=some (B3 e22[i18.toNat]!)) (by subst h24 h25 h26 h27;exact H6 (by omega)) (fR 3 (fN 3 3 (fT (A1x (eq109 c20[i18.toNat]! e22[i18.toNat]!)) (oR 3 (B3 c20[i18.toNat]!) (oR 8 (B3 e22[i18.toNat]!) (oA 10 (.b (decide ¬c20[i18.toNat]! = e22[i18.toNat]!)) z0)))))))))))) ?_
 refine sn<|dC (¬c20[i18.toNat]! = e22[i18.toNat]!) (fun h32=>?_) fun h32=>?_
 refine sq<|rG cx [4] [] z0<|sn<|rT<|bR<|nR<|nR<|bR<|nR<|qR (.b (false)) (.eq (by subst h24 h25 h26 h27;rw[decide_eq_false];rintro rfl;exact h32 rfl))
 refine sK<|bN<|sn<|rG cx [2,3,6] [2,3] (tT 1 (B5 (by omega) (by subst h24 h25 h26 h27;omega):AV.i .i64 (IntKind.i64.wrap (i18+1))=AV.i .i64 (i18+1)) z0) ?_
 refine sn<|nX ((i18+1,v19,c20,w21,e22)) (show((↑a.cloud.length:Int)-(i18+1)).toNat <((↑a.cloud.length:Int)-i18).toNat from(by subst h24 h25 h26 h27;omega)) (show Bf8 a b (i18+1) v19 c20 w21 e22 from ?g12);rotate_left
 refine eX 2<|nE<|nE<|bH<|sn<|sq<|rG cx [4] [] z0<|sn<|rT<|qR (.b (true)) (.eq ?g13);rotate_left
 case g6 =>
  subst h9 h10 h11 h12
  refine⟨rfl,rfl,rfl,rfl,by omega,by omega,fun j hj=>?_⟩
  by_cases e7:j=i3.toNat
  ·rw[e7];exact Classical.not_not.1 h17
  ·exact h15 j (by omega)
 case g12 =>
  subst h24 h25 h26 h27
  refine⟨rfl,rfl,rfl,rfl,by omega,by omega,fun l hl=>?_⟩
  by_cases e7:l=i18.toNat
  ·rw[e7];exact Classical.not_not.1 h32
  ·exact h30 l (by omega)
 case g13 =>
  subst h9 h25
  have e1:a.vec=b.vec:=R3 (by omega) fun i18 hj=>h15 i18 (by omega)
  have e2:a.cloud=b.cloud:=R3 (by omega) fun i18 hj=>h30 i18 (by omega)
  rw[decide_eq_true]
  cases a;cases b
  simp only at e1 e2
  rw[e1,e2]
end Go.Proofs.YtokhjapfekbobaaGreat
namespace Go.Proofs.YtokhjapfekbobaaGreat
open Go.E
set_option maxRecDepth 100000
set_option maxHeartbeats 4000000
def leI(a b:Int):Bool:=decide (a≤b)
def A6d(A B:List Int)(i j:Int)(s:List Int):Prop:=s++List.merge (A.drop i.toNat) (B.drop j.toNat) leI=List.merge A B leI
def B6s(A B:List Int)(i j:Int)(s:List Int):Prop:=0≤i∧i≤A.length∧0≤j∧j≤B.length∧(s.length:Int)=i+j∧A6d A B i j s
def dec37(A B:List Int)(i j:Int)(s:List Int):Nat:=(A.length+B.length-i-j).toNat
def hA(l:List Int):List Int:=(List.take ((l.length:Int).tdiv 2).toNat l).mergeSort leI
def hB(l:List Int):List Int:=(List.drop ((l.length:Int).tdiv 2).toNat l).mergeSort leI
theorem hA_len(l:List Int):(hA l).length=((l.length:Int).tdiv 2).toNat:=by
 unfold hA
 rw[List.length_mergeSort,List.length_take,Int.tdiv_eq_ediv_of_nonneg (by omega)]
 omega
theorem hB_len(l:List Int):(hB l).length=l.length-((l.length:Int).tdiv 2).toNat:=by
 unfold hB
 rw[List.length_mergeSort,List.length_drop]
theorem Bf9(l:List Int):0≤(l.length:Int).tdiv 2∧2*(l.length:Int).tdiv 2≤l.length∧(l.length:Int)≤2*(l.length:Int).tdiv 2+1:=by
 rw[Int.tdiv_eq_ediv_of_nonneg (by omega)]
 omega
theorem Ae3(a b c:Int)(h1:leI a b=true)(h2:leI b c=true):leI a c=true:=by simp only [leI,decide_eq_true_eq]at *;omega
theorem Ae4(a b:Int):(leI a b || leI b a)=true:=by simp only [leI,Bool.or_eq_true,decide_eq_true_eq];omega
theorem B6t(l:List Int):List.merge (hA l) (hB l) leI=l.mergeSort leI:=by
 refine List.Perm.eq_of_pairwise (le:=fun x y=>leI x y=true) (fun a b _ _ h1 h2=>by simp only [leI,decide_eq_true_eq]at *;omega) ?_ (List.pairwise_mergeSort Ae3 Ae4 l) ?_
 ·exact List.pairwise_merge Ae3 Ae4 _ _ (List.pairwise_mergeSort Ae3 Ae4 _) (List.pairwise_mergeSort Ae3 Ae4 _)
 ·refine(List.merge_perm_append leI).trans (((List.mergeSort_perm _ _).append (List.mergeSort_perm _ _)).trans ?_)
  rw[List.take_append_drop]
  exact(List.mergeSort_perm _ _).symm
theorem O6{α:Type}[Inhabited α]{l:List α}{i:Int}(h0:0≤i)(h:i < l.length):l.drop i.toNat=l[i.toNat]! :: l.drop (i+1).toNat:=by
 rw[show(i+1).toNat=i.toNat+1 by omega,getElem!_pos l i.toNat (by omega),← List.drop_eq_getElem_cons]
theorem mrgL{A B:List Int}{i j:Int}{s:List Int}(h0:0≤i)(hi:i < A.length)(j0:0≤j)(hj:j=B.length∨(j < B.length∧A[i.toNat]!≤B[j.toNat]!))(h:A6d A B i j s):A6d A B (i+1) j (s++[A[i.toNat]!]):=by
 unfold A6d at *
 rw[← h,List.append_assoc]
 congr 1
 rw[O6 h0 hi]
 rcases hj with hj | ⟨hj,hle⟩
 ·rw[List.drop_of_length_le (l:=B) (by omega)];simp
 ·rw[O6 j0 hj,List.cons_merge_cons,if_pos (by simpa [leI]using hle)];simp
theorem mrgR{A B:List Int}{i j:Int}{s:List Int}(h0:0≤i)(j0:0≤j)(hj:j < B.length)(hi:¬ i < A.length∨(i < A.length∧¬ A[i.toNat]!≤B[j.toNat]!))(h:A6d A B i j s):A6d A B i (j+1) (s++[B[j.toNat]!]):=by
 unfold A6d at *
 rw[← h,List.append_assoc]
 congr 1
 rw[O6 j0 hj]
 rcases hi with hi | ⟨hi,hle⟩
 ·rw[List.drop_of_length_le (l:=A) (by omega)];simp
 ·rw[O6 h0 hi,List.cons_merge_cons,if_neg (by simpa [leI]using hle)];simp
theorem mrgE{l:List Int}{i j:Int}{s:List Int}(hi:¬ i <(hA l).length)(hj:¬ j <(hB l).length)(h:A6d (hA l) (hB l) i j s):s=l.mergeSort leI:=by
 unfold A6d at h
 rw[List.drop_of_length_le (by omega),List.drop_of_length_le (by omega)]at h
 rw[← B6t,← h]
 simp
theorem B32{l:List Int}(h:(l.length:Int) < 2):l.mergeSort leI=l:=by
 match l with
 | []=>simp
 | [a]=>simp
 | a :: b :: l=>simp only [List.length_cons]at h;omega
theorem As9(l:List Int)(n:Nat)(hn:l.length≤n)(ih:∀ m:List Int,m.length < n→m.length*8≤140737488351232→Con Tryz.prog 216 [.sl (m.map c3)] (.sl ((m.mergeSort leI).map c3)))(hb:l.length*8≤140737488351232):Con Tryz.prog 216 [.sl (l.map c3)] (.sl ((l.mergeSort leI).map c3)) :=
 by
 have b1:=Bf9 l
 have b2:=hA_len l
 have b3:=hB_len l
 refine lN 0 c3 (l) Tryz.func216 fun hl_0=>sC A9 [.tmp 2] 79 Tryz.func216 ?_
 intro e0 cx
 refine sq<|rG cx [0] [] z0<|sn<|sq<|rD cx [0,10] [] (tL 1 c3 l (zB 2 ((↑l.length:Int) <(2:Int)))) (fun h0=>?_) fun h0=>?_
 refine sq<|rG cx [2] [11] (fR 3 (fR 1 (fR 1 (fX c3 l 1 (fS c3 [] c3 l (fP (((List.map c3 []).length+(List.map c3 l).length)*(8:Nat)≤(140737488355328:Nat)) (by(simp only [Go.maxLen,List.length_map,List.length_append,List.length_cons,List.length_nil];omega)) (fM c3 [] l (oV 2 { rows:=some (List.map c3 ([]++l)) } z0))))))))<|sn<|rT<|nR<|qR (.sl (List.map c3 ([]++l))) (.eq (by rw[B32 h0];rfl))
 refine sK<|sn<|sq<|rG cx [0,3] [] (tL 2 c3 l (tT 3 (B5 (by omega) (by omega):AV.i .i64 (IntKind.i64.wrap ((↑l.length:Int).tdiv (2:Int)))=AV.i .i64 ((↑l.length:Int).tdiv (2:Int))) (tT 4 (B5o c3 l ((↑l.length:Int).tdiv (2:Int)).toNat:AV.sl (List.drop (Int.toNat (0:Int)) (List.take ((↑l.length:Int).tdiv (2:Int)).toNat (List.map c3 l)))=AV.sl (List.map c3 (List.take ((↑l.length:Int).tdiv (2:Int)).toNat l))) (fO ((0:Int)≤(0:Int)) (fP (0≤(↑l.length:Int).tdiv (2:Int)) (by omega) (fP ((↑l.length:Int).tdiv 2≤(↑(List.map c3 l).length:Int)) (by rw[List.length_map];omega) (fX c3 l 1 (fP (Con Tryz.prog (216:FuncId) [AV.sl (List.map c3 (List.take ((↑l.length:Int).tdiv (2:Int)).toNat l))] (AV.sl (List.map c3 ((List.take ((↑l.length:Int).tdiv (2:Int)).toNat l).mergeSort leI)))) (ih (List.take ((↑l.length:Int).tdiv (2:Int)).toNat l) (by show(List.take ((l.length:Int).tdiv 2).toNat l).length < n;rw[List.length_take];omega) (by show(List.take ((l.length:Int).tdiv 2).toNat l).length*8≤140737488351232;rw[List.length_take];omega)) (oA 5 (.sl (List.map c3 ((List.take ((↑l.length:Int).tdiv (2:Int)).toNat l).mergeSort leI))) z0))))))))) ?_
 refine sn<|sq<|rG cx [0,3,4] [] (tL 2 c3 l (tT 3 (B5 (by omega) (by omega):AV.i .i64 (IntKind.i64.wrap ((↑l.length:Int).tdiv (2:Int)))=AV.i .i64 ((↑l.length:Int).tdiv (2:Int))) (tT 4 (Ap9 c3 l ((↑l.length:Int).tdiv (2:Int)).toNat:AV.sl (List.drop ((↑l.length:Int).tdiv (2:Int)).toNat (List.take (none.getD (↑(List.map c3 l).length:Int)).toNat (List.map c3 l)))=AV.sl (List.map c3 (List.drop ((↑l.length:Int).tdiv (2:Int)).toNat l))) (fP (0≤(↑l.length:Int).tdiv (2:Int)) (by omega) (fP ((↑l.length:Int).tdiv 2≤none.getD (↑(List.map c3 l).length:Int)) (by show _≤((List.map c3 l).length:Int);rw[List.length_map];omega) (fP (none.getD (↑(List.map c3 l).length:Int)≤(↑(List.map c3 l).length:Int)) (by exact Int.le_refl _) (fX c3 l 1 (fP (Con Tryz.prog (216:FuncId) [AV.sl (List.map c3 (List.drop ((↑l.length:Int).tdiv (2:Int)).toNat l))] (AV.sl (List.map c3 ((List.drop ((↑l.length:Int).tdiv (2:Int)).toNat l).mergeSort leI)))) (ih (List.drop ((↑l.length:Int).tdiv (2:Int)).toNat l) (by rw[List.length_drop];omega) (by rw[List.length_drop];omega)) (oA 5 (.sl (List.map c3 ((List.drop ((↑l.length:Int).tdiv (2:Int)).toNat l).mergeSort leI))) z0))))))))) ?_
 refine sn<|sq<|rG cx [3,4,5] [28] (tL 1 c3 l (fR (0:Int) (fR (↑l.length:Int) (fO ((8:Nat)*l.length≤(281474976710656:Nat)) (fP (l.length≤maxLen) (by(simp only [Go.maxLen];omega)) (oV 2 { n:=l.length,flat:=true } z0))))))<|sn<|sq<|rG cx [3,4,5,6,7] [28] z0<|sn<|sq<|bL 0<|sL (X:=Int×Int×List Int) (fun x=>⟨[(3,.sl (List.map c3 ((List.take ((↑l.length:Int).tdiv (2:Int)).toNat l).mergeSort leI))),(4,.sl (List.map c3 ((List.drop ((↑l.length:Int).tdiv (2:Int)).toNat l).mergeSort leI))),(5,.own 28 0),(6,.i .i64 (x.1)),(7,.i .i64 (x.2.1))],[(28,⟨0,3,.row 1 (List.map c3 x.2.2)⟩)]⟩) (fun x ↦ dec37 (hA l) (hB l) x.1 x.2.1 x.2.2) (fun x ↦ B6s (hA l) (hB l) x.1 x.2.1 x.2.2) [3,4,5,6,7] [28] (((0:Int),(0:Int),[])) (show B6s (hA l) (hB l) (0:Int) (0:Int) []from(by exact⟨by omega,by omega,by omega,by omega,rfl,rfl⟩)) ?_
 rintro⟨i1,j2,s3⟩ h_4
 obtain⟨h5,h6,h7,h8,h9,h10⟩:0≤i1∧i1≤(↑(hA l).length:Int)∧0≤j2∧j2≤(↑(hB l).length:Int)∧(↑s3.length:Int)=i1+j2∧A6d (hA l) (hB l) i1 j2 s3:=h_4
 refine sq<|sq<|B4 (σ':=⟨[(3,.sl (List.map c3 ((List.take ((↑l.length:Int).tdiv (2:Int)).toNat l).mergeSort leI))),(4,.sl (List.map c3 ((List.drop ((↑l.length:Int).tdiv (2:Int)).toNat l).mergeSort leI))),(5,.own 28 0),(6,.i .i64 (i1)),(7,.i .i64 (j2)),(38,.b (decide (i1 <(↑((List.take ((↑l.length:Int).tdiv (2:Int)).toNat l).mergeSort leI).length:Int)∨j2 <(↑((List.drop ((↑l.length:Int).tdiv (2:Int)).toNat l).mergeSort leI).length:Int))))],[(28,⟨0,3,.row 1 (List.map c3 s3)⟩)]⟩) ?_ ?_
 refine A4 (i1 <(↑((List.take ((↑l.length:Int).tdiv (2:Int)).toNat l).mergeSort leI).length:Int)) (fun h_12=>?_) (fun h_12=>?_)
 refine rG cx [3,4,5,6,7,38] [28] (tL 2 c3 ((List.take ((↑l.length:Int).tdiv (2:Int)).toNat l).mergeSort leI) (tT 3 (A6 h_12) (tD 9 true (i1 <(↑((List.take ((↑l.length:Int).tdiv (2:Int)).toNat l).mergeSort leI).length:Int)∨j2 <(↑((List.drop ((↑l.length:Int).tdiv (2:Int)).toNat l).mergeSort leI).length:Int)) (by simp only [eq_true h_12,tsl]) z0))) ?_
 exact⟨rfl,by kernel_rfl⟩
 refine rG cx [3,4,5,6,7,38] [28] (tL 2 c3 ((List.take ((↑l.length:Int).tdiv (2:Int)).toNat l).mergeSort leI) (tT 3 (A0 h_12) (tL 7 c3 ((List.drop ((↑l.length:Int).tdiv (2:Int)).toNat l).mergeSort leI) (tB 8 (j2 <(↑((List.drop ((↑l.length:Int).tdiv (2:Int)).toNat l).mergeSort leI).length:Int)) (tD 9 (decide (j2 <(↑((List.drop ((↑l.length:Int).tdiv (2:Int)).toNat l).mergeSort leI).length:Int))) (i1 <(↑((List.take ((↑l.length:Int).tdiv (2:Int)).toNat l).mergeSort leI).length:Int)∨j2 <(↑((List.drop ((↑l.length:Int).tdiv (2:Int)).toNat l).mergeSort leI).length:Int)) (by simp only [eq_false h_12,tsl]) z0))))) ?_
 exact⟨rfl,by kernel_rfl⟩
 refine sn<|dC (i1 <(↑((List.take ((↑l.length:Int).tdiv (2:Int)).toNat l).mergeSort leI).length:Int)∨j2 <(↑((List.drop ((↑l.length:Int).tdiv (2:Int)).toNat l).mergeSort leI).length:Int)) (fun h13=>?_) fun h13=>?_
 refine sK<|sn<|bL 1<|sq<|B4 (σ':=⟨[(3,.sl (List.map c3 ((List.take ((↑l.length:Int).tdiv (2:Int)).toNat l).mergeSort leI))),(4,.sl (List.map c3 ((List.drop ((↑l.length:Int).tdiv (2:Int)).toNat l).mergeSort leI))),(5,.own 28 0),(6,.i .i64 (i1)),(7,.i .i64 (j2)),(59,.b (decide (j2=(↑((List.drop ((↑l.length:Int).tdiv (2:Int)).toNat l).mergeSort leI).length:Int)∨i1 <(↑((List.take ((↑l.length:Int).tdiv (2:Int)).toNat l).mergeSort leI).length:Int)∧((List.take ((↑l.length:Int).tdiv (2:Int)).toNat l).mergeSort leI)[i1.toNat]!≤((List.drop ((↑l.length:Int).tdiv (2:Int)).toNat l).mergeSort leI)[j2.toNat]!)))],[(28,⟨0,3,.row 1 (List.map c3 s3)⟩)]⟩) ?_ ?_
 refine A4 (j2=(↑((List.drop ((↑l.length:Int).tdiv (2:Int)).toNat l).mergeSort leI).length:Int)) (fun h15=>?_) (fun h15=>?_)
 refine rA cx [3,4,5,6,7,59] [28] (tL 2 c3 ((List.drop ((↑l.length:Int).tdiv (2:Int)).toNat l).mergeSort leI) (tT 3 (A6 h15) (tD 20 true (j2=(↑((List.drop ((↑l.length:Int).tdiv (2:Int)).toNat l).mergeSort leI).length:Int)∨i1 <(↑((List.take ((↑l.length:Int).tdiv (2:Int)).toNat l).mergeSort leI).length:Int)∧((List.take ((↑l.length:Int).tdiv (2:Int)).toNat l).mergeSort leI)[i1.toNat]!≤((List.drop ((↑l.length:Int).tdiv (2:Int)).toNat l).mergeSort leI)[j2.toNat]!) (by simp only [eq_true h15,tsl]) z0))) ?_
 exact⟨rfl,by kernel_rfl⟩
 refine A4 (i1 <(↑((List.take ((↑l.length:Int).tdiv (2:Int)).toNat l).mergeSort leI).length:Int)) (fun h16=>?_) (fun h16=>?_)
 refine rA cx [3,4,5,6,7,59] [28] (tL 2 c3 ((List.drop ((↑l.length:Int).tdiv (2:Int)).toNat l).mergeSort leI) (tT 3 (A0 h15) (tL 7 c3 ((List.take ((↑l.length:Int).tdiv (2:Int)).toNat l).mergeSort leI) (tT 8 (A6 h16) (fA (0≤i1) (fG c3 ((List.take ((↑l.length:Int).tdiv (2:Int)).toNat l).mergeSort leI) i1.toNat (fR 1 (fA (0≤j2) (fP ((List.map c3 ((List.drop ((↑l.length:Int).tdiv (2:Int)).toNat l).mergeSort leI))[j2.toNat]?=some (c3 ((List.drop ((↑l.length:Int).tdiv (2:Int)).toNat l).mergeSort leI)[j2.toNat]!)) (by exact H6 (xs:=hB l) (by have:¬ j2=(hB l).length:=h15;omega)) (fR 1 (tB 18 (((List.take ((↑l.length:Int).tdiv (2:Int)).toNat l).mergeSort leI)[i1.toNat]!≤((List.drop ((↑l.length:Int).tdiv (2:Int)).toNat l).mergeSort leI)[j2.toNat]!) (tD 20 (decide (((List.take ((↑l.length:Int).tdiv (2:Int)).toNat l).mergeSort leI)[i1.toNat]!≤((List.drop ((↑l.length:Int).tdiv (2:Int)).toNat l).mergeSort leI)[j2.toNat]!)) (j2=(↑((List.drop ((↑l.length:Int).tdiv (2:Int)).toNat l).mergeSort leI).length:Int)∨i1 <(↑((List.take ((↑l.length:Int).tdiv (2:Int)).toNat l).mergeSort leI).length:Int)∧((List.take ((↑l.length:Int).tdiv (2:Int)).toNat l).mergeSort leI)[i1.toNat]!≤((List.drop ((↑l.length:Int).tdiv (2:Int)).toNat l).mergeSort leI)[j2.toNat]!) (by simp only [eq_false h15,eq_true h16,tsl]) (oR 12 (c3 ((List.take ((↑l.length:Int).tdiv (2:Int)).toNat l).mergeSort leI)[i1.toNat]!) (oR 16 (c3 ((List.drop ((↑l.length:Int).tdiv (2:Int)).toNat l).mergeSort leI)[j2.toNat]!) z0)))))))))))))) ?_
 exact⟨rfl,by kernel_rfl⟩
 refine rA cx [3,4,5,6,7,59] [28] (tL 2 c3 ((List.drop ((↑l.length:Int).tdiv (2:Int)).toNat l).mergeSort leI) (tT 3 (A0 h15) (tL 7 c3 ((List.take ((↑l.length:Int).tdiv (2:Int)).toNat l).mergeSort leI) (tT 8 (A0 h16) (tD 20 false (j2=(↑((List.drop ((↑l.length:Int).tdiv (2:Int)).toNat l).mergeSort leI).length:Int)∨i1 <(↑((List.take ((↑l.length:Int).tdiv (2:Int)).toNat l).mergeSort leI).length:Int)∧((List.take ((↑l.length:Int).tdiv (2:Int)).toNat l).mergeSort leI)[i1.toNat]!≤((List.drop ((↑l.length:Int).tdiv (2:Int)).toNat l).mergeSort leI)[j2.toNat]!) (by simp only [eq_false h15,eq_false h16,tsl]) z0))))) ?_
 exact⟨rfl,by kernel_rfl⟩
 refine sn<|dC (j2=(↑((List.drop ((↑l.length:Int).tdiv (2:Int)).toNat l).mergeSort leI).length:Int)∨i1 <(↑((List.take ((↑l.length:Int).tdiv (2:Int)).toNat l).mergeSort leI).length:Int)∧((List.take ((↑l.length:Int).tdiv (2:Int)).toNat l).mergeSort leI)[i1.toNat]!≤((List.drop ((↑l.length:Int).tdiv (2:Int)).toNat l).mergeSort leI)[j2.toNat]!) (fun h17=>?_) fun h17=>?_
 refine sq<|rG cx [3,4,5,6,7] [28] (fA (0≤i1) (fG c3 ((List.take ((↑l.length:Int).tdiv (2:Int)).toNat l).mergeSort leI) i1.toNat (fR 1 (fR 3 (fR 1 (fR 1 (fX c3 [((List.take ((↑l.length:Int).tdiv (2:Int)).toNat l).mergeSort leI)[i1.toNat]!] 1 (fP ((List.map c3 s3).length+(List.map c3 [((List.take ((↑l.length:Int).tdiv (2:Int)).toNat l).mergeSort leI)[i1.toNat]!]).length≤maxLen) (by simp only [List.length_map,List.length_cons,List.length_nil,Go.maxLen];omega) (fP (((List.map c3 s3).length+(List.map c3 [((List.take ((↑l.length:Int).tdiv (2:Int)).toNat l).mergeSort leI)[i1.toNat]!]).length)*(8:Nat)≤(140737488355328:Nat)) (by simp only [List.length_map,List.length_cons,List.length_nil];omega) (fM c3 s3 [((List.take ((↑l.length:Int).tdiv (2:Int)).toNat l).mergeSort leI)[i1.toNat]!] (oR 3 (c3 ((List.take ((↑l.length:Int).tdiv (2:Int)).toNat l).mergeSort leI)[i1.toNat]!) (oV 6 { rows:=some (List.map c3 (s3++[((List.take ((↑l.length:Int).tdiv (2:Int)).toNat l).mergeSort leI)[i1.toNat]!])) } z0)))))))))))) ?_
 refine sn<|rG cx [3,4,5,6,7] [28] (tT 1 (B5 (by omega) (by omega):AV.i .i64 (IntKind.i64.wrap (i1+1))=AV.i .i64 (i1+1)) z0) ?_
 refine bN<|sn<|nX ((i1+1,j2,s3++[((List.take ((↑l.length:Int).tdiv (2:Int)).toNat l).mergeSort leI)[i1.toNat]!])) (show((↑(hA l).length:Int)+(↑(hB l).length:Int)-(i1+1)-j2).toNat <((↑(hA l).length:Int)+(↑(hB l).length:Int)-i1-j2).toNat from(by have k6':i1 <(hA l).length∨j2 <(hB l).length:=h13;have k7':j2=(hB l).length∨i1 <(hA l).length∧(hA l)[i1.toNat]!≤(hB l)[j2.toNat]!:=h17;omega)) (show B6s (hA l) (hB l) (i1+1) j2 (s3++[((List.take ((↑l.length:Int).tdiv (2:Int)).toNat l).mergeSort leI)[i1.toNat]!])from ?g20);rotate_left
 refine sq<|rG cx [3,4,5,6,7] [28] (fA (0≤j2) (fP ((List.map c3 ((List.drop ((↑l.length:Int).tdiv (2:Int)).toNat l).mergeSort leI))[j2.toNat]?=some (c3 ((List.drop ((↑l.length:Int).tdiv (2:Int)).toNat l).mergeSort leI)[j2.toNat]!)) (by have k6':i1 <(hA l).length∨j2 <(hB l).length:=h13;have k7':¬(j2=(hB l).length∨i1 <(hA l).length∧(hA l)[i1.toNat]!≤(hB l)[j2.toNat]!):=h17;exact H6 (xs:=hB l) (by omega)) (fR 1 (fR 3 (fR 1 (fR 1 (fX c3 [((List.drop ((↑l.length:Int).tdiv (2:Int)).toNat l).mergeSort leI)[j2.toNat]!] 1 (fP ((List.map c3 s3).length+(List.map c3 [((List.drop ((↑l.length:Int).tdiv (2:Int)).toNat l).mergeSort leI)[j2.toNat]!]).length≤maxLen) (by simp only [List.length_map,List.length_cons,List.length_nil,Go.maxLen];omega) (fP (((List.map c3 s3).length+(List.map c3 [((List.drop ((↑l.length:Int).tdiv (2:Int)).toNat l).mergeSort leI)[j2.toNat]!]).length)*(8:Nat)≤(140737488355328:Nat)) (by simp only [List.length_map,List.length_cons,List.length_nil];omega) (fM c3 s3 [((List.drop ((↑l.length:Int).tdiv (2:Int)).toNat l).mergeSort leI)[j2.toNat]!] (oR 3 (c3 ((List.drop ((↑l.length:Int).tdiv (2:Int)).toNat l).mergeSort leI)[j2.toNat]!) (oV 6 { rows:=some (List.map c3 (s3++[((List.drop ((↑l.length:Int).tdiv (2:Int)).toNat l).mergeSort leI)[j2.toNat]!])) } z0)))))))))))) ?_
 refine sn<|rG cx [3,4,5,6,7] [28] (tT 1 (B5 (by omega) (by omega):AV.i .i64 (IntKind.i64.wrap (j2+1))=AV.i .i64 (j2+1)) z0) ?_
 refine bN<|sn<|nX ((i1,j2+1,s3++[((List.drop ((↑l.length:Int).tdiv (2:Int)).toNat l).mergeSort leI)[j2.toNat]!])) (show((↑(hA l).length:Int)+(↑(hB l).length:Int)-i1-(j2+1)).toNat <((↑(hA l).length:Int)+(↑(hB l).length:Int)-i1-j2).toNat from(by have k6':i1 <(hA l).length∨j2 <(hB l).length:=h13;have k7':¬(j2=(hB l).length∨i1 <(hA l).length∧(hA l)[i1.toNat]!≤(hB l)[j2.toNat]!):=h17;omega)) (show B6s (hA l) (hB l) i1 (j2+1) (s3++[((List.drop ((↑l.length:Int).tdiv (2:Int)).toNat l).mergeSort leI)[j2.toNat]!])from ?g26);rotate_left
 refine eX 0<|nE<|nE<|bH<|sn<|sq<|rG cx [2] [28] z0<|sn<|rT<|qR (.sl (List.map c3 s3)) (.eq ?g27);rotate_left
 case g20 =>
  have k6':i1 <(hA l).length∨j2 <(hB l).length:=h13
  have k7':j2=(hB l).length∨i1 <(hA l).length∧(hA l)[i1.toNat]!≤(hB l)[j2.toNat]!:=h17
  have hi:i1 <(hA l).length:=by omega
  refine⟨by omega,by omega,by omega,by omega,by rw[List.length_append];simp only [List.length_cons,List.length_nil];omega,mrgL h5 hi h7 ?_ h10⟩
  by_cases e:j2=(hB l).length
  ·exact .inl e
  ·exact .inr ⟨by omega,(k7'.resolve_left e).2⟩
 case g26 =>
  have k6':i1 <(hA l).length∨j2 <(hB l).length:=h13
  have k7':¬(j2=(hB l).length∨i1 <(hA l).length∧(hA l)[i1.toNat]!≤(hB l)[j2.toNat]!):=h17
  have hj:j2 <(hB l).length:=by omega
  refine⟨by omega,by omega,by omega,by omega,by rw[List.length_append];simp only [List.length_cons,List.length_nil];omega,mrgR h5 h7 hj ?_ h10⟩
  by_cases e:i1 <(hA l).length
  ·exact .inr ⟨e,fun k=>k7' (.inr ⟨e,k⟩)⟩
  ·exact .inl e
 case g27 =>
  have k6':¬(i1 <(hA l).length∨j2 <(hB l).length):=h13
  rw[mrgE (fun k=>k6' (.inl k)) (fun k=>k6' (.inr k)) h10]
theorem B33:∀(n:Nat) (l:List Int),l.length≤n→l.length*8≤140737488351232→Con Tryz.prog 216 [.sl (l.map c3)] (.sl ((l.mergeSort leI).map c3))
 | 0,l,h,hb=>As9 l 0 h (fun m hm=>by omega) hb
 | n+1,l,h,hb=>As9 l (n+1) h (fun m hm hb'=>B33 n m (by omega) hb') hb
theorem B99(l:List Int)(hb:l.length*8≤140737488351232):Con Tryz.prog 216 [.sl (l.map c3)] (.sl ((l.mergeSort leI).map c3)):=B33 l.length l (Nat.le_refl _) hb
end Go.Proofs.YtokhjapfekbobaaGreat
namespace Go.Proofs.YtokhjapfekbobaaGreat
open Go.E
set_option maxRecDepth 100000
set_option maxHeartbeats 4000000
def cntI(l:List Int)(n:Int):Nat:=l.countP (fun x=>decide (x≤n))
def L3(l:List Run):List Int:=l.flatMap fun r=>[r.lo,r.hi+1]
def sw:List Int→List Int→Nat→List Int
 | [],[],_=>[]
 | [],b :: B,d=>(if d=1 then[b]else[])++sw [] B (d-1)
 | a :: A,[],d=>(if d=0 then[a]else[])++sw A [] (d+1)
 | a :: A,b :: B,d=>if a≤b then(if d=0 then[a]else[])++sw A (b :: B) (d+1)else(if d=1 then[b]else[])++sw (a :: A) B (d-1)
termination_by A B _=>A.length+B.length
theorem Al4(n:Int):cntI [] n=0:=rfl
theorem J2(a:Int)(l:List Int)(n:Int):cntI (a :: l) n=cntI l n+if a≤n then 1 else 0:=by
 unfold cntI
 rw[List.countP_cons]
 by_cases h:a≤n <;> simp [h]
theorem cnt_zero{l:List Int}{n:Int}(h:∀ x∈l,n < x):cntI l n=0:=by
 unfold cntI
 rw[List.countP_eq_zero]
 intro x hx
 have:=h x hx
 simp
 omega
theorem Bg0(l:List Int)(n:Int):cntI l n≤l.length:=List.countP_le_length
structure VW (A B:List Int) (d:Nat):Prop where
 sA:A.Pairwise (fun x y=>x≤y)
 sB:B.Pairwise (fun x y=>x≤y)
 len:d+A.length=B.length
 cov:∀ n:Int,cntI B (n+1)≤d+cntI A n
theorem VW.in_{a b:Int}{A B:List Int}{d:Nat}(h:VW (a :: A) (b :: B) d)(hab:a≤b):VW A (b :: B) (d+1):=by
 refine⟨(List.pairwise_cons.1 h.sA).2,h.sB,by have:=h.len;simp only [List.length_cons]at *;omega,fun n=>?_⟩
 have:=h.cov n
 rw[J2 a A]at this
 split at this <;> omega
theorem VW.pos{a b:Int}{A B:List Int}{d:Nat}(h:VW (a :: A) (b :: B) d)(hab:b < a):1≤d:=by
 have h1:=h.cov (b-1)
 have h2:=(List.pairwise_cons.1 h.sA).1
 rw[show b-1+1=b by omega,J2 b B,if_pos (Int.le_refl b)]at h1
 rw[cnt_zero (l:=a :: A) fun x hx=>by
  rcases List.mem_cons.1 hx with rfl | hx
  ·omega
  ·have:=h2 x hx;omega]at h1
 omega
theorem VW.out{a b:Int}{A B:List Int}{d:Nat}(h:VW (a :: A) (b :: B) d)(hab:b < a):VW (a :: A) B (d-1):=by
 have hp:=h.pos hab
 have hB:=List.pairwise_cons.1 h.sB
 refine⟨h.sA,hB.2,by have:=h.len;simp only [List.length_cons]at *;omega,fun n=>?_⟩
 have:=h.cov n
 rw[J2 b B]at this
 by_cases e:b≤n+1
 ·rw[if_pos e]at this;omega
 ·rw[cnt_zero (l:=B) fun x hx=>by have:=hB.1 x hx;omega]
  omega
theorem VW.end_{b:Int}{B:List Int}{d:Nat}(h:VW [] (b :: B) d):1≤d∧VW [] B (d-1):=by
 have hl:=h.len
 simp only [List.length_cons,List.length_nil]at hl
 have hB:=List.pairwise_cons.1 h.sB
 exact⟨by omega,h.sA,hB.2,by simp only [List.length_nil];omega,fun n=>by have:=Bg0 B (n+1);omega⟩
theorem VW.strict{a b:Int}{A B:List Int}(h:VW (a :: A) (b :: B) 0):a < b:=by
 have h1:=h.cov (a-1)
 have h2:=(List.pairwise_cons.1 h.sA).1
 rw[show a-1+1=a by omega,cnt_zero (l:=a :: A) fun x hx=>by
  rcases List.mem_cons.1 hx with rfl | hx
  ·omega
  ·have:=h2 x hx;omega,J2 b B]at h1
 by_cases e:b≤a
 ·rw[if_pos e]at h1;omega
 ·omega
def SwZ(A B:List Int):Prop:=∃ R:List Run,sw A B 0=L3 R∧R.Pairwise (fun x y=>x.hi+1 < y.lo)∧(∀ r∈R,r.lo≤r.hi∧r.lo∈A∧r.hi+1∈B)∧∀ n,inR R n↔cntI B n < cntI A n
def SwP(A B:List Int)(d:Nat):Prop:=∃(x:Int) (R:List Run),sw A B d=x :: L3 R∧x∈B∧R.Pairwise (fun x y=>x.hi+1 < y.lo)∧(∀ r∈R,x < r.lo∧r.lo≤r.hi∧r.lo∈A∧r.hi+1∈B)∧∀ n,(n < x∨inR R n)↔cntI B n < d+cntI A n
theorem A8u:∀(k:Nat) (A B:List Int) (d:Nat),A.length+B.length=k→VW A B d→(d=0→SwZ A B)∧(0 < d→SwP A B d)
 | k,[],[],d,_,h=>by
  have hd:=h.len
  simp only [List.length_nil]at hd
  refine⟨fun _=>⟨[],?_,List.Pairwise.nil,fun r hr=>(by cases hr),fun n=>?_⟩,fun h0=>by omega⟩
  ·rw[sw];try rfl
  ·rw[Al4];simp [inR]
 | k,a :: A,[],d,_,h=>by have:=h.len;simp only [List.length_cons,List.length_nil]at this;omega
 | 0,[],b :: B,d,hk,h=>by simp only [List.length_cons]at hk;omega
 | 0,a :: A,b :: B,d,hk,h=>by simp only [List.length_cons]at hk;omega
 | k+1,[],b :: B,d,hk,h=>by
  obtain⟨hd,h'⟩:=h.end_
  have ih:=A8u k [] B (d-1) (by simp only [List.length_cons,List.length_nil]at *;omega) h'
  have hB:=List.pairwise_cons.1 h.sB
  have low:∀ n:Int,n < b→cntI (b :: B) n=0∧cntI B n=0:=fun n hn=>by
   have:cntI B n=0:=cnt_zero fun x hx=>by have:=hB.1 x hx;omega
   rw[J2,if_neg (by omega)];omega
  refine⟨fun h0=>by omega,fun _=>?_⟩
  by_cases e:d=1
  ·obtain⟨R,r1,r2,r3,r4⟩:=ih.1 (by omega)
   refine⟨b,R,?_,by simp,r2,fun r hr=>absurd (r3 r hr).2.1 (by simp),fun n=>?_⟩
   ·rw[sw,if_pos e,show d-1=0 by omega,r1];rfl
   ·rw[r4 n,J2,Al4]
    by_cases hn:b≤n
    ·rw[if_pos hn];omega
    ·have:=low n (by omega);rw[if_neg hn];omega
  ·obtain⟨x,R,r1,r2,r3,r4,r5⟩:=ih.2 (by omega)
   refine⟨x,R,?_,by simp [r2],r3,fun r hr=>absurd (r4 r hr).2.2.1 (by simp),fun n=>?_⟩
   ·rw[sw,if_neg e,r1];rfl
   ·rw[r5 n,J2,Al4]
    by_cases hn:b≤n
    ·rw[if_pos hn];omega
    ·have:=low n (by omega);rw[if_neg hn];omega
 | k+1,a :: A,b :: B,d,hk,h=>by
  have hA:=List.pairwise_cons.1 h.sA
  have hB:=List.pairwise_cons.1 h.sB
  have lowA:∀ n:Int,n < a→cntI (a :: A) n=0∧cntI A n=0:=fun n hn=>by
   have:cntI A n=0:=cnt_zero fun x hx=>by have:=hA.1 x hx;omega
   rw[J2,if_neg (by omega)];omega
  have lowB:∀ n:Int,n < b→cntI (b :: B) n=0∧cntI B n=0:=fun n hn=>by
   have:cntI B n=0:=cnt_zero fun x hx=>by have:=hB.1 x hx;omega
   rw[J2,if_neg (by omega)];omega
  by_cases hab:a≤b
  ·obtain⟨x,R,r1,r2,r3,r4,r5⟩:=(A8u k A (b :: B) (d+1) (by simp only [List.length_cons]at *;omega) (h.in_ hab)).2 (by omega)
   have hx:b≤x:=by
    rcases List.mem_cons.1 r2 with rfl | r2
    ·omega
    ·exact hB.1 x r2
   constructor
   ·rintro rfl
    have hs:=h.strict
    refine⟨⟨a,x-1⟩ :: R,?_,List.pairwise_cons.2 ⟨fun r hr=>?_,r3⟩,fun r hr=>?_,fun n=>?_⟩
    ·rw[sw,if_pos hab,if_pos rfl,r1];simp [L3]
    ·have:=(r4 r hr).1;simp only;omega
    ·rcases List.mem_cons.1 hr with rfl | hr
     ·simp only;exact⟨by omega,by simp,by rw[show x-1+1=x by omega];exact r2⟩
     ·have:=r4 r hr;exact⟨this.2.1,by simp [this.2.2.1],this.2.2.2⟩
    ·have h5:=r5 n
     rw[U0,J2 a A]
     simp only
     by_cases hn:a≤n
     ·rw[if_pos hn]
      constructor
      ·rintro(g | g)
       ·have:=h5.1 (.inl (by omega));omega
       ·have:=h5.1 (.inr g);omega
      ·intro g
       rcases h5.2 (by omega)with g | g
       ·exact .inl ⟨hn,by omega⟩
       ·exact .inr g
     ·rw[if_neg hn]
      have l1:=lowA n (by omega)
      constructor
      ·rintro(g | ⟨r,hr,g1,g2⟩)
       ·omega
       ·have:=hA.1 _ (r4 r hr).2.2.1;omega
      ·intro g;omega
   ·intro h0
    refine⟨x,R,?_,r2,r3,fun r hr=>?_,fun n=>?_⟩
    ·rw[sw,if_pos hab,if_neg (by omega),r1];rfl
    ·have:=r4 r hr;exact⟨this.1,this.2.1,by simp [this.2.2.1],this.2.2.2⟩
    ·rw[r5 n,J2 a A]
     by_cases hn:a≤n
     ·rw[if_pos hn];omega
     ·have l1:=lowA n (by omega)
      have l2:=lowB n (by omega)
      rw[if_neg hn];omega
  ·have hd:=h.pos (by omega)
   have ih:=A8u k (a :: A) B (d-1) (by simp only [List.length_cons]at *;omega) (h.out (by omega))
   refine⟨fun h0=>by omega,fun _=>?_⟩
   by_cases e:d=1
   ·obtain⟨R,r1,r2,r3,r4⟩:=ih.1 (by omega)
    refine⟨b,R,?_,by simp,r2,fun r hr=>?_,fun n=>?_⟩
    ·rw[sw,if_neg hab,if_pos e,show d-1=0 by omega,r1];rfl
    ·have:=r3 r hr
     refine⟨?_,this.1,this.2.1,by simp [this.2.2]⟩
     rcases List.mem_cons.1 this.2.1 with g | g
     ·omega
     ·have:=hA.1 _ g;omega
    ·rw[r4 n,J2 b B]
     by_cases hn:b≤n
     ·rw[if_pos hn];omega
     ·have:=lowB n (by omega);rw[if_neg hn];omega
   ·obtain⟨x,R,r1,r2,r3,r4,r5⟩:=ih.2 (by omega)
    refine⟨x,R,?_,by simp [r2],r3,fun r hr=>?_,fun n=>?_⟩
    ·rw[sw,if_neg hab,if_neg e,r1];rfl
    ·have:=r4 r hr;exact⟨this.1,this.2.1,this.2.2.1,by simp [this.2.2.2]⟩
    ·rw[r5 n,J2 b B]
     by_cases hn:b≤n
     ·rw[if_pos hn];omega
     ·have:=lowB n (by omega);have:=lowA n (by omega);rw[if_neg hn];omega
def B9a(l:List Run):List Int:=(L6 l).map fun r=>r.lo
def Ae5(l:List Run):List Int:=(L6 l).map fun r=>r.hi+1
def Bg1(l:List Run):List Int:=(B9a l).mergeSort leI
def Al5(l:List Run):List Int:=(Ae5 l).mergeSort leI
theorem A76(l:List Int):(l.mergeSort leI).Pairwise (fun x y=>x≤y):=by
 have:=List.pairwise_mergeSort Ae3 Ae4 l
 exact this.imp fun h=>by simpa [leI]using h
theorem At0(l:List Int)(n:Int):cntI (l.mergeSort leI) n=cntI l n:=(List.mergeSort_perm l leI).countP_eq _
theorem Ae6{α:Type}{p q:α→Bool}:∀ {l:List α},(∀ x∈l,p x=true→q x=true)→(l.countP p < l.countP q↔∃ x∈l,q x=true∧¬ p x=true)
 | [],_=>by simp
 | x :: l,h=>by
  have ih:=Ae6 (p:=p) (q:=q) (l:=l) fun y hy=>h y (by simp [hy])
  have hle:=List.countP_mono_left (l:=l) (p:=p) (q:=q) fun y hy=>h y (by simp [hy])
  have hx:=h x (by simp)
  rw[List.countP_cons,List.countP_cons]
  have ex:(∃ y∈x :: l,q y=true∧¬ p y=true)↔(q x=true∧¬ p x=true)∨∃ y∈l,q y=true∧¬ p y=true:=by simp
  rw[ex,← ih]
  by_cases h1:p x=true
  ·have h2:=hx h1
   rw[if_pos h1,if_pos h2]
   constructor
   ·intro g;exact .inr (by omega)
   ·rintro(g | g)
    ·exact absurd h1 g.2
    ·omega
  ·by_cases h2:q x=true
   ·rw[if_neg h1,if_pos h2]
    constructor
    ·intro _;exact .inl ⟨h2,h1⟩
    ·intro _;omega
   ·rw[if_neg h1,if_neg h2]
    constructor
    ·intro g;exact .inr (by omega)
    ·rintro(g | g)
     ·exact absurd g.1 h2
     ·omega
theorem Bg2(l:List Run)(n:Int):inR (L6 l) n↔1≤n∧n≤1000000000∧inR l n:=by
 constructor
 ·rintro⟨r,hr,h1,h2⟩
  unfold L6 at hr
  obtain⟨hr,_⟩:=List.mem_filter.1 hr
  obtain⟨x,hx,rfl⟩:=List.mem_map.1 hr
  simp only [E1]at h1 h2
  exact⟨by omega,by omega,x,hx,by omega,by omega⟩
 ·rintro⟨h1,h2,x,hx,h3,h4⟩
  refine⟨E1 x,?_,?_,?_⟩
  ·unfold L6
   refine List.mem_filter.2 ⟨List.mem_map.2 ⟨x,hx,rfl⟩,?_⟩
   show decide ((E1 x).lo≤(E1 x).hi)=true
   rw[decide_eq_true_iff]
   show max x.lo 1≤min x.hi 1000000000
   omega
  ·simp only [E1];omega
  ·simp only [E1];omega
theorem B34(l:List Run)(n:Int):cntI (Bg1 l) n=(L6 l).countP fun r=>decide (r.lo≤n):=by
 unfold Bg1 B9a
 rw[At0,cntI,List.countP_map]
 rfl
theorem At1(l:List Run)(n:Int):cntI (Al5 l) n=(L6 l).countP fun r=>decide (r.hi+1≤n):=by
 unfold Al5 Ae5
 rw[At0,cntI,List.countP_map]
 rfl
theorem At2(l:List Run):VW (Bg1 l) (Al5 l) 0:=by
 refine⟨A76 _,A76 _,?_,fun n=>?_⟩
 ·unfold Bg1 Al5 B9a Ae5
  rw[List.length_mergeSort,List.length_mergeSort]
  simp
 ·rw[B34,At1,Nat.zero_add]
  refine List.countP_mono_left fun r hr h=>?_
  have:=I5 r hr
  unfold A1y at this
  simp only [decide_eq_true_eq]at *
  omega
theorem B36(l:List Run):sw (Bg1 l) (Al5 l) 0=L3 (nrm l):=by
 obtain⟨R,r1,r2,r3,r4⟩:=(A8u _ _ _ _ rfl (At2 l)).1 rfl
 rw[r1]
 congr 1
 have bd:∀ r∈R,1≤r.lo∧r.hi≤1000000000:=fun r hr=>by
  obtain⟨_,h1,h2⟩:=r3 r hr
  have h1:=(List.mergeSort_perm _ _).subset h1
  have h2:=(List.mergeSort_perm _ _).subset h2
  obtain⟨x,hx,ex⟩:=List.mem_map.1 h1
  obtain⟨y,hy,ey⟩:=List.mem_map.1 h2
  have gx:=I5 x hx
  have gy:=I5 y hy
  unfold A1y okR at gx gy
  omega
 refine A0j ⟨r2,fun r hr=>?_⟩ (D3 l) fun n=>?_
 ·have:=bd r hr;have:=(r3 r hr).1;omega
 ·rw[r4 n,R0,B34,At1,← Bg2,Ae6 fun r hr h=>by
   have:=I5 r hr
   unfold A1y at this
   simp only [decide_eq_true_eq]at *
   omega]
  unfold inR
  constructor
  ·rintro⟨r,hr,h1,h2⟩
   simp only [decide_eq_true_eq]at h1 h2
   exact⟨r,hr,h1,by omega⟩
  ·rintro⟨r,hr,h1,h2⟩
   exact⟨r,hr,by simp only [decide_eq_true_eq];exact h1,by simp only [decide_eq_true_eq];omega⟩
end Go.Proofs.YtokhjapfekbobaaGreat
namespace Go.Proofs.YtokhjapfekbobaaGreat
open Go.E
set_option maxRecDepth 100000
set_option maxHeartbeats 4000000
def A62(lo hi:List Int):List Run:=List.zipWith (fun a b=>⟨a,b⟩) lo hi
def A5b(lo hi:List Int)(i:Int)(l:List Int):Prop:=l=B9a ((A62 lo hi).take i.toNat)
def A04(lo hi:List Int)(i:Int)(l:List Int):Prop:=l=Ae5 ((A62 lo hi).take i.toNat)
def B6u(lo hi:List Int)(i:Int)(a b:List Int):Prop:=0≤i∧i≤lo.length∧(a.length:Int)≤i∧(b.length:Int)=a.length∧A5b lo hi i a∧A04 lo hi i b
def decTa(lo:List Int)(i:Int)(a b:List Int):Nat:=(lo.length-i).toNat
def B6v(A B:List Int)(i j:Int)(t:List Int):Prop:=VW (A.drop i.toNat) (B.drop j.toNat) (i-j).toNat∧j≤i∧t++sw (A.drop i.toNat) (B.drop j.toNat) (i-j).toNat=sw A B 0
def Az9(A B:List Int)(d j i:Int)(t:List Int):Prop:=0≤i∧i≤A.length∧0≤j∧j≤B.length∧d=i-j∧(t.length:Int)≤i+j∧B6v A B i j t
def decTb(A B:List Int)(d j i:Int)(t:List Int):Nat:=(A.length+B.length-i-j).toNat
theorem A8v{A B:List Int}{i j:Int}{t:List Int}(h0:0≤i)(hi:i≤A.length)(j0:0≤j)(jl:j≤B.length)(h:B6v A B i j t):A.length=B.length:=by
 have:=h.1.len
 have:=h.2.1
 simp only [List.length_drop]at *
 omega
theorem B37{A B:List Int}{i j:Int}{t:List Int}(h0:0≤i)(hi:i < A.length)(j0:0≤j)(jl:j≤B.length)(hle:A[i.toNat]!≤B[j.toNat]!)(h:B6v A B i j t) :
  B6v A B (i+1) j (if i-j=0 then t++[A[i.toNat]!]else t):=by
 have hl:=A8v h0 (by omega) j0 jl h
 obtain⟨v,hji,e⟩:=h
 have hj:j < B.length:=by omega
 rw[O6 h0 hi,O6 j0 hj]at v e
 rw[sw,if_pos hle]at e
 refine⟨?_,by omega,?_⟩
 ·rw[O6 j0 hj,show(i+1-j).toNat=(i-j).toNat+1 by omega];exact v.in_ hle
 ·rw[← e,O6 j0 hj,show(i+1-j).toNat=(i-j).toNat+1 by omega]
  by_cases z:i-j=0
  ·rw[if_pos z,if_pos (show(i-j).toNat=0 by omega),List.append_assoc]
  ·rw[if_neg z,if_neg (show ¬(i-j).toNat=0 by omega)];rfl
theorem A8w{A B:List Int}{i j:Int}{t:List Int}(h0:0≤i)(hi:i≤A.length)(j0:0≤j)(jl:j≤B.length)(ho:i < A.length∨j < B.length)(hn:¬(i < A.length∧A[i.toNat]!≤B[j.toNat]!))(h:B6v A B i j t) :
  j < B.length∧j < i∧B6v A B i (j+1) (if i-j-1=0 then t++[B[j.toNat]!]else t):=by
 have hl:=A8v h0 hi j0 jl h
 obtain⟨v,hji,e⟩:=h
 have hj:j < B.length:=by omega
 rw[O6 j0 hj]at v e
 by_cases hA:i < A.length
 ·have hba:B[j.toNat]! < A[i.toNat]!:=by have:¬ A[i.toNat]!≤B[j.toNat]!:=fun k=>hn ⟨hA,k⟩;omega
  rw[O6 h0 hA]at v e
  have hp:=v.pos hba
  rw[sw,if_neg (by omega)]at e
  refine⟨hj,by omega,?_,by omega,?_⟩
  ·rw[O6 h0 hA,show(i-(j+1)).toNat=(i-j).toNat-1 by omega];exact v.out hba
  ·rw[← e,O6 h0 hA,show(i-(j+1)).toNat=(i-j).toNat-1 by omega]
   by_cases z:i-j-1=0
   ·rw[if_pos z,if_pos (show(i-j).toNat=1 by omega),List.append_assoc]
   ·rw[if_neg z,if_neg (show ¬(i-j).toNat=1 by omega)];rfl
 ·rw[List.drop_of_length_le (l:=A) (by omega)]at v e
  have hp:=v.end_
  rw[sw]at e
  refine⟨hj,by omega,?_,by omega,?_⟩
  ·rw[List.drop_of_length_le (l:=A) (by omega),show(i-(j+1)).toNat=(i-j).toNat-1 by omega];exact hp.2
  ·rw[← e,List.drop_of_length_le (l:=A) (by omega),show(i-(j+1)).toNat=(i-j).toNat-1 by omega]
   by_cases z:i-j-1=0
   ·rw[if_pos z,if_pos (show(i-j).toNat=1 by omega),List.append_assoc]
   ·rw[if_neg z,if_neg (show ¬(i-j).toNat=1 by omega)];rfl
theorem B6w{A B:List Int}{i j:Int}{t:List Int}(ho:¬(i < A.length∨j < B.length))(h:B6v A B i j t):t=sw A B 0:=by
 have e:=h.2.2
 rw[List.drop_of_length_le (by omega),List.drop_of_length_le (by omega),sw,List.append_nil]at e
 exact e
theorem Al6{lo hi:List Int}(h:lo.length=hi.length):(A62 lo hi).length=lo.length:=by
 unfold A62;rw[List.length_zipWith];omega
theorem At3{lo hi:List Int}{i:Int}(h:lo.length=hi.length)(h0:0≤i)(hi':i < lo.length):(A62 lo hi).take (i+1).toNat=(A62 lo hi).take i.toNat++[⟨lo[i.toNat]!,hi[i.toNat]!⟩]:=by
 rw[← D4 h0 (by rw[Al6 h];exact hi')]
 congr 2
 have:=Al6 h
 rw[getElem!_pos (A62 lo hi) i.toNat (by omega),getElem!_pos lo i.toNat (by omega),getElem!_pos hi i.toNat (by omega)]
 simp [A62]
theorem B38(a:List Run)(r:Run):B9a (a++[r])=B9a a++if(E1 r).lo≤(E1 r).hi then[(E1 r).lo]else[]:=by
 unfold B9a
 rw[A4r,A1z,List.map_append]
 split <;> rfl
theorem At4(a:List Run)(r:Run):Ae5 (a++[r])=Ae5 a++if(E1 r).lo≤(E1 r).hi then[(E1 r).hi+1]else[]:=by
 unfold Ae5
 rw[A4r,A1z,List.map_append]
 split <;> rfl
theorem B6x{lo hi:List Int}{i:Int}{a b:List Int}(h:lo.length=hi.length)(h0:0≤i)(hl:i < lo.length)(hc:max lo[i.toNat]! 1≤min hi[i.toNat]! 1000000000)(ha:A5b lo hi i a)(hb:A04 lo hi i b) :
  A5b lo hi (i+1) (a++[max lo[i.toNat]! 1])∧A04 lo hi (i+1) (b++[min hi[i.toNat]! 1000000000+1]):=by
 unfold A5b A04 at *
 have hc':(E1 ⟨lo[i.toNat]!,hi[i.toNat]!⟩).lo≤(E1 ⟨lo[i.toNat]!,hi[i.toNat]!⟩).hi:=hc
 rw[At3 h h0 hl,B38,At4,← ha,← hb,if_pos hc',if_pos hc']
 exact⟨rfl,rfl⟩
theorem B39{lo hi:List Int}{i:Int}{a b:List Int}(h:lo.length=hi.length)(h0:0≤i)(hl:i < lo.length)(hc:¬ max lo[i.toNat]! 1≤min hi[i.toNat]! 1000000000)(ha:A5b lo hi i a)(hb:A04 lo hi i b) :
  A5b lo hi (i+1) a∧A04 lo hi (i+1) b:=by
 unfold A5b A04 at *
 have hc':¬(E1 ⟨lo[i.toNat]!,hi[i.toNat]!⟩).lo≤(E1 ⟨lo[i.toNat]!,hi[i.toNat]!⟩).hi:=hc
 rw[At3 h h0 hl,B38,At4,← ha,← hb,if_neg hc',if_neg hc',List.append_nil,List.append_nil]
 exact⟨rfl,rfl⟩
theorem Ae7{lo hi:List Int}{i:Int}{a b:List Int}(h:lo.length=hi.length)(hl:¬ i < lo.length)(ha:A5b lo hi i a)(hb:A04 lo hi i b):a.mergeSort leI=Bg1 (A62 lo hi)∧b.mergeSort leI=Al5 (A62 lo hi):=by
 unfold A5b A04 at *
 have:=Al6 h
 rw[ha,hb,List.take_of_length_le (by omega)]
 exact⟨rfl,rfl⟩
theorem B00(l:List Run):B6v (Bg1 l) (Al5 l) 0 0 []:=⟨At2 l,by omega,by simp⟩
theorem con204(lo hi:List Int)(h:lo.length=hi.length)(hb:lo.length*16≤140737488351232):Con Tryz.prog 204 [.sl (lo.map c3),.sl (hi.map c3)] (.sl ((L3 (nrm (A62 lo hi))).map c3)) :=
 by
 refine lN 0 c3 (lo) Tryz.func204 fun hl_0=>lN 1 c3 (hi) Tryz.func204 fun hl_1=>sC A9 [.tmp 4] 98 Tryz.func204 ?_
 intro e0 cx
 refine sq<|rG cx [0,1] [] z0<|sn<|sq<|rG cx [0,1,5,6] [] z0<|sn<|sq<|sq<|rG cx [0,1,5,6,7] [] z0<|sn<|bL 0<|G3 5 1005 3 1 (σ':=⟨[(0,.sl (List.map c3 lo)),(1,.sl (List.map c3 hi)),(5,.own 1005 0),(6,.nl),(7,.i .i64 ((0:Int)))],[(1005,⟨0,3,.row 1 (List.map c3 [])⟩)]⟩) (by kernel_rfl)<|G3 6 1006 3 1 (σ':=⟨[(0,.sl (List.map c3 lo)),(1,.sl (List.map c3 hi)),(5,.own 1005 0),(6,.own 1006 0),(7,.i .i64 ((0:Int)))],[(1005,⟨0,3,.row 1 (List.map c3 [])⟩),(1006,⟨0,3,.row 1 (List.map c3 [])⟩)]⟩) (by kernel_rfl)<|sL (X:=Int×List Int×List Int) (fun x=>⟨[(0,.sl (List.map c3 lo)),(1,.sl (List.map c3 hi)),(5,.own 1005 0),(6,.own 1006 0),(7,.i .i64 (x.1))],[(1005,⟨0,3,.row 1 (List.map c3 x.2.1)⟩),(1006,⟨0,3,.row 1 (List.map c3 x.2.2)⟩)]⟩) (fun x ↦ decTa lo x.1 x.2.1 x.2.2) (fun x ↦ B6u lo hi x.1 x.2.1 x.2.2) [0,1,5,6,7] [1005,1006] (((0:Int),[],[])) (show B6u lo hi (0:Int) [] []from ?g0) ?_;rotate_left
 rintro⟨i0,a1,b2⟩ h_3
 obtain⟨hh4,hh5,hh6,hh7,h8,h9⟩:0≤i0∧i0≤(↑lo.length:Int)∧(↑a1.length:Int)≤i0∧(↑b2.length:Int)=(↑a1.length:Int)∧A5b lo hi i0 a1∧A04 lo hi i0 b2:=h_3
 refine sq<|rD cx [0,1,5,6,7,17] [1005,1006] (tL 2 c3 lo (zB 3 (i0 <(↑lo.length:Int)))) (fun h10=>?_) fun h10=>?_
 refine sK<|sn<|sq<|bL 1<|sq<|rA cx [0,1,5,6,7,8,9] [1005,1006] (fA (0≤i0) (fG c3 lo i0.toNat (fR 1 (tT 4 (A3v:AV.i .i64 (if(1:Int) > lo[i0.toNat]! then(1:Int)else lo[i0.toNat]!)=AV.i .i64 (max lo[i0.toNat]! (1:Int))) (fA (0≤i0) (fG c3 hi i0.toNat (fR 1 (tT 9 (A3w:AV.i .i64 (if(1000000000:Int) < hi[i0.toNat]! then(1000000000:Int)else hi[i0.toNat]!)=AV.i .i64 (min hi[i0.toNat]! (1000000000:Int))) (oR 2 (c3 lo[i0.toNat]!) (oR 7 (c3 hi[i0.toNat]!) z0))))))))))<|sn<|rD cx [0,1,5,6,7,8,9,32] [1005,1006] (zB 2 (max lo[i0.toNat]! 1≤min hi[i0.toNat]! (1000000000:Int))) (fun h11=>?_) fun h11=>?_
 refine sq<|rG cx [0,1,5,6,7,9] [1005,1006] (fR 3 (fR 1 (fR 1 (fX c3 [max lo[i0.toNat]! (1:Int)] 1 (fS c3 a1 c3 [max lo[i0.toNat]! (1:Int)] (fP (((List.map c3 a1).length+(List.map c3 [max lo[i0.toNat]! (1:Int)]).length)*(8:Nat)≤(140737488355328:Nat)) (by(simp only [Go.maxLen,List.length_map,List.length_append,List.length_cons,List.length_nil];omega)) (fM c3 a1 [max lo[i0.toNat]! (1:Int)] (oV 3 { rows:=some (List.map c3 (a1++[max lo[i0.toNat]! (1:Int)])) } z0))))))))<|sn<|rG cx [0,1,5,6,7] [1005,1006] (tW 2 (min hi[i0.toNat]! (1000000000:Int)+(1:Int)) (fR 3 (fR 1 (fR 1 (fX c3 [min hi[i0.toNat]! (1000000000:Int)+(1:Int)] 1 (fS c3 b2 c3 [min hi[i0.toNat]! (1000000000:Int)+(1:Int)] (fP (((List.map c3 b2).length+(List.map c3 [min hi[i0.toNat]! (1000000000:Int)+(1:Int)]).length)*(8:Nat)≤(140737488355328:Nat)) (by(simp only [Go.maxLen,List.length_map,List.length_append,List.length_cons,List.length_nil];omega)) (fM c3 b2 [min hi[i0.toNat]! (1000000000:Int)+(1:Int)] (oV 4 { rows:=some (List.map c3 (b2++[min hi[i0.toNat]! (1000000000:Int)+(1:Int)])) } z0)))))))))<|bN<|sn<|rG cx [0,1,5,6,7] [1005,1006] (tW 1 (i0+1) z0)<|sn<|nX ((i0+1,a1++[max lo[i0.toNat]! (1:Int)],b2++[min hi[i0.toNat]! (1000000000:Int)+(1:Int)])) (show((↑lo.length:Int)-(i0+1)).toNat <((↑lo.length:Int)-i0).toNat from(by omega)) (show B6u lo hi (i0+1) (a1++[max lo[i0.toNat]! (1:Int)]) (b2++[min hi[i0.toNat]! (1000000000:Int)+(1:Int)])from ?g1);rotate_left
 refine sK<|bN<|sn<|rG cx [0,1,5,6,7] [1005,1006] (tW 1 (i0+1) z0)<|sn<|nX ((i0+1,a1,b2)) (show((↑lo.length:Int)-(i0+1)).toNat <((↑lo.length:Int)-i0).toNat from(by omega)) (show B6u lo hi (i0+1) a1 b2 from ?g2);rotate_left
 refine eX 0<|nE<|nE<|bH<|sn<|sq<|rG cx [5,6] [1006] (fT (B99 (a1) (by omega)) (oA 1 (.sl (List.map c3 (a1.mergeSort leI))) z0))<|sn<|sq<|rG cx [5,6] [] (fT (B99 (b2) (by omega)) (oA 1 (.sl (List.map c3 (b2.mergeSort leI))) z0))<|sn<|sq<|rG cx [5,6,10] [] z0<|sn<|sq<|rG cx [5,6,10,11,12] [] z0<|sn<|sq<|sq<|rG cx [5,6,10,11,12,13] [] z0<|sn<|bL 2<|G3 10 1010 3 1 (σ':=⟨[(5,.sl (List.map c3 (a1.mergeSort leI))),(6,.sl (List.map c3 (b2.mergeSort leI))),(10,.own 1010 0),(11,.i .i64 ((0:Int))),(12,.i .i64 ((0:Int))),(13,.i .i64 ((0:Int)))],[(1010,⟨0,3,.row 1 (List.map c3 [])⟩)]⟩) (by kernel_rfl)<|sL (X:=Int×Int×Int×List Int) (fun x=>⟨[(5,.sl (List.map c3 (a1.mergeSort leI))),(6,.sl (List.map c3 (b2.mergeSort leI))),(10,.own 1010 0),(11,.i .i64 (x.1)),(12,.i .i64 (x.2.1)),(13,.i .i64 (x.2.2.1))],[(1010,⟨0,3,.row 1 (List.map c3 x.2.2.2)⟩)]⟩) (fun x ↦ decTb (a1.mergeSort leI) (b2.mergeSort leI) x.1 x.2.1 x.2.2.1 x.2.2.2) (fun x ↦ Az9 (a1.mergeSort leI) (b2.mergeSort leI) x.1 x.2.1 x.2.2.1 x.2.2.2) [5,6,10,11,12,13] [1010] (((0:Int),(0:Int),(0:Int),[])) (show Az9 (a1.mergeSort leI) (b2.mergeSort leI) (0:Int) (0:Int) (0:Int) []from ?g3) ?_;rotate_left
 rintro⟨d12,j13,i14,t15⟩ h_16
 obtain⟨h17,h18,h19,h20,h21,h22,h23⟩:0≤i14∧i14≤(↑(a1.mergeSort leI).length:Int)∧0≤j13∧j13≤(↑(b2.mergeSort leI).length:Int)∧d12=i14-j13∧(↑t15.length:Int)≤i14+j13∧B6v (a1.mergeSort leI) (b2.mergeSort leI) i14 j13 t15:=h_16
 refine sq<|sq<|B4 (σ':=⟨[(5,.sl (List.map c3 (a1.mergeSort leI))),(6,.sl (List.map c3 (b2.mergeSort leI))),(10,.own 1010 0),(11,.i .i64 (d12)),(12,.i .i64 (j13)),(13,.i .i64 (i14)),(55,.b (decide (i14 <(↑(a1.mergeSort leI).length:Int)∨j13 <(↑(b2.mergeSort leI).length:Int))))],[(1010,⟨0,3,.row 1 (List.map c3 t15)⟩)]⟩) ?_ ?_
 refine A4 (i14 <(↑(a1.mergeSort leI).length:Int)) (fun h_25=>?_) (fun h_25=>?_)
 refine rG cx [5,6,10,11,12,13,55] [1010] (tL 2 c3 (a1.mergeSort leI) (tT 3 (A6 h_25) (tD 9 true (i14 <(↑(a1.mergeSort leI).length:Int)∨j13 <(↑(b2.mergeSort leI).length:Int)) (by simp only [eq_true h_25,tsl]) z0))) ?_
 exact⟨rfl,by kernel_rfl⟩
 refine rG cx [5,6,10,11,12,13,55] [1010] (tL 2 c3 (a1.mergeSort leI) (tT 3 (A0 h_25) (tL 7 c3 (b2.mergeSort leI) (tB 8 (j13 <(↑(b2.mergeSort leI).length:Int)) (tD 9 (decide (j13 <(↑(b2.mergeSort leI).length:Int))) (i14 <(↑(a1.mergeSort leI).length:Int)∨j13 <(↑(b2.mergeSort leI).length:Int)) (by simp only [eq_false h_25,tsl]) z0))))) ?_
 exact⟨rfl,by kernel_rfl⟩
 refine sn<|dC (i14 <(↑(a1.mergeSort leI).length:Int)∨j13 <(↑(b2.mergeSort leI).length:Int)) (fun h26=>?_) fun h26=>?_
 refine sK<|sn<|bL 3<|sq<|B4 (σ':=⟨[(5,.sl (List.map c3 (a1.mergeSort leI))),(6,.sl (List.map c3 (b2.mergeSort leI))),(10,.own 1010 0),(11,.i .i64 (d12)),(12,.i .i64 (j13)),(13,.i .i64 (i14)),(70,.b (decide (i14 <(↑(a1.mergeSort leI).length:Int)∧(a1.mergeSort leI)[i14.toNat]!≤(b2.mergeSort leI)[j13.toNat]!)))],[(1010,⟨0,3,.row 1 (List.map c3 t15)⟩)]⟩) ?_ ?_
 refine A4 (i14 <(↑(a1.mergeSort leI).length:Int)) (fun h28=>?_) (fun h28=>?_)
 refine rA cx [5,6,10,11,12,13,70] [1010] (tL 2 c3 (a1.mergeSort leI) (tT 3 (A6 h28) (fA (0≤i14) (fG c3 (a1.mergeSort leI) i14.toNat (fR 1 (fA (0≤j13) (fP ((List.map c3 (b2.mergeSort leI))[j13.toNat]?=some (c3 (b2.mergeSort leI)[j13.toNat]!)) ?g4 (fR 1 (tB 13 ((a1.mergeSort leI)[i14.toNat]!≤(b2.mergeSort leI)[j13.toNat]!) (tD 14 (decide ((a1.mergeSort leI)[i14.toNat]!≤(b2.mergeSort leI)[j13.toNat]!)) (i14 <(↑(a1.mergeSort leI).length:Int)∧(a1.mergeSort leI)[i14.toNat]!≤(b2.mergeSort leI)[j13.toNat]!) (by simp only [eq_true h28,tsl]) (oR 7 (c3 (a1.mergeSort leI)[i14.toNat]!) (oR 11 (c3 (b2.mergeSort leI)[j13.toNat]!) z0)))))))))))) ?_;rotate_left
 exact⟨rfl,by kernel_rfl⟩
 refine rA cx [5,6,10,11,12,13,70] [1010] (tL 2 c3 (a1.mergeSort leI) (tT 3 (A0 h28) (tD 14 false (i14 <(↑(a1.mergeSort leI).length:Int)∧(a1.mergeSort leI)[i14.toNat]!≤(b2.mergeSort leI)[j13.toNat]!) (by simp only [eq_false h28,tsl]) z0))) ?_
 exact⟨rfl,by kernel_rfl⟩
 refine sn<|dC (i14 <(↑(a1.mergeSort leI).length:Int)∧(a1.mergeSort leI)[i14.toNat]!≤(b2.mergeSort leI)[j13.toNat]!) (fun h29=>?_) fun h29=>?_
 refine sq<|rD cx [5,6,10,11,12,13,72] [1010] (zB 1 (d12=0)) (fun h30=>?_) fun h30=>?_
 refine rG cx [5,6,10,11,12,13] [1010] (fA (0≤i14) (fG c3 (a1.mergeSort leI) i14.toNat (fR 1 (fR 3 (fR 1 (fR 1 (fX c3 [(a1.mergeSort leI)[i14.toNat]!] 1 (fP ((List.map c3 t15).length+(List.map c3 [(a1.mergeSort leI)[i14.toNat]!]).length≤maxLen) ?g5 (fP (((List.map c3 t15).length+(List.map c3 [(a1.mergeSort leI)[i14.toNat]!]).length)*(8:Nat)≤(140737488355328:Nat)) ?g6 (fM c3 t15 [(a1.mergeSort leI)[i14.toNat]!] (oR 3 (c3 (a1.mergeSort leI)[i14.toNat]!) (oV 6 { rows:=some (List.map c3 (t15++[(a1.mergeSort leI)[i14.toNat]!])) } z0)))))))))))) ?_;rotate_left 2
 refine sn<|sq<|rG cx [5,6,10,11,12,13] [1010] (tW 1 (d12+1) z0)<|sn<|rG cx [5,6,10,11,12,13] [1010] (tT 1 (B5 (by omega) ?g7:AV.i .i64 (IntKind.i64.wrap (i14+1))=AV.i .i64 (i14+1)) z0) ?_;rotate_left
 refine bN<|sn<|nX ((d12+1,j13,i14+1,t15++[(a1.mergeSort leI)[i14.toNat]!])) (show((↑(a1.mergeSort leI).length:Int)+(↑(b2.mergeSort leI).length:Int)-(i14+1)-j13).toNat <((↑(a1.mergeSort leI).length:Int)+(↑(b2.mergeSort leI).length:Int)-i14-j13).toNat from(by omega)) (show Az9 (a1.mergeSort leI) (b2.mergeSort leI) (d12+1) j13 (i14+1) (t15++[(a1.mergeSort leI)[i14.toNat]!])from ?g8);rotate_left
 refine sK<|sn<|sq<|rG cx [5,6,10,11,12,13] [1010] (tT 1 (B5 ?g9 ?g10:AV.i .i64 (IntKind.i64.wrap (d12+1))=AV.i .i64 (d12+1)) z0) ?_;rotate_left 2
 refine sn<|rG cx [5,6,10,11,12,13] [1010] (tT 1 (B5 (by omega) ?g11:AV.i .i64 (IntKind.i64.wrap (i14+1))=AV.i .i64 (i14+1)) z0) ?_;rotate_left
 refine bN<|sn<|nX ((d12+1,j13,i14+1,t15)) (show((↑(a1.mergeSort leI).length:Int)+(↑(b2.mergeSort leI).length:Int)-(i14+1)-j13).toNat <((↑(a1.mergeSort leI).length:Int)+(↑(b2.mergeSort leI).length:Int)-i14-j13).toNat from(by omega)) (show Az9 (a1.mergeSort leI) (b2.mergeSort leI) (d12+1) j13 (i14+1) t15 from ?g12);rotate_left
 refine sq<|rG cx [5,6,10,11,12,13] [1010] (tT 1 (B5 ?g13 ?g14:AV.i .i64 (IntKind.i64.wrap (d12-1))=AV.i .i64 (d12-1)) z0) ?_;rotate_left 2
 refine sn<|sq<|rD cx [5,6,10,11,12,13,87] [1010] (zB 1 (d12-1=(0:Int))) (fun h31=>?_) fun h31=>?_
 refine rG cx [5,6,10,11,12,13] [1010] (fA (0≤j13) (fP ((List.map c3 (b2.mergeSort leI))[j13.toNat]?=some (c3 (b2.mergeSort leI)[j13.toNat]!)) ?g15 (fR 1 (fR 3 (fR 1 (fR 1 (fX c3 [(b2.mergeSort leI)[j13.toNat]!] 1 (fP ((List.map c3 t15).length+(List.map c3 [(b2.mergeSort leI)[j13.toNat]!]).length≤maxLen) ?g16 (fP (((List.map c3 t15).length+(List.map c3 [(b2.mergeSort leI)[j13.toNat]!]).length)*(8:Nat)≤(140737488355328:Nat)) ?g17 (fM c3 t15 [(b2.mergeSort leI)[j13.toNat]!] (oR 3 (c3 (b2.mergeSort leI)[j13.toNat]!) (oV 6 { rows:=some (List.map c3 (t15++[(b2.mergeSort leI)[j13.toNat]!])) } z0)))))))))))) ?_;rotate_left 3
 refine sn<|rG cx [5,6,10,11,12,13] [1010] (tT 1 (B5 (by omega) ?g18:AV.i .i64 (IntKind.i64.wrap (j13+1))=AV.i .i64 (j13+1)) z0) ?_;rotate_left
 refine bN<|sn<|nX ((d12-1,j13+1,i14,t15++[(b2.mergeSort leI)[j13.toNat]!])) (show((↑(a1.mergeSort leI).length:Int)+(↑(b2.mergeSort leI).length:Int)-i14-(j13+1)).toNat <((↑(a1.mergeSort leI).length:Int)+(↑(b2.mergeSort leI).length:Int)-i14-j13).toNat from(by omega)) (show Az9 (a1.mergeSort leI) (b2.mergeSort leI) (d12-1) (j13+1) i14 (t15++[(b2.mergeSort leI)[j13.toNat]!])from ?g19);rotate_left
 refine sK<|sn<|rG cx [5,6,10,11,12,13] [1010] (tT 1 (B5 (by omega) ?g20:AV.i .i64 (IntKind.i64.wrap (j13+1))=AV.i .i64 (j13+1)) z0) ?_;rotate_left
 refine bN<|sn<|nX ((d12-1,j13+1,i14,t15)) (show((↑(a1.mergeSort leI).length:Int)+(↑(b2.mergeSort leI).length:Int)-i14-(j13+1)).toNat <((↑(a1.mergeSort leI).length:Int)+(↑(b2.mergeSort leI).length:Int)-i14-j13).toNat from(by omega)) (show Az9 (a1.mergeSort leI) (b2.mergeSort leI) (d12-1) (j13+1) i14 t15 from ?g21);rotate_left
 refine eX 2<|nE<|nE<|bH<|sn<|sq<|rG cx [4] [1010] z0<|sn<|rT<|qR (.sl (List.map c3 t15)) (.eq ?g22);rotate_left
 rotate_left
 revert i0 a1 b2 hh4 hh5 hh6 hh7 h8 h9 h10 h11;rotate_left
 revert i0 a1 b2 hh4 hh5 hh6 hh7 h8 h9 h10 h11;rotate_left
 revert i0 a1 b2 hh4 hh5 hh6 hh7 h8 h9 h10;rotate_left
 revert i0 a1 b2 hh4 hh5 hh6 hh7 h8 h9 h10 d12 j13 i14 t15 h17 h18 h19 h20 h21 h22 h23 h26 h28;rotate_left
 revert i0 a1 b2 hh4 hh5 hh6 hh7 h8 h9 h10 d12 j13 i14 t15 h17 h18 h19 h20 h21 h22 h23 h26 h29 h30;rotate_left
 revert i0 a1 b2 hh4 hh5 hh6 hh7 h8 h9 h10 d12 j13 i14 t15 h17 h18 h19 h20 h21 h22 h23 h26 h29 h30;rotate_left
 revert i0 a1 b2 hh4 hh5 hh6 hh7 h8 h9 h10 d12 j13 i14 t15 h17 h18 h19 h20 h21 h22 h23 h26 h29 h30;rotate_left
 revert i0 a1 b2 hh4 hh5 hh6 hh7 h8 h9 h10 d12 j13 i14 t15 h17 h18 h19 h20 h21 h22 h23 h26 h29 h30;rotate_left
 revert i0 a1 b2 hh4 hh5 hh6 hh7 h8 h9 h10 d12 j13 i14 t15 h17 h18 h19 h20 h21 h22 h23 h26 h29 h30;rotate_left
 revert i0 a1 b2 hh4 hh5 hh6 hh7 h8 h9 h10 d12 j13 i14 t15 h17 h18 h19 h20 h21 h22 h23 h26 h29 h30;rotate_left
 revert i0 a1 b2 hh4 hh5 hh6 hh7 h8 h9 h10 d12 j13 i14 t15 h17 h18 h19 h20 h21 h22 h23 h26 h29 h30;rotate_left
 revert i0 a1 b2 hh4 hh5 hh6 hh7 h8 h9 h10 d12 j13 i14 t15 h17 h18 h19 h20 h21 h22 h23 h26 h29 h30;rotate_left
 revert i0 a1 b2 hh4 hh5 hh6 hh7 h8 h9 h10 d12 j13 i14 t15 h17 h18 h19 h20 h21 h22 h23 h26 h29;rotate_left
 revert i0 a1 b2 hh4 hh5 hh6 hh7 h8 h9 h10 d12 j13 i14 t15 h17 h18 h19 h20 h21 h22 h23 h26 h29;rotate_left
 revert i0 a1 b2 hh4 hh5 hh6 hh7 h8 h9 h10 d12 j13 i14 t15 h17 h18 h19 h20 h21 h22 h23 h26 h29 h31;rotate_left
 revert i0 a1 b2 hh4 hh5 hh6 hh7 h8 h9 h10 d12 j13 i14 t15 h17 h18 h19 h20 h21 h22 h23 h26 h29 h31;rotate_left
 revert i0 a1 b2 hh4 hh5 hh6 hh7 h8 h9 h10 d12 j13 i14 t15 h17 h18 h19 h20 h21 h22 h23 h26 h29 h31;rotate_left
 revert i0 a1 b2 hh4 hh5 hh6 hh7 h8 h9 h10 d12 j13 i14 t15 h17 h18 h19 h20 h21 h22 h23 h26 h29 h31;rotate_left
 revert i0 a1 b2 hh4 hh5 hh6 hh7 h8 h9 h10 d12 j13 i14 t15 h17 h18 h19 h20 h21 h22 h23 h26 h29 h31;rotate_left
 revert i0 a1 b2 hh4 hh5 hh6 hh7 h8 h9 h10 d12 j13 i14 t15 h17 h18 h19 h20 h21 h22 h23 h26 h29 h31;rotate_left
 revert i0 a1 b2 hh4 hh5 hh6 hh7 h8 h9 h10 d12 j13 i14 t15 h17 h18 h19 h20 h21 h22 h23 h26 h29 h31;rotate_left
 revert i0 a1 b2 hh4 hh5 hh6 hh7 h8 h9 h10 d12 j13 i14 t15 h17 h18 h19 h20 h21 h22 h23 h26;rotate_left
 case g0=>exact⟨by omega,by omega,by simp,by simp,by simp [A5b,B9a,L6],by simp [A04,Ae5,L6]⟩
 case g1=>intro i a b h0 h1 h2 h3 h4 h5 h6 h7;have:=B6x h h0 h6 h7 h4 h5;exact⟨by omega,by omega,by simp only [List.length_append,List.length_cons,List.length_nil];omega,by simp only [List.length_append,List.length_cons,List.length_nil];omega,this.1,this.2⟩
 case g2=>intro i a b h0 h1 h2 h3 h4 h5 h6 h7;have:=B39 h h0 h6 h7 h4 h5;exact⟨by omega,by omega,by omega,by omega,this.1,this.2⟩
 case g3=>intro i a b h0 h1 h2 h3 h4 h5 h6;obtain⟨e1,e2⟩:=Ae7 h h6 h4 h5;rw[e1,e2];exact⟨by omega,by omega,by omega,by omega,by omega,by simp,B00 _⟩
 case g4=>intro i a b h0 h1 h2 h3 h4 h5 h6 d j k t k0 k1 k2 k3 k4 k5 k6 k7 k8;have:=A8v k0 k1 k2 k3 k6;have:=k6.2.1;exact H6 (by omega)
 case g8 =>
  intro i a b h0 h1 h2 h3 h4 h5 h6 d j k t k0 k1 k2 k3 k4 k5 k6 k7 k8 k9
  have:=B37 k0 k8.1 k2 k3 k8.2 k6
  rw[if_pos (by omega)]at this
  exact⟨by omega,by omega,by omega,by omega,by omega,by simp only [List.length_append,List.length_cons,List.length_nil];omega,this⟩
 case g12 =>
  intro i a b h0 h1 h2 h3 h4 h5 h6 d j k t k0 k1 k2 k3 k4 k5 k6 k7 k8 k9
  have:=B37 k0 k8.1 k2 k3 k8.2 k6
  rw[if_neg (by omega)]at this
  exact⟨by omega,by omega,by omega,by omega,by omega,by omega,this⟩
 case g15=>intro i a b h0 h1 h2 h3 h4 h5 h6 d j k t k0 k1 k2 k3 k4 k5 k6 k7 k8 k9;have:=A8w k0 k1 k2 k3 k7 k8 k6;exact H6 (by omega)
 case g19 =>
  intro i a b h0 h1 h2 h3 h4 h5 h6 d j k t k0 k1 k2 k3 k4 k5 k6 k7 k8 k9
  obtain⟨q1,q2,this⟩:=A8w k0 k1 k2 k3 k7 k8 k6
  rw[if_pos (by omega)]at this
  exact⟨by omega,by omega,by omega,by omega,by omega,by simp only [List.length_append,List.length_cons,List.length_nil];omega,this⟩
 case g21 =>
  intro i a b h0 h1 h2 h3 h4 h5 h6 d j k t k0 k1 k2 k3 k4 k5 k6 k7 k8 k9
  obtain⟨q1,q2,this⟩:=A8w k0 k1 k2 k3 k7 k8 k6
  rw[if_neg (by omega)]at this
  exact⟨by omega,by omega,by omega,by omega,by omega,by omega,this⟩
 case g22 =>
  intro i a b h0 h1 h2 h3 h4 h5 h6 d j k t k0 k1 k2 k3 k4 k5 k6 k7
  obtain⟨e1,e2⟩:=Ae7 h h6 h4 h5
  rw[e1,e2]at k6 k7
  rw[B6w k7 k6,B36]
 all_goals
  intros
  simp only [List.length_mergeSort,List.length_map,List.length_cons,List.length_nil,Go.maxLen]at *
  omega
end Go.Proofs.YtokhjapfekbobaaGreat
namespace Go.Proofs.YtokhjapfekbobaaGreat
open Go.E
set_option maxRecDepth 100000
set_option maxHeartbeats 4000000
def c177(s:Nat→List Int):List AV:=F2 c3 16 s
def tnS(U:Nat→List Run)(r:Nat):List Int:=L3 (U r)
def zT(A B:Nat→List Int)(r:Nat):List Run:=A62 (A r) (B r)
def A8x(A B:Nat→List Int):Prop:=∀ r:Nat,r < 16→(A r).length=(B r).length
def Bg3(ps:List Past)(i:Int)(A B:Nat→List Int):Prop:=0≤i∧i≤ps.length∧A8x A B∧A6y ps i (zT A B)
def decMa(ps:List Past)(i:Int)(A B:Nat→List Int):Nat:=(ps.length-i).toNat
def Bg4(ps:List Past)(i j:Int)(A B:Nat→List Int):Prop:=0≤j∧j≤(ps[i.toNat]!).vec.length∧j≤16∧A8x A B∧Y1 ps i j (zT A B)
def decMb(ps:List Past)(i j:Int)(A B:Nat→List Int):Nat:=((ps[i.toNat]!).vec.length-j).toNat
def B6y(ps:List Past)(i j:Int)(A B:Nat→List Int):Prop:=0≤j∧j≤(ps[i.toNat]!).cloud.length∧A8x A B∧R1 ps i j (zT A B)
def decMc(ps:List Past)(i j:Int)(A B:Nat→List Int):Nat:=((ps[i.toNat]!).cloud.length-j).toNat
def At5(U:Nat→List Run)(r:Int)(S:Nat→List Int):Prop:=∀ k:Nat,(k:Int) < r→S k=tnS (E5 U) k
def Bg5(A2 B2:Nat→List Int)(r:Int)(A B S:Nat→List Int):Prop:=A=A2∧B=B2∧0≤r∧r≤16∧At5 (zT A2 B2) r S
def decMd(r:Int)(A B S:Nat→List Int):Nat:=(16-r).toNat
theorem B9b{A B:Nat→List Int}{k:Nat}{x y:Int}(h:(A k).length=(B k).length)(r:Nat):zT (L5 A k (A k++[x])) (L5 B k (B k++[y])) r=L5 (zT A B) k (zT A B k++[⟨x,y⟩]) r:=by
 unfold zT L5
 by_cases e:r=k
 ·rw[if_pos e,if_pos e,if_pos e]
  unfold A62
  rw[List.zipWith_append h]
  rfl
 ·rw[if_neg e,if_neg e,if_neg e]
theorem Ae8{A B:Nat→List Int}{k:Nat}{x y:Int}(h:A8x A B):A8x (L5 A k (A k++[x])) (L5 B k (B k++[y])):=by
 intro r hr
 have:=h r hr
 unfold L5
 by_cases e:r=k
 ·rw[if_pos e,if_pos e,List.length_append,List.length_append];subst e;simp only [List.length_cons,List.length_nil];omega
 ·rw[if_neg e,if_neg e];exact this
theorem B3a{A B:Nat→List Int}(h:A8x A B){r:Nat}(hr:r < 16):(A r).length=(zT A B r).length∧(B r).length=(zT A B r).length:=by
 have:=h r hr
 unfold zT A62
 rw[List.length_zipWith]
 omega
theorem Al7{U:Nat→List Run}{r:Int}{S:Nat→List Int}(h0:0≤r)(h:At5 U r S):At5 U (r+1) (L5 S r.toNat (tnS (E5 U) r.toNat)):=by
 intro k hk
 unfold L5
 by_cases e:k=r.toNat
 ·rw[if_pos e,e]
 ·rw[if_neg e];exact h k (by omega)
theorem con178 (ps : List Past) (hb : A0l ps * 16 ≤ 140737488351232) : Con Tryz.prog 178 [.sl (ps.map c26)] (.agg (c177 (tnS (E5 (A7 ps))))) :=
  by
  refine lN 0 c26 (ps) Tryz.func178 fun hl_0=>sC A9 [.cell 2 177] 116 Tryz.func178 ?_
  intro e0 cx
  refine sq<|rG cx [0,2] [2] z0<|sn<|sq<|rG cx [0,2,3,4] [2,3,4] z0<|sn<|sq<|sq<|rG cx [0,2,3,4,5] [2,3,4] z0<|sn<|bL 0<|A1v 3 3 1 100300 16 (σ':=⟨[(0,.sl (List.map c26 ps)),(2,.ptr (2) (0) (0) (0)),(3,.ptr (3) (0) (0) (0)),(4,.ptr (4) (0) (0) (0)),(5,.i .i64 ((0:Int)))],[(2,⟨0,177,.var [.nl,.nl,.nl,.nl,.nl,.nl,.nl,.nl,.nl,.nl,.nl,.nl,.nl,.nl,.nl,.nl]⟩),(3,⟨0,175,.var (G5 100300 16)⟩),(4,⟨0,175,.arr [.nl,.nl,.nl,.nl,.nl,.nl,.nl,.nl,.nl,.nl,.nl,.nl,.nl,.nl,.nl,.nl]⟩)]++C4 100300 3 1 16 (c3) (fun x ↦ [])⟩) (by kernel_rfl)<|A1v 4 3 1 100400 16 (σ':=⟨[(0,.sl (List.map c26 ps)),(2,.ptr (2) (0) (0) (0)),(3,.ptr (3) (0) (0) (0)),(4,.ptr (4) (0) (0) (0)),(5,.i .i64 ((0:Int)))],[(2,⟨0,177,.var [.nl,.nl,.nl,.nl,.nl,.nl,.nl,.nl,.nl,.nl,.nl,.nl,.nl,.nl,.nl,.nl]⟩),(3,⟨0,175,.var (G5 100300 16)⟩),(4,⟨0,175,.var (G5 100400 16)⟩)]++C4 100300 3 1 16 (c3) (fun x ↦ [])++C4 100400 3 1 16 (c3) (fun x ↦ [])⟩) (by kernel_rfl)<|sL (X:=Int×(Nat→List Int)×(Nat→List Int)) (fun x=>⟨[(0,.sl (List.map c26 ps)),(2,.ptr (2) (0) (0) (0)),(3,.ptr (3) (0) (0) (0)),(4,.ptr (4) (0) (0) (0)),(5,.i .i64 (x.1))],[(2,⟨0,177,.var [.nl,.nl,.nl,.nl,.nl,.nl,.nl,.nl,.nl,.nl,.nl,.nl,.nl,.nl,.nl,.nl]⟩),(3,⟨0,175,.var (G5 100300 16)⟩),(4,⟨0,175,.var (G5 100400 16)⟩)]++C4 100300 3 1 16 (c3) (x.2.1)++C4 100400 3 1 16 (c3) (x.2.2)⟩) (fun x ↦ decMa ps x.1 x.2.1 x.2.2) (fun x ↦ Bg3 ps x.1 x.2.1 x.2.2) [0,2,3,4,5] ([2,3,4]++List.range' 100300 16++List.range' 100400 16) (((0:Int),fun x ↦ [],fun x ↦ [])) (show Bg3 ps (0:Int) (fun x ↦ []) fun x ↦ []from ?g0) ?_;rotate_left
  rintro⟨i0,A1,B2⟩ h_3
  obtain⟨hh4,hh5,h6,h7⟩:0≤i0∧i0≤(↑ps.length:Int)∧A8x A1 B2∧A6y ps i0 (zT A1 B2):=h_3
  refine sq<|rD cx [0,2,3,4,5,14] ([2,3,4]++List.range' 100300 16++List.range' 100400 16) (tL 2 c26 ps (zB 3 (i0 <(↑ps.length:Int)))) (fun h8=>?_) fun h8=>?_
  refine sK<|sn<|sq<|bL 1<|sq<|sq<|rG cx [0,2,3,4,5,6] ([2,3,4]++List.range' 100300 16++List.range' 100400 16) z0<|sn<|bL 2<|sL (X:=Int×(Nat→List Int)×(Nat→List Int)) (fun x=>⟨[(0,.sl (List.map c26 ps)),(2,.ptr (2) (0) (0) (0)),(3,.ptr (3) (0) (0) (0)),(4,.ptr (4) (0) (0) (0)),(5,.i .i64 (i0)),(6,.i .i64 (x.1))],[(2,⟨0,177,.var [.nl,.nl,.nl,.nl,.nl,.nl,.nl,.nl,.nl,.nl,.nl,.nl,.nl,.nl,.nl,.nl]⟩),(3,⟨0,175,.var (G5 100300 16)⟩),(4,⟨0,175,.var (G5 100400 16)⟩)]++C4 100300 3 1 16 (c3) (x.2.1)++C4 100400 3 1 16 (c3) (x.2.2)⟩) (fun x ↦ decMb ps i0 x.1 x.2.1 x.2.2) (fun x ↦ Bg4 ps i0 x.1 x.2.1 x.2.2) [0,2,3,4,5,6] ([2,3,4]++List.range' 100300 16++List.range' 100400 16) (((0:Int),A1,B2)) (show Bg4 ps i0 (0:Int) A1 B2 from ?g1) ?_;rotate_left
  rintro⟨j9,A10,B11⟩ h_12
  obtain⟨h13,h14,h15,h16,h17⟩:0≤j9∧j9≤(↑ps[i0.toNat]!.vec.length:Int)∧j9≤16∧A8x A10 B11∧Y1 ps i0 j9 (zT A10 B11):=h_12
  refine sq<|sq<|B4 (σ':=⟨[(0,.sl (List.map c26 ps)),(2,.ptr (2) (0) (0) (0)),(3,.ptr (3) (0) (0) (0)),(4,.ptr (4) (0) (0) (0)),(5,.i .i64 (i0)),(6,.i .i64 (j9)),(28,.b (decide (j9 <(↑ps[i0.toNat]!.vec.length:Int)∧j9 <(16:Int))))],[(2,⟨0,177,.var [.nl,.nl,.nl,.nl,.nl,.nl,.nl,.nl,.nl,.nl,.nl,.nl,.nl,.nl,.nl,.nl]⟩),(3,⟨0,175,.var (G5 100300 16)⟩),(4,⟨0,175,.var (G5 100400 16)⟩)]++C4 100300 3 1 16 (c3) (A10)++C4 100400 3 1 16 (c3) (B11)⟩) ?_ ?_
  refine A4 (j9 <(↑ps[i0.toNat]!.vec.length:Int)) (fun h_19=>?_) (fun h_19=>?_)
  refine rG cx [0,2,3,4,5,6,28] ([2,3,4]++List.range' 100300 16++List.range' 100400 16) (fA (0≤i0) (fG c26 ps i0.toNat (fR 2 (tL 6 c3 ps[i0.toNat]!.vec (tT 7 (A6 h_19) (tB 10 (j9 <(16:Int)) (tD 11 (decide (j9 <(16:Int))) (j9 <(↑ps[i0.toNat]!.vec.length:Int)∧j9 <(16:Int)) (by simp only [eq_true h_19,tsl]) (oR 3 (c26 ps[i0.toNat]!) z0)))))))) ?_
  exact⟨rfl,by kernel_rfl⟩
  refine rG cx [0,2,3,4,5,6,28] ([2,3,4]++List.range' 100300 16++List.range' 100400 16) (fA (0≤i0) (fG c26 ps i0.toNat (fR 2 (tL 6 c3 ps[i0.toNat]!.vec (tT 7 (A0 h_19) (tD 11 false (j9 <(↑ps[i0.toNat]!.vec.length:Int)∧j9 <(16:Int)) (by simp only [eq_false h_19,tsl]) (oR 3 (c26 ps[i0.toNat]!) z0))))))) ?_
  exact⟨rfl,by kernel_rfl⟩
  refine sn<|dC (j9 <(↑ps[i0.toNat]!.vec.length:Int)∧j9 <(16:Int)) (fun h20=>?_) fun h20=>?_
  refine sK<|sn<|sq<|bL 3<|sq<|B5s (F:=fun kx=>⟨[(0,.sl (List.map c26 ps)),(2,.ptr (2) (0) (0) (0)),(3,.ptr (3) (0) (0) (0)),(4,.ptr (4) (0) (0) (0)),(5,.i .i64 (i0)),(6,.i .i64 (kx)),(28,.b (decide (kx <(↑ps[i0.toNat]!.vec.length:Int)∧kx <(16:Int))))],[(2,⟨0,177,.var [.nl,.nl,.nl,.nl,.nl,.nl,.nl,.nl,.nl,.nl,.nl,.nl,.nl,.nl,.nl,.nl]⟩),(3,⟨0,175,.var (G5 100300 16)⟩),(4,⟨0,175,.var (G5 100400 16)⟩)]++C4 100300 3 1 16 (c3) (A10)++C4 100400 3 1 16 (c3) (B11)⟩) (G:=fun kx=>⟨[(0,.sl (List.map c26 ps)),(2,.ptr (2) (0) (0) (0)),(3,.ptr (3) (0) (0) (0)),(4,.ptr (4) (0) (0) (0)),(5,.i .i64 (i0)),(6,.i .i64 (kx))],[(2,⟨0,177,.var [.nl,.nl,.nl,.nl,.nl,.nl,.nl,.nl,.nl,.nl,.nl,.nl,.nl,.nl,.nl,.nl]⟩),(3,⟨0,175,.var (G5 100300 16)⟩),(4,⟨0,175,.var (G5 100400 16)⟩)]++C4 100300 3 1 16 (c3) (L5 A10 kx.toNat (A10 kx.toNat++[(1:Int)]))++C4 100400 3 1 16 (c3) (B11)⟩) (A:=fun kx=>(0≤kx)∧(kx <(↑(16:Nat):Int))∧(3=(3:Nat))∧((1:Nat)=1)∧([AV.i .i64 (0:Int)].length=(1:Nat))∧(∀(r:List AV),r∈List.map c3 [(1:Int)]→r.length=1)∧((List.map c3 (A10 kx.toNat)).length+(List.map c3 [(1:Int)]).length≤maxLen)∧(((List.map c3 (A10 kx.toNat)).length+(List.map c3 [(1:Int)]).length)*(8:Nat)≤(140737488355328:Nat))∧(List.map c3 (A10 kx.toNat)++List.map c3 [(1:Int)]=List.map c3 (A10 kx.toNat++[(1:Int)]))∧(0≤kx)∧(kx <(↑(16:Nat):Int))) cx (fun kx=>[(5,{ rows:=some (List.map c3 (A10 kx.toNat++[(1:Int)])) })]) [0,2,3,4,5,6] ([2,3,4]++List.range' 100300 16++List.range' 100400 16) (j9) (by(with_reducible assumption)) (by omega) (by kernel_rfl) (by kernel_rfl) ⟨(by show _=_;kernel_rfl),(by show _=_;kernel_rfl),(by show _=_;kernel_rfl),(by show _=_;kernel_rfl),(by show _=_;kernel_rfl),(by show _=_;kernel_rfl),(by show _=_;kernel_rfl),(by show _=_;kernel_rfl),(by show _=_;kernel_rfl),(by show _=_;kernel_rfl),(by show _=_;kernel_rfl),(by show _=_;kernel_rfl),(by show _=_;kernel_rfl),(by show _=_;kernel_rfl),(by show _=_;kernel_rfl),(by show _=_;kernel_rfl)⟩ ⟨(by(with_reducible assumption)),(by omega),(by kernel_rfl),(by kernel_rfl),(by kernel_rfl),(by(with_reducible refine O3 (fun _=>?_) _;kernel_rfl)),?g2,?g3,(by(with_reducible refine Z8 ?_;kernel_rfl)),(by(with_reducible assumption)),(by omega)⟩ ?_;rotate_left 2
  refine sn<|A0f (F:=fun kx=>⟨[(0,.sl (List.map c26 ps)),(2,.ptr (2) (0) (0) (0)),(3,.ptr (3) (0) (0) (0)),(4,.ptr (4) (0) (0) (0)),(5,.i .i64 (i0)),(6,.i .i64 (kx))],[(2,⟨0,177,.var [.nl,.nl,.nl,.nl,.nl,.nl,.nl,.nl,.nl,.nl,.nl,.nl,.nl,.nl,.nl,.nl]⟩),(3,⟨0,175,.var (G5 100300 16)⟩),(4,⟨0,175,.var (G5 100400 16)⟩)]++C4 100300 3 1 16 (c3) (L5 A10 kx.toNat (A10 kx.toNat++[(1:Int)]))++C4 100400 3 1 16 (c3) (B11)⟩) (G:=fun kx=>⟨[(0,.sl (List.map c26 ps)),(2,.ptr (2) (0) (0) (0)),(3,.ptr (3) (0) (0) (0)),(4,.ptr (4) (0) (0) (0)),(5,.i .i64 (i0)),(6,.i .i64 (kx))],[(2,⟨0,177,.var [.nl,.nl,.nl,.nl,.nl,.nl,.nl,.nl,.nl,.nl,.nl,.nl,.nl,.nl,.nl,.nl]⟩),(3,⟨0,175,.var (G5 100300 16)⟩),(4,⟨0,175,.var (G5 100400 16)⟩)]++C4 100300 3 1 16 (c3) (L5 A10 kx.toNat (A10 kx.toNat++[(1:Int)]))++C4 100400 3 1 16 (c3) (L5 B11 kx.toNat (B11 kx.toNat++[ps[i0.toNat]!.vec[kx.toNat]!]))⟩) (A:=fun kx=>(0≤kx)∧(kx <(↑(16:Nat):Int))∧(0≤i0)∧((List.map c26 ps)[i0.toNat]?=some (c26 ps[i0.toNat]!))∧((c26 ps[i0.toNat]!).length=(2:Nat))∧(0≤kx)∧((List.map c3 ps[i0.toNat]!.vec)[kx.toNat]?=some (c3 ps[i0.toNat]!.vec[kx.toNat]!))∧((c3 ps[i0.toNat]!.vec[kx.toNat]!).length=(1:Nat))∧(3=(3:Nat))∧((1:Nat)=1)∧([AV.i .i64 (0:Int)].length=(1:Nat))∧(∀(r:List AV),r∈List.map c3 [ps[i0.toNat]!.vec[kx.toNat]!]→r.length=1)∧((List.map c3 (B11 kx.toNat)).length+(List.map c3 [ps[i0.toNat]!.vec[kx.toNat]!]).length≤maxLen)∧(((List.map c3 (B11 kx.toNat)).length+(List.map c3 [ps[i0.toNat]!.vec[kx.toNat]!]).length)*(8:Nat)≤(140737488355328:Nat))∧(List.map c3 (B11 kx.toNat)++List.map c3 [ps[i0.toNat]!.vec[kx.toNat]!]=List.map c3 (B11 kx.toNat++[ps[i0.toNat]!.vec[kx.toNat]!]))∧(0≤kx)∧(kx <(↑(16:Nat):Int))) cx (fun kx=>[(6,{ row:=(c26 ps[i0.toNat]!) }),(10,{ row:=(c3 ps[i0.toNat]!.vec[kx.toNat]!) }),(13,{ rows:=some (List.map c3 (B11 kx.toNat++[ps[i0.toNat]!.vec[kx.toNat]!])) })]) [0,2,3,4,5,6] ([2,3,4]++List.range' 100300 16++List.range' 100400 16) (j9) (by(with_reducible assumption)) (by omega) (by kernel_rfl) (by kernel_rfl) ⟨(by show _=_;kernel_rfl),(by show _=_;kernel_rfl),(by show _=_;kernel_rfl),(by show _=_;kernel_rfl),(by show _=_;kernel_rfl),(by show _=_;kernel_rfl),(by show _=_;kernel_rfl),(by show _=_;kernel_rfl),(by show _=_;kernel_rfl),(by show _=_;kernel_rfl),(by show _=_;kernel_rfl),(by show _=_;kernel_rfl),(by show _=_;kernel_rfl),(by show _=_;kernel_rfl),(by show _=_;kernel_rfl),(by show _=_;kernel_rfl)⟩ ⟨(by(with_reducible assumption)),(by omega),(by(with_reducible assumption)),(by(with_reducible refine H6 ?_;omega)),(by kernel_rfl),(by(with_reducible assumption)),(by(with_reducible refine H6 ?_;omega)),(by kernel_rfl),(by kernel_rfl),(by kernel_rfl),(by kernel_rfl),(by(with_reducible refine O3 (fun _=>?_) _;kernel_rfl)),?g4,?g5,(by(with_reducible refine Z8 ?_;kernel_rfl)),(by(with_reducible assumption)),(by omega)⟩ ?_;rotate_left 2
  refine bN<|sn<|rG cx [0,2,3,4,5,6] ([2,3,4]++List.range' 100300 16++List.range' 100400 16) (tW 1 (j9+1) z0)<|sn<|nX ((j9+1,L5 A10 j9.toNat (A10 j9.toNat++[(1:Int)]),L5 B11 j9.toNat (B11 j9.toNat++[ps[i0.toNat]!.vec[j9.toNat]!]))) (show((↑ps[i0.toNat]!.vec.length:Int)-(j9+1)).toNat <((↑ps[i0.toNat]!.vec.length:Int)-j9).toNat from(by omega)) (show Bg4 ps i0 (j9+1) (L5 A10 j9.toNat (A10 j9.toNat++[(1:Int)])) (L5 B11 j9.toNat (B11 j9.toNat++[ps[i0.toNat]!.vec[j9.toNat]!]))from ?g6);rotate_left
  refine eX 2<|nE<|nE<|bH<|sn<|sq<|rG cx [0,2,3,4,5,7] ([2,3,4]++List.range' 100300 16++List.range' 100400 16) z0<|sn<|bL 4<|sL (X:=Int×(Nat→List Int)×(Nat→List Int)) (fun x=>⟨[(0,.sl (List.map c26 ps)),(2,.ptr (2) (0) (0) (0)),(3,.ptr (3) (0) (0) (0)),(4,.ptr (4) (0) (0) (0)),(5,.i .i64 (i0)),(7,.i .i64 (x.1))],[(2,⟨0,177,.var [.nl,.nl,.nl,.nl,.nl,.nl,.nl,.nl,.nl,.nl,.nl,.nl,.nl,.nl,.nl,.nl]⟩),(3,⟨0,175,.var (G5 100300 16)⟩),(4,⟨0,175,.var (G5 100400 16)⟩)]++C4 100300 3 1 16 (c3) (x.2.1)++C4 100400 3 1 16 (c3) (x.2.2)⟩) (fun x ↦ decMc ps i0 x.1 x.2.1 x.2.2) (fun x ↦ B6y ps i0 x.1 x.2.1 x.2.2) [0,2,3,4,5,7] ([2,3,4]++List.range' 100300 16++List.range' 100400 16) (((0:Int),A10,B11)) (show B6y ps i0 (0:Int) A10 B11 from ?g7) ?_;rotate_left
  rintro⟨j21,A22,B23⟩ h_24
  obtain⟨h25,h26,h27,h28⟩:0≤j21∧j21≤(↑ps[i0.toNat]!.cloud.length:Int)∧A8x A22 B23∧R1 ps i0 j21 (zT A22 B23):=h_24
  refine sq<|rD cx [0,2,3,4,5,7,60] ([2,3,4]++List.range' 100300 16++List.range' 100400 16) (fA (0≤i0) (fG c26 ps i0.toNat (fR 2 (tL 6 B3 ps[i0.toNat]!.cloud (oR 3 (c26 ps[i0.toNat]!) (zB 7 (j21 <(↑ps[i0.toNat]!.cloud.length:Int)))))))) (fun h29=>?_) fun h29=>?_
  refine sK<|sn<|sq<|bL 5<|sq<|rG cx [0,2,3,4,5,7,8] ([2,3,4]++List.range' 100300 16++List.range' 100400 16++[8]) (fA (0≤i0) (fG c26 ps i0.toNat (fR 2 (fA (0≤j21) (fG B3 ps[i0.toNat]!.cloud j21.toNat (fR 3 (fN 3 3 (oR 2 (c26 ps[i0.toNat]!) (oR 6 (B3 ps[i0.toNat]!.cloud[j21.toNat]!) z0)))))))))<|sn<|sq<|B4 (σ':=⟨[(0,.sl (List.map c26 ps)),(2,.ptr (2) (0) (0) (0)),(3,.ptr (3) (0) (0) (0)),(4,.ptr (4) (0) (0) (0)),(5,.i .i64 (i0)),(7,.i .i64 (j21)),(8,.ptr (8) (0) (0) (0)),(78,.b (decide (0≤ps[i0.toNat]!.cloud[j21.toNat]!.rep∧ps[i0.toNat]!.cloud[j21.toNat]!.rep <(16:Int))))],[(2,⟨0,177,.var [.nl,.nl,.nl,.nl,.nl,.nl,.nl,.nl,.nl,.nl,.nl,.nl,.nl,.nl,.nl,.nl]⟩),(3,⟨0,175,.var (G5 100300 16)⟩),(4,⟨0,175,.var (G5 100400 16)⟩)]++C4 100300 3 1 16 (c3) (A22)++C4 100400 3 1 16 (c3) (B23)++[(8,⟨0,109,.var [.i .i64 (ps[i0.toNat]!.cloud[j21.toNat]!.rep),.i .i64 (ps[i0.toNat]!.cloud[j21.toNat]!.lo),.i .i64 (ps[i0.toNat]!.cloud[j21.toNat]!.hi)]⟩)]⟩) ?_ ?_
  refine A4 (0≤ps[i0.toNat]!.cloud[j21.toNat]!.rep) (fun h_31=>?_) (fun h_31=>?_)
  refine rG cx [0,2,3,4,5,7,8,78] ([2,3,4]++List.range' 100300 16++List.range' 100400 16++[8]) (tT 2 (A6 h_31) (tB 6 (ps[i0.toNat]!.cloud[j21.toNat]!.rep <(16:Int)) (tD 7 (decide (ps[i0.toNat]!.cloud[j21.toNat]!.rep <(16:Int))) (0≤ps[i0.toNat]!.cloud[j21.toNat]!.rep∧ps[i0.toNat]!.cloud[j21.toNat]!.rep <(16:Int)) (by simp only [eq_true h_31,tsl]) z0))) ?_
  exact⟨rfl,by kernel_rfl⟩
  refine rG cx [0,2,3,4,5,7,8,78] ([2,3,4]++List.range' 100300 16++List.range' 100400 16++[8]) (tT 2 (A0 h_31) (tD 7 false (0≤ps[i0.toNat]!.cloud[j21.toNat]!.rep∧ps[i0.toNat]!.cloud[j21.toNat]!.rep <(16:Int)) (by simp only [eq_false h_31,tsl]) z0)) ?_
  exact⟨rfl,by kernel_rfl⟩
  refine sn<|dC (0≤ps[i0.toNat]!.cloud[j21.toNat]!.rep∧ps[i0.toNat]!.cloud[j21.toNat]!.rep <(16:Int)) (fun h32=>?_) fun h32=>?_
  refine sq<|A0f (F:=fun kx=>⟨[(0,.sl (List.map c26 ps)),(2,.ptr (2) (0) (0) (0)),(3,.ptr (3) (0) (0) (0)),(4,.ptr (4) (0) (0) (0)),(5,.i .i64 (i0)),(7,.i .i64 (j21)),(8,.ptr (8) (0) (0) (0)),(78,.b (decide (0≤kx∧kx <(16:Int))))],[(2,⟨0,177,.var [.nl,.nl,.nl,.nl,.nl,.nl,.nl,.nl,.nl,.nl,.nl,.nl,.nl,.nl,.nl,.nl]⟩),(3,⟨0,175,.var (G5 100300 16)⟩),(4,⟨0,175,.var (G5 100400 16)⟩)]++C4 100300 3 1 16 (c3) (A22)++C4 100400 3 1 16 (c3) (B23)++[(8,⟨0,109,.var [.i .i64 (kx),.i .i64 (ps[i0.toNat]!.cloud[j21.toNat]!.lo),.i .i64 (ps[i0.toNat]!.cloud[j21.toNat]!.hi)]⟩)]⟩) (G:=fun kx=>⟨[(0,.sl (List.map c26 ps)),(2,.ptr (2) (0) (0) (0)),(3,.ptr (3) (0) (0) (0)),(4,.ptr (4) (0) (0) (0)),(5,.i .i64 (i0)),(7,.i .i64 (j21)),(8,.ptr (8) (0) (0) (0))],[(2,⟨0,177,.var [.nl,.nl,.nl,.nl,.nl,.nl,.nl,.nl,.nl,.nl,.nl,.nl,.nl,.nl,.nl,.nl]⟩),(3,⟨0,175,.var (G5 100300 16)⟩),(4,⟨0,175,.var (G5 100400 16)⟩)]++C4 100300 3 1 16 (c3) (L5 A22 kx.toNat (A22 kx.toNat++[ps[i0.toNat]!.cloud[j21.toNat]!.lo]))++C4 100400 3 1 16 (c3) (B23)++[(8,⟨0,109,.var [.i .i64 (kx),.i .i64 (ps[i0.toNat]!.cloud[j21.toNat]!.lo),.i .i64 (ps[i0.toNat]!.cloud[j21.toNat]!.hi)]⟩)]⟩) (A:=fun kx=>(0≤kx)∧(kx <(↑(16:Nat):Int))∧(3=(3:Nat))∧((1:Nat)=1)∧([AV.i .i64 (0:Int)].length=(1:Nat))∧(∀(r:List AV),r∈List.map c3 [ps[i0.toNat]!.cloud[j21.toNat]!.lo]→r.length=1)∧((List.map c3 (A22 kx.toNat)).length+(List.map c3 [ps[i0.toNat]!.cloud[j21.toNat]!.lo]).length≤maxLen)∧(((List.map c3 (A22 kx.toNat)).length+(List.map c3 [ps[i0.toNat]!.cloud[j21.toNat]!.lo]).length)*(8:Nat)≤(140737488355328:Nat))∧(List.map c3 (A22 kx.toNat)++List.map c3 [ps[i0.toNat]!.cloud[j21.toNat]!.lo]=List.map c3 (A22 kx.toNat++[ps[i0.toNat]!.cloud[j21.toNat]!.lo]))∧(0≤kx)∧(kx <(↑(16:Nat):Int))) cx (fun kx=>[(9,{ rows:=some (List.map c3 (A22 kx.toNat++[ps[i0.toNat]!.cloud[j21.toNat]!.lo])) })]) [0,2,3,4,5,7,8] ([2,3,4]++List.range' 100300 16++List.range' 100400 16++[8]) (ps[i0.toNat]!.cloud[j21.toNat]!.rep) (by omega) (by omega) (by kernel_rfl) (by kernel_rfl) ⟨(by show _=_;kernel_rfl),(by show _=_;kernel_rfl),(by show _=_;kernel_rfl),(by show _=_;kernel_rfl),(by show _=_;kernel_rfl),(by show _=_;kernel_rfl),(by show _=_;kernel_rfl),(by show _=_;kernel_rfl),(by show _=_;kernel_rfl),(by show _=_;kernel_rfl),(by show _=_;kernel_rfl),(by show _=_;kernel_rfl),(by show _=_;kernel_rfl),(by show _=_;kernel_rfl),(by show _=_;kernel_rfl),(by show _=_;kernel_rfl)⟩ ⟨(by omega),(by omega),(by kernel_rfl),(by kernel_rfl),(by kernel_rfl),(by(with_reducible refine O3 (fun _=>?_) _;kernel_rfl)),?g8,?g9,(by(with_reducible refine Z8 ?_;kernel_rfl)),(by omega),(by omega)⟩ ?_;rotate_left 2
  refine sn<|A0f (F:=fun kx=>⟨[(0,.sl (List.map c26 ps)),(2,.ptr (2) (0) (0) (0)),(3,.ptr (3) (0) (0) (0)),(4,.ptr (4) (0) (0) (0)),(5,.i .i64 (i0)),(7,.i .i64 (j21)),(8,.ptr (8) (0) (0) (0))],[(2,⟨0,177,.var [.nl,.nl,.nl,.nl,.nl,.nl,.nl,.nl,.nl,.nl,.nl,.nl,.nl,.nl,.nl,.nl]⟩),(3,⟨0,175,.var (G5 100300 16)⟩),(4,⟨0,175,.var (G5 100400 16)⟩)]++C4 100300 3 1 16 (c3) (L5 A22 kx.toNat (A22 kx.toNat++[ps[i0.toNat]!.cloud[j21.toNat]!.lo]))++C4 100400 3 1 16 (c3) (B23)++[(8,⟨0,109,.var [.i .i64 (kx),.i .i64 (ps[i0.toNat]!.cloud[j21.toNat]!.lo),.i .i64 (ps[i0.toNat]!.cloud[j21.toNat]!.hi)]⟩)]⟩) (G:=fun kx=>⟨[(0,.sl (List.map c26 ps)),(2,.ptr (2) (0) (0) (0)),(3,.ptr (3) (0) (0) (0)),(4,.ptr (4) (0) (0) (0)),(5,.i .i64 (i0)),(7,.i .i64 (j21))],[(2,⟨0,177,.var [.nl,.nl,.nl,.nl,.nl,.nl,.nl,.nl,.nl,.nl,.nl,.nl,.nl,.nl,.nl,.nl]⟩),(3,⟨0,175,.var (G5 100300 16)⟩),(4,⟨0,175,.var (G5 100400 16)⟩)]++C4 100300 3 1 16 (c3) (L5 A22 kx.toNat (A22 kx.toNat++[ps[i0.toNat]!.cloud[j21.toNat]!.lo]))++C4 100400 3 1 16 (c3) (L5 B23 kx.toNat (B23 kx.toNat++[ps[i0.toNat]!.cloud[j21.toNat]!.hi]))⟩) (A:=fun kx=>(0≤kx)∧(kx <(↑(16:Nat):Int))∧(3=(3:Nat))∧((1:Nat)=1)∧([AV.i .i64 (0:Int)].length=(1:Nat))∧(∀(r:List AV),r∈List.map c3 [ps[i0.toNat]!.cloud[j21.toNat]!.hi]→r.length=1)∧((List.map c3 (B23 kx.toNat)).length+(List.map c3 [ps[i0.toNat]!.cloud[j21.toNat]!.hi]).length≤maxLen)∧(((List.map c3 (B23 kx.toNat)).length+(List.map c3 [ps[i0.toNat]!.cloud[j21.toNat]!.hi]).length)*(8:Nat)≤(140737488355328:Nat))∧(List.map c3 (B23 kx.toNat)++List.map c3 [ps[i0.toNat]!.cloud[j21.toNat]!.hi]=List.map c3 (B23 kx.toNat++[ps[i0.toNat]!.cloud[j21.toNat]!.hi]))∧(0≤kx)∧(kx <(↑(16:Nat):Int))) cx (fun kx=>[(9,{ rows:=some (List.map c3 (B23 kx.toNat++[ps[i0.toNat]!.cloud[j21.toNat]!.hi])) })]) [0,2,3,4,5,7] ([2,3,4]++List.range' 100300 16++List.range' 100400 16) (ps[i0.toNat]!.cloud[j21.toNat]!.rep) (by omega) (by omega) (by kernel_rfl) (by kernel_rfl) ⟨(by show _=_;kernel_rfl),(by show _=_;kernel_rfl),(by show _=_;kernel_rfl),(by show _=_;kernel_rfl),(by show _=_;kernel_rfl),(by show _=_;kernel_rfl),(by show _=_;kernel_rfl),(by show _=_;kernel_rfl),(by show _=_;kernel_rfl),(by show _=_;kernel_rfl),(by show _=_;kernel_rfl),(by show _=_;kernel_rfl),(by show _=_;kernel_rfl),(by show _=_;kernel_rfl),(by show _=_;kernel_rfl),(by show _=_;kernel_rfl)⟩ ⟨(by omega),(by omega),(by kernel_rfl),(by kernel_rfl),(by kernel_rfl),(by(with_reducible refine O3 (fun _=>?_) _;kernel_rfl)),?g10,?g11,(by(with_reducible refine Z8 ?_;kernel_rfl)),(by omega),(by omega)⟩ ?_;rotate_left 2
  refine bN<|sn<|rG cx [0,2,3,4,5,7] ([2,3,4]++List.range' 100300 16++List.range' 100400 16) (tT 1 (B5 (by omega) ?g12:AV.i .i64 (IntKind.i64.wrap (j21+1))=AV.i .i64 (j21+1)) z0) ?_;rotate_left
  refine sn<|nX ((j21+1,L5 A22 ps[i0.toNat]!.cloud[j21.toNat]!.rep.toNat (A22 ps[i0.toNat]!.cloud[j21.toNat]!.rep.toNat++[ps[i0.toNat]!.cloud[j21.toNat]!.lo]),L5 B23 ps[i0.toNat]!.cloud[j21.toNat]!.rep.toNat (B23 ps[i0.toNat]!.cloud[j21.toNat]!.rep.toNat++[ps[i0.toNat]!.cloud[j21.toNat]!.hi]))) (show((↑ps[i0.toNat]!.cloud.length:Int)-(j21+1)).toNat <((↑ps[i0.toNat]!.cloud.length:Int)-j21).toNat from(by omega)) (show B6y ps i0 (j21+1) (L5 A22 ps[i0.toNat]!.cloud[j21.toNat]!.rep.toNat (A22 ps[i0.toNat]!.cloud[j21.toNat]!.rep.toNat++[ps[i0.toNat]!.cloud[j21.toNat]!.lo])) (L5 B23 ps[i0.toNat]!.cloud[j21.toNat]!.rep.toNat (B23 ps[i0.toNat]!.cloud[j21.toNat]!.rep.toNat++[ps[i0.toNat]!.cloud[j21.toNat]!.hi]))from ?g13);rotate_left
  refine sK<|bN<|sn<|rG cx [0,2,3,4,5,7] ([2,3,4]++List.range' 100300 16++List.range' 100400 16) (tT 1 (B5 (by omega) ?g14:AV.i .i64 (IntKind.i64.wrap (j21+1))=AV.i .i64 (j21+1)) z0) ?_;rotate_left
  refine sn<|nX ((j21+1,A22,B23)) (show((↑ps[i0.toNat]!.cloud.length:Int)-(j21+1)).toNat <((↑ps[i0.toNat]!.cloud.length:Int)-j21).toNat from(by omega)) (show B6y ps i0 (j21+1) A22 B23 from ?g15);rotate_left
  refine eX 4<|nE<|nE<|bH<|bN<|sn<|rG cx [0,2,3,4,5] ([2,3,4]++List.range' 100300 16++List.range' 100400 16) (tW 1 (i0+1) z0)<|sn<|nX ((i0+1,A22,B23)) (show((↑ps.length:Int)-(i0+1)).toNat <((↑ps.length:Int)-i0).toNat from(by omega)) (show Bg3 ps (i0+1) A22 B23 from ?g16);rotate_left
  refine eX 0<|nE<|nE<|bH<|sn<|sq<|T5 (List.range' 100300 16) [0,2,3,4,5,14] ([2,3,4]++List.range' 100400 16) (σ':=⟨[(0,.sl (List.map c26 ps)),(2,.ptr (2) (0) (0) (0)),(3,.ptr (3) (0) (0) (0)),(4,.ptr (4) (0) (0) (0)),(5,.i .i64 (i0)),(14,.b (decide (i0 <(↑ps.length:Int))))],[(2,⟨0,177,.var [.nl,.nl,.nl,.nl,.nl,.nl,.nl,.nl,.nl,.nl,.nl,.nl,.nl,.nl,.nl,.nl]⟩),(3,⟨0,175,.var [.sl (List.map c3 (A1 (0))),.sl (List.map c3 (A1 (1))),.sl (List.map c3 (A1 (2))),.sl (List.map c3 (A1 (3))),.sl (List.map c3 (A1 (4))),.sl (List.map c3 (A1 (5))),.sl (List.map c3 (A1 (6))),.sl (List.map c3 (A1 (7))),.sl (List.map c3 (A1 (8))),.sl (List.map c3 (A1 (9))),.sl (List.map c3 (A1 (10))),.sl (List.map c3 (A1 (11))),.sl (List.map c3 (A1 (12))),.sl (List.map c3 (A1 (13))),.sl (List.map c3 (A1 (14))),.sl (List.map c3 (A1 (15)))]⟩),(4,⟨0,175,.var (G5 100400 16)⟩)]++C4 100400 3 1 16 (c3) (B2)⟩) (by kernel_rfl)<|N0 3 ⟨0,175,.var [.sl (List.map c3 (A1 (0))),.sl (List.map c3 (A1 (1))),.sl (List.map c3 (A1 (2))),.sl (List.map c3 (A1 (3))),.sl (List.map c3 (A1 (4))),.sl (List.map c3 (A1 (5))),.sl (List.map c3 (A1 (6))),.sl (List.map c3 (A1 (7))),.sl (List.map c3 (A1 (8))),.sl (List.map c3 (A1 (9))),.sl (List.map c3 (A1 (10))),.sl (List.map c3 (A1 (11))),.sl (List.map c3 (A1 (12))),.sl (List.map c3 (A1 (13))),.sl (List.map c3 (A1 (14))),.sl (List.map c3 (A1 (15)))]⟩ [.sl (List.map c3 (A1 (0))),.sl (List.map c3 (A1 (1))),.sl (List.map c3 (A1 (2))),.sl (List.map c3 (A1 (3))),.sl (List.map c3 (A1 (4))),.sl (List.map c3 (A1 (5))),.sl (List.map c3 (A1 (6))),.sl (List.map c3 (A1 (7))),.sl (List.map c3 (A1 (8))),.sl (List.map c3 (A1 (9))),.sl (List.map c3 (A1 (10))),.sl (List.map c3 (A1 (11))),.sl (List.map c3 (A1 (12))),.sl (List.map c3 (A1 (13))),.sl (List.map c3 (A1 (14))),.sl (List.map c3 (A1 (15)))] (F2 c3 16 A1) (σ':=⟨[(0,.sl (List.map c26 ps)),(2,.ptr (2) (0) (0) (0)),(3,.ptr (3) (0) (0) (0)),(4,.ptr (4) (0) (0) (0)),(5,.i .i64 (i0)),(14,.b (decide (i0 <(↑ps.length:Int))))],[(2,⟨0,177,.var [.nl,.nl,.nl,.nl,.nl,.nl,.nl,.nl,.nl,.nl,.nl,.nl,.nl,.nl,.nl,.nl]⟩),(3,⟨0,175,.arr (F2 c3 16 A1)⟩),(4,⟨0,175,.var (G5 100400 16)⟩)]++C4 100400 3 1 16 (c3) (B2)⟩) (by kernel_rfl) (by kernel_rfl) (by kernel_rfl) (by kernel_rfl) (ZLe.of_eq (by kernel_rfl)) (by kernel_rfl)<|T5 (List.range' 100400 16) [0,2,3,4,5,14] [2,3,4] (σ':=⟨[(0,.sl (List.map c26 ps)),(2,.ptr (2) (0) (0) (0)),(3,.ptr (3) (0) (0) (0)),(4,.ptr (4) (0) (0) (0)),(5,.i .i64 (i0)),(14,.b (decide (i0 <(↑ps.length:Int))))],[(2,⟨0,177,.var [.nl,.nl,.nl,.nl,.nl,.nl,.nl,.nl,.nl,.nl,.nl,.nl,.nl,.nl,.nl,.nl]⟩),(3,⟨0,175,.arr (F2 c3 16 A1)⟩),(4,⟨0,175,.var [.sl (List.map c3 (B2 (0))),.sl (List.map c3 (B2 (1))),.sl (List.map c3 (B2 (2))),.sl (List.map c3 (B2 (3))),.sl (List.map c3 (B2 (4))),.sl (List.map c3 (B2 (5))),.sl (List.map c3 (B2 (6))),.sl (List.map c3 (B2 (7))),.sl (List.map c3 (B2 (8))),.sl (List.map c3 (B2 (9))),.sl (List.map c3 (B2 (10))),.sl (List.map c3 (B2 (11))),.sl (List.map c3 (B2 (12))),.sl (List.map c3 (B2 (13))),.sl (List.map c3 (B2 (14))),.sl (List.map c3 (B2 (15)))]⟩)]⟩) (by kernel_rfl) ?_
  refine N0 4 ⟨0,175,.var [.sl (List.map c3 (B2 (0))),.sl (List.map c3 (B2 (1))),.sl (List.map c3 (B2 (2))),.sl (List.map c3 (B2 (3))),.sl (List.map c3 (B2 (4))),.sl (List.map c3 (B2 (5))),.sl (List.map c3 (B2 (6))),.sl (List.map c3 (B2 (7))),.sl (List.map c3 (B2 (8))),.sl (List.map c3 (B2 (9))),.sl (List.map c3 (B2 (10))),.sl (List.map c3 (B2 (11))),.sl (List.map c3 (B2 (12))),.sl (List.map c3 (B2 (13))),.sl (List.map c3 (B2 (14))),.sl (List.map c3 (B2 (15)))]⟩ [.sl (List.map c3 (B2 (0))),.sl (List.map c3 (B2 (1))),.sl (List.map c3 (B2 (2))),.sl (List.map c3 (B2 (3))),.sl (List.map c3 (B2 (4))),.sl (List.map c3 (B2 (5))),.sl (List.map c3 (B2 (6))),.sl (List.map c3 (B2 (7))),.sl (List.map c3 (B2 (8))),.sl (List.map c3 (B2 (9))),.sl (List.map c3 (B2 (10))),.sl (List.map c3 (B2 (11))),.sl (List.map c3 (B2 (12))),.sl (List.map c3 (B2 (13))),.sl (List.map c3 (B2 (14))),.sl (List.map c3 (B2 (15)))] (F2 c3 16 B2) (σ':=⟨[(0,.sl (List.map c26 ps)),(2,.ptr (2) (0) (0) (0)),(3,.ptr (3) (0) (0) (0)),(4,.ptr (4) (0) (0) (0)),(5,.i .i64 (i0)),(14,.b (decide (i0 <(↑ps.length:Int))))],[(2,⟨0,177,.var [.nl,.nl,.nl,.nl,.nl,.nl,.nl,.nl,.nl,.nl,.nl,.nl,.nl,.nl,.nl,.nl]⟩),(3,⟨0,175,.arr (F2 c3 16 A1)⟩),(4,⟨0,175,.arr (F2 c3 16 B2)⟩)]⟩) (by kernel_rfl) (by kernel_rfl) (by kernel_rfl) (by kernel_rfl) (ZLe.of_eq (by kernel_rfl)) (by kernel_rfl)<|rG cx [2,3,4,9] [2,3,4,9] z0<|sn<|sq<|sq<|rG cx [2,3,4,9,10] [2,3,4,9] z0<|sn<|bL 6<|N0 9 ⟨0,177,.var [.nl,.nl,.nl,.nl,.nl,.nl,.nl,.nl,.nl,.nl,.nl,.nl,.nl,.nl,.nl,.nl]⟩ [.nl,.nl,.nl,.nl,.nl,.nl,.nl,.nl,.nl,.nl,.nl,.nl,.nl,.nl,.nl,.nl] (F2 c3 16 fun x ↦ []) (σ':=⟨[(2,.ptr (2) (0) (0) (0)),(3,.ptr (3) (0) (0) (0)),(4,.ptr (4) (0) (0) (0)),(9,.ptr (9) (0) (0) (0)),(10,.i .i64 ((0:Int)))],[(2,⟨0,177,.var [.nl,.nl,.nl,.nl,.nl,.nl,.nl,.nl,.nl,.nl,.nl,.nl,.nl,.nl,.nl,.nl]⟩),(3,⟨0,175,.arr (F2 c3 16 A1)⟩),(4,⟨0,175,.arr (F2 c3 16 B2)⟩),(9,⟨0,177,.arr (F2 c3 16 fun x ↦ [])⟩)]⟩) (by kernel_rfl) (by kernel_rfl) (by kernel_rfl) (by kernel_rfl) (Bb0 c3 16) (by kernel_rfl)<|sL (X:=Int×(Nat→List Int)×(Nat→List Int)×(Nat→List Int)) (fun x=>⟨[(2,.ptr (2) (0) (0) (0)),(3,.ptr (3) (0) (0) (0)),(4,.ptr (4) (0) (0) (0)),(9,.ptr (9) (0) (0) (0)),(10,.i .i64 (x.1))],[(2,⟨0,177,.var [.nl,.nl,.nl,.nl,.nl,.nl,.nl,.nl,.nl,.nl,.nl,.nl,.nl,.nl,.nl,.nl]⟩),(3,⟨0,175,.arr (F2 c3 16 x.2.1)⟩),(4,⟨0,175,.arr (F2 c3 16 x.2.2.1)⟩),(9,⟨0,177,.arr (F2 c3 16 x.2.2.2)⟩)]⟩) (fun x ↦ decMd x.1 x.2.1 x.2.2.1 x.2.2.2) (fun x ↦ Bg5 A1 B2 x.1 x.2.1 x.2.2.1 x.2.2.2) [2,3,4,9,10] [2,3,4,9] (((0:Int),A1,B2,fun x ↦ [])) (show Bg5 A1 B2 (0:Int) A1 B2 fun x ↦ []from ?g17) ?_;rotate_left
  rintro⟨r33,A34,B35,S36⟩ h_37
  obtain⟨h38,h39,h40,h41,h42⟩:A34=A1∧B35=B2∧0≤r33∧r33≤16∧At5 (zT A1 B2) r33 S36:=h_37
  refine sq<|rD cx [2,3,4,9,10,102] [2,3,4,9] (zB 1 (r33 <(16:Int))) (fun h43=>?_) fun h43=>?_
  refine sK<|sn<|sq<|bL 7 ?_
  have hl_44:=(X9 (A62 (A34 r33.toNat) (B35 r33.toNat)))
  refine rA cx [2,3,4,9,10] [2,3,4,9] (fA (0≤r33) (fO (r33 <(↑(16:Nat):Int)) (fP ((F2 c3 16 A34)[r33.toNat*(1:Nat)+0]?=some (AV.sl (List.map c3 (A34 r33.toNat)))) (by((try simp only [Nat.mul_one,Nat.add_zero,Nat.zero_add]);with_reducible refine D6 ?_;omega)) (fA (0≤r33) (fO (r33 <(↑(16:Nat):Int)) (fP ((F2 c3 16 B35)[r33.toNat*(1:Nat)+0]?=some (AV.sl (List.map c3 (B35 r33.toNat)))) (by((try simp only [Nat.mul_one,Nat.add_zero,Nat.zero_add]);with_reducible refine D6 ?_;omega)) (fT (con204 (A34 r33.toNat) (B35 r33.toNat) ?g18 ?g19) (fA (0≤r33) (fO (r33 <(↑(16:Nat):Int)) (fP (r33.toNat*(1:Nat)+0 <(F2 c3 16 S36).length) ?g20 (fR [(D1 (AV.sl (List.map c3 (L3 (nrm (A62 (A34 r33.toNat) (B35 r33.toNat))))))).headD AV.dead] (fP ((F2 c3 16 S36).set (r33.toNat*(1:Nat)+0) ((D1 (AV.sl (List.map c3 (L3 (nrm (A62 (A34 r33.toNat) (B35 r33.toNat))))))).headD AV.dead)=F2 c3 16 (L5 S36 r33.toNat (L3 (nrm (A62 (A34 r33.toNat) (B35 r33.toNat)))))) (by((try simp only [Nat.mul_one,Nat.add_zero,Nat.zero_add]);(with_reducible refine A4k ?_);exact Eq.refl _)) (oR 3 [.sl (List.map c3 (A34 r33.toNat))] (oR 6 [.sl (List.map c3 (B35 r33.toNat))] (oA 7 (.sl (List.map c3 (L3 (nrm (A62 (A34 r33.toNat) (B35 r33.toNat)))))) (oV 10 { rows:=some [(F2 c3 16 (L5 S36 r33.toNat (L3 (nrm (A62 (A34 r33.toNat) (B35 r33.toNat))))))] } z0)))))))))))))))) ?_;rotate_left 3
  refine bN<|sn<|rG cx [2,3,4,9,10] [2,3,4,9] (tW 1 (r33+1) z0)<|sn<|nX ((r33+1,A34,B35,L5 S36 r33.toNat (L3 (nrm (A62 (A34 r33.toNat) (B35 r33.toNat)))))) (show(16-(r33+1)).toNat <(16-r33).toNat from(by omega)) (show Bg5 A1 B2 (r33+1) A34 B35 (L5 S36 r33.toNat (L3 (nrm (A62 (A34 r33.toNat) (B35 r33.toNat)))))from ?g21);rotate_left
  refine eX 6<|nE<|nE<|bH<|sn<|sq<|rG cx [2] [2] (fR 16 z0)<|sn<|rT<|qR (.agg [.sl (List.map c3 (S36 (0))),.sl (List.map c3 (S36 (1))),.sl (List.map c3 (S36 (2))),.sl (List.map c3 (S36 (3))),.sl (List.map c3 (S36 (4))),.sl (List.map c3 (S36 (5))),.sl (List.map c3 (S36 (6))),.sl (List.map c3 (S36 (7))),.sl (List.map c3 (S36 (8))),.sl (List.map c3 (S36 (9))),.sl (List.map c3 (S36 (10))),.sl (List.map c3 (S36 (11))),.sl (List.map c3 (S36 (12))),.sl (List.map c3 (S36 (13))),.sl (List.map c3 (S36 (14))),.sl (List.map c3 (S36 (15)))]) (.eq ?g22);rotate_left
  rotate_left
  revert i0 A1 B2 hh4 hh5 h6 h7 h8;rotate_left
  revert i0 A1 B2 hh4 hh5 h6 h7 h8 j9 A10 B11 h13 h14 h15 h16 h17 h20;rotate_left
  revert i0 A1 B2 hh4 hh5 h6 h7 h8 j9 A10 B11 h13 h14 h15 h16 h17 h20;rotate_left
  revert i0 A1 B2 hh4 hh5 h6 h7 h8 j9 A10 B11 h13 h14 h15 h16 h17 h20;rotate_left
  revert i0 A1 B2 hh4 hh5 h6 h7 h8 j9 A10 B11 h13 h14 h15 h16 h17 h20;rotate_left
  revert i0 A1 B2 hh4 hh5 h6 h7 h8 j9 A10 B11 h13 h14 h15 h16 h17 h20;rotate_left
  revert i0 A1 B2 hh4 hh5 h6 h7 h8 j9 A10 B11 h13 h14 h15 h16 h17 h20;rotate_left
  revert i0 A1 B2 hh4 hh5 h6 h7 h8 j9 A10 B11 h13 h14 h15 h16 h17 h20 j21 A22 B23 h25 h26 h27 h28 h29 h32;rotate_left
  revert i0 A1 B2 hh4 hh5 h6 h7 h8 j9 A10 B11 h13 h14 h15 h16 h17 h20 j21 A22 B23 h25 h26 h27 h28 h29 h32;rotate_left
  revert i0 A1 B2 hh4 hh5 h6 h7 h8 j9 A10 B11 h13 h14 h15 h16 h17 h20 j21 A22 B23 h25 h26 h27 h28 h29 h32;rotate_left
  revert i0 A1 B2 hh4 hh5 h6 h7 h8 j9 A10 B11 h13 h14 h15 h16 h17 h20 j21 A22 B23 h25 h26 h27 h28 h29 h32;rotate_left
  revert i0 A1 B2 hh4 hh5 h6 h7 h8 j9 A10 B11 h13 h14 h15 h16 h17 h20 j21 A22 B23 h25 h26 h27 h28 h29 h32;rotate_left
  revert i0 A1 B2 hh4 hh5 h6 h7 h8 j9 A10 B11 h13 h14 h15 h16 h17 h20 j21 A22 B23 h25 h26 h27 h28 h29 h32;rotate_left
  revert i0 A1 B2 hh4 hh5 h6 h7 h8 j9 A10 B11 h13 h14 h15 h16 h17 h20 j21 A22 B23 h25 h26 h27 h28 h29 h32;rotate_left
  revert i0 A1 B2 hh4 hh5 h6 h7 h8 j9 A10 B11 h13 h14 h15 h16 h17 h20 j21 A22 B23 h25 h26 h27 h28 h29 h32;rotate_left
  revert i0 A1 B2 hh4 hh5 h6 h7 h8 j9 A10 B11 h13 h14 h15 h16 h17 h20 j21 A22 B23 h25 h26 h27 h28 h29;rotate_left
  revert i0 A1 B2 hh4 hh5 h6 h7 h8;rotate_left
  clear hl_44;revert i0 A1 B2 hh4 hh5 h6 h7 h8 r33 A34 B35 S36 h38 h39 h40 h41 h42 h43;rotate_left
  clear hl_44;revert i0 A1 B2 hh4 hh5 h6 h7 h8 r33 A34 B35 S36 h38 h39 h40 h41 h42 h43;rotate_left
  clear hl_44;revert i0 A1 B2 hh4 hh5 h6 h7 h8 r33 A34 B35 S36 h38 h39 h40 h41 h42 h43;rotate_left
  clear hl_44;revert i0 A1 B2 hh4 hh5 h6 h7 h8 r33 A34 B35 S36 h38 h39 h40 h41 h42 h43;rotate_left
  revert i0 A1 B2 hh4 hh5 h6 h7 h8 r33 A34 B35 S36 h38 h39 h40 h41 h42 h43;rotate_left
  case g0=>exact⟨by omega,by omega,fun r _=>rfl,fun r _=>rfl⟩
  case g1=>intro i A B h0 h1 h3 h4 h5;exact⟨by omega,by omega,by omega,h3,A4t h4⟩
  case g6 =>
    intro i A B h0 h1 h3 h4 h5 j X Y k0 k1 k2 k4 k5 k6
    exact⟨by omega,by omega,by omega,Ae8 k4,fun r hr=>by rw[B9b (k4 _ (by omega))];exact A70 k0 k6.1 k5 r hr⟩
  case g7=>intro i A B h0 h1 h3 h4 h5 j X Y k0 k1 k2 k4 k5 k6;exact⟨by omega,by omega,k4,A4u (by omega) (by omega) k5⟩
  case g13 =>
    intro i A B h0 h1 h3 h4 h5 j X Y k0 k1 k2 k4 k5 k6 l V W m0 m1 m3 m4 m5 m6
    exact⟨by omega,by omega,Ae8 m3,fun r hr=>by rw[B9b (m3 _ (by omega))];exact Ar0 m0 m5 m6 m4 r hr⟩
  case g15=>intro i A B h0 h1 h3 h4 h5 j X Y k0 k1 k2 k4 k5 k6 l V W m0 m1 m3 m4 m5 m6;exact⟨by omega,by omega,m3,Ac3 m0 m5 m6 m4⟩
  case g16=>intro i A B h0 h1 h3 h4 h5 j X Y k0 k1 k2 k4 k5 k6 l V W m0 m1 m3 m4 m5;exact⟨by omega,by omega,m3,Ac4 h0 h5 m5 m4⟩
  case g17=>intro i A B h0 h1 h3 h4 h5;exact⟨rfl,rfl,by omega,by omega,fun k hk=>by omega⟩
  case g18=>intro i A B h0 h1 h3 h4 h5 r X Y S k0 k1 k2 k3 k4 k5;subst k0 k1;exact h3 _ (by omega)
  case g19 =>
    intro i A B h0 h1 h3 h4 h5 r X Y S k0 k1 k2 k3 k4 k5
    subst k0 k1
    have:=B3a h3 (r:=r.toNat) (by omega)
    have:=R2 r.toNat (ps.take i.toNat)
    rw[h4 _ (by omega)]at *
    rw[List.take_of_length_le (by omega)]at *
    omega
  case g20=>intro i A B h0 h1 h3 h4 h5 r X Y S k0 k1 k2 k3 k4 k5;rw[T6];omega
  case g21=>intro i A B h0 h1 h3 h4 h5 r X Y S k0 k1 k2 k3 k4 k5;subst k0 k1;exact⟨rfl,rfl,by omega,by omega,Al7 k2 k4⟩
  case g22 =>
    intro i A B h0 h1 h3 h4 h5 r X Y S k0 k1 k2 k3 k4 k5
    congr 1
    show F2 c3 16 S=F2 c3 16 _
    unfold F2
    refine List.map_congr_left fun q hq=>?_
    have hq:q < 16:=by simpa using hq
    rw[k4 q (by omega)]
    unfold tnS E5
    rw[h4 q hq,List.take_of_length_le (by omega)]
  all_goals
    intro i A B h0 h1 h3 h4 h5 j X Y k0 k1 k2 k4 k5 k6
    first
    | (have l1 := A4v h0 h5 k5 (r := j.toNat) (by omega) (by omega)
       have l2:=B3a k4 (r:=j.toNat) (by omega)
       simp only [List.length_map,List.length_cons,List.length_nil,Go.maxLen]
       omega)
    | (intro l V W m0 m1 m3 m4 m5 m6
       have l0:=W2 h0 h5 m0 m5 m4 (r:=0) (by omega)
       first
       | omega
       | (have l1 := W2 h0 h5 m0 m5 m4 (r := ((ps[i.toNat]!).cloud[l.toNat]!).rep.toNat) (by omega)
          have l2:=B3a m3 (r:=((ps[i.toNat]!).cloud[l.toNat]!).rep.toNat) (by omega)
          simp only [List.length_map,List.length_cons,List.length_nil,Go.maxLen]
          omega))
end Go.Proofs.YtokhjapfekbobaaGreat
namespace Go.Proofs.YtokhjapfekbobaaGreat
open Go.E
set_option maxRecDepth 100000
set_option maxHeartbeats 4000000
def Bg6(U:Nat→List Run)(n r:Int)(S:Nat→List Int)(v:List Int)(c:List Span):Prop:=S=tnS U∧0≤r∧r≤16∧0≤n∧n≤r∧v.length=16∧B24 U r n∧A1a U r v∧K8 U r c
def decFa(n r:Int)(S:Nat→List Int)(v:List Int)(c:List Span):Nat:=(16-r).toNat
def B01(U:Nat→List Run)(r n0:Int)(v0:List Int)(c0:List Span)(k n:Int)(v:List Int)(c:List Span):Prop :=
 n=(if 0 <(B9 ((U r.toNat).take (k / 2).toNat)).1 then r+1 else n0)∧v=v0.set r.toNat (B9 ((U r.toNat).take (k / 2).toNat)).1∧c=c0++(B9 ((U r.toNat).take (k / 2).toNat)).2.map fun x=>(⟨r,x.lo,x.hi⟩:Span)
def B6z(U:Nat→List Run)(r n0:Int)(v0:List Int)(c0:List Span)(n k:Int)(S:Nat→List Int)(v:List Int)(c:List Span):Prop:=S=tnS U∧0≤k∧k≤2*(U r.toNat).length∧2*(k / 2)=k∧v.length=16∧0≤n∧n≤r+1∧B01 U r n0 v0 c0 k n v c
def decFb(U:Nat→List Run)(r:Int)(n k:Int)(S:Nat→List Int)(v:List Int)(c:List Span):Nat:=(2*(U r.toNat).length-k).toNat
theorem Ae9(l:List Run):(L3 l).length=2*l.length:=by
 induction l with
 | nil=>rfl
 | cons r l ih =>
  have:L3 (r :: l)=r.lo ::(r.hi+1) :: L3 l:=rfl
  rw[this];simp only [List.length_cons,ih];omega
theorem At6:∀ {l:List Run} {j:Nat},j < l.length→(L3 l)[2*j]! = l[j]!.lo∧(L3 l)[2*j+1]! = l[j]!.hi+1
 | r :: l,0,_=>⟨rfl,rfl⟩
 | r :: l,j+1,h=>by
  have e:L3 (r :: l)=r.lo ::(r.hi+1) :: L3 l:=rfl
  have ih:=At6 (l:=l) (j:=j) (by simpa using h)
  rw[e,show 2*(j+1)=2*j+1+1 by omega]
  simpa using ih
theorem B70{x:Run}(h:x.lo=1):B9 [x]=(x.hi,[]):=by
 unfold B9
 rw[if_neg]
 ·rfl
 ·rintro(k | k)
  ·cases k
  ·exact k h
theorem B3b{P:List Run}{x:Run}(h:P=[]→¬ x.lo=1):B9 (P++[x])=((B9 P).1,(B9 P).2++[x]):=by
 cases P with
 | nil =>
  show B9 [x]=_
  unfold B9
  rw[if_pos (.inr (h rfl)),if_pos (.inl rfl)]
  rfl
 | cons y P =>
  unfold B9
  by_cases hy:y.lo=1
  ·rw[if_neg,if_neg]
   ·simp
   ·simpa using hy
   ·simpa using hy
  ·rw[if_pos,if_pos]
   ·simpa using hy
   ·simpa using hy
theorem B71(P:List Run):(B9 P).2.length≤P.length:=by
 unfold B9
 split
 ·exact Nat.le_refl _
 ·simp
theorem B02{U:Nat→List Run}{r n0:Int}{v0:List Int}{c0:List Span}(h0:0≤r)(h1:r < 16)(hv:A1a U r v0):B01 U r n0 v0 c0 0 n0 v0 c0:=by
 unfold B01
 refine⟨?_,?_,?_⟩
 ·show n0=if(0:Int) <(B9 []).1 then _ else _
  rw[A23,if_neg (by omega)]
 ·show v0=v0.set r.toNat (B9 []).1
  rw[A23]
  unfold A1a A6v at hv
  have e:16-r.toNat=(15-r.toNat)+1:=by omega
  rw[hv,List.set_append_right _ _ (by simp),List.length_map,List.length_range,Nat.sub_self,e,List.replicate_succ,List.set_cons_zero]
 ·show c0=c0++List.map _ (B9 []).2
  rw[A23];simp
theorem B3c{l:List Run}{k:Int}(h0:0≤k)(he:2*(k / 2)=k)(hk:k+1 < 2*l.length):l.take ((k+2) / 2).toNat=l.take (k / 2).toNat++[l[(k / 2).toNat]!]:=by
 have:=D4 (a:=l) (i:=k / 2) (by omega) (by omega)
 rw[show((k+2) / 2).toNat=(k / 2+1).toNat by omega,this]
theorem B72{U:Nat→List Run}{r n0 n k:Int}{v0 v:List Int}{c0 c:List Span}(hU:U9 (U r.toNat))(h0:0≤k)(he:2*(k / 2)=k)(hk:k+1 < 2*(U r.toNat).length)(hlo:(U r.toNat)[(k / 2).toNat]!.lo=1)(h:B01 U r n0 v0 c0 k n v c) :
  B01 U r n0 v0 c0 (k+2) (r+1) (v.set r.toNat (U r.toNat)[(k / 2).toNat]!.hi) c:=by
 have h1:=Ak1 hU (k / 2).toNat (by omega)
 have h2:=hU.2 _ (E4 (l:=U r.toNat) (i:=(k / 2).toNat) (by omega))
 have hz:k=0:=by omega
 subst hz
 unfold B01 at *
 rw[B3c h0 he hk]
 obtain⟨a1,a2,a3⟩:=h
 have e:(U r.toNat).take ((0:Int) / 2).toNat=[]:=by simp
 rw[e]at a1 a2 a3 ⊢
 rw[List.nil_append,B70 hlo]
 rw[A23]at a2 a3
 refine⟨?_,?_,?_⟩
 ·rw[if_pos (show(0:Int) <(U r.toNat)[((0:Int) / 2).toNat]!.hi by omega)]
 ·rw[a2,List.set_set]
 ·exact a3
theorem B3d{U:Nat→List Run}{r n0 n k:Int}{v0 v:List Int}{c0 c:List Span}(h0:0≤k)(he:2*(k / 2)=k)(hk:k+1 < 2*(U r.toNat).length)(hlo:¬(U r.toNat)[(k / 2).toNat]!.lo=1)(h:B01 U r n0 v0 c0 k n v c) :
  B01 U r n0 v0 c0 (k+2) n v (c++[⟨r,(U r.toNat)[(k / 2).toNat]!.lo,(U r.toNat)[(k / 2).toNat]!.hi⟩]):=by
 unfold B01 at *
 rw[B3c h0 he hk,B3b (fun _=>hlo)]
 obtain⟨a1,a2,a3⟩:=h
 refine⟨a1,a2,?_⟩
 rw[a3,List.map_append,List.append_assoc]
 rfl
theorem B73{U:Nat→List Run}{r n0 n k:Int}{v0 v:List Int}{c0 c:List Span}(hU:U9 (U r.toNat))(r0:0≤r)(r1:r < 16)(hs:B24 U r n0)(hv:A1a U r v0)(hc:K8 U r c0)(h0:0≤k)(he:2*(k / 2)=k)(hk:¬ k+1 < 2*(U r.toNat).length)(hl:k≤2*(U r.toNat).length)
  (h:B01 U r n0 v0 c0 k n v c):B24 U (r+1) n∧A1a U (r+1) v∧K8 U (r+1) c:=by
 unfold B01 at h
 rw[List.take_of_length_le (by omega)]at h
 obtain⟨a1,a2,a3⟩:=h
 have g1:=Ak2 r0 hs
 have g2:=A8e r0 r1 hv
 rw[Ac5 hU]at g1 g2
 rw[a1,a2]
 refine⟨g1,g2,?_⟩
 unfold K8 at *
 rw[show(r+1).toNat=r.toNat+1 by omega,I6,Y0,Ac5 hU,a3,hc,show((r.toNat:Nat):Int)=r by omega]
theorem Af0{U:Nat→List Run}{r k:Int}(h0:0≤k)(he:2*(k / 2)=k)(hk:k+1 < 2*(U r.toNat).length):(tnS U r.toNat)[k.toNat]! =(U r.toNat)[(k / 2).toNat]!.lo∧(tnS U r.toNat)[(k+1).toNat]! =(U r.toNat)[(k / 2).toNat]!.hi+1:=by
 have:=At6 (l:=U r.toNat) (j:=(k / 2).toNat) (by omega)
 unfold tnS
 rw[show k.toNat=2*(k / 2).toNat by omega,show(k+1).toNat=2*(k / 2).toNat+1 by omega]
 exact this
theorem B74{U:Nat→List Run}{r n0 n k:Int}{v0 v:List Int}{c0 c:List Span}(hU:U9 (U r.toNat))(r0:0≤r)(r1:r < 16)(hc:K8 U r c0)(h:B01 U r n0 v0 c0 k n v c):c.length≤8000000000:=by
 obtain⟨_,_,a3⟩:=h
 have h1:=A20 U r.toNat
 have h2:=B71 ((U r.toNat).take (k / 2).toNat)
 have h3:=N4 hU
 unfold K8 at hc
 rw[List.length_take]at h2
 rw[a3,List.length_append,List.length_map,hc]
 omega
theorem con136 (U : Nat → List Run) (hU : ∀ r : Nat, r < 16 → U9 (U r)) : Con Tryz.prog 136 [.agg (c177 (tnS U))] (.agg (c26 (F6 U))) :=
  by
  refine sC A9 [.cell 2 26] 73 Tryz.func136 ?_
  intro e0 cx
  refine sq<|rG cx [1,2] [1,2] z0<|sn<|sq<|rG cx [1,2,3] [1,2,3] z0<|sn<|sq<|rG cx [1,2,3,4] [1,2,3,8] (fR (↑(16:Nat):Int) (fR (↑(16:Nat):Int) (fO ((8:Nat)*(16:Nat)≤(281474976710656:Nat)) (fP ((16:Nat)≤maxLen) (by(simp only [Go.maxLen];omega)) (fR 1 (fP (ZLe [AV.i .i64 (0:Int)] [AV.i .i64 (0:Int)]) (by(with_reducible exact ZLe.refl _)) (fP (List.replicate (16:Nat) [AV.i .i64 (0:Int)]=List.map c3 (List.replicate (16:Nat) (0:Int))) (by(with_reducible refine Aj2 ?_;kernel_rfl)) (oV 0 { row:=[.i .i64 ((0:Int))],rows:=some (List.map c3 (List.replicate (16:Nat) (0:Int))),n:=(16:Nat) } z0)))))))) ?_
  refine sn<|sq<|rG cx [1,2,3,4,5] [1,2,3,8] z0<|sn<|sq<|sq<|rG cx [1,2,3,4,5,6] [1,2,3,8] z0<|sn<|bL 0<|A6m 3 109 3 1 5301 (σ':=⟨[(1,.ptr (1) (0) (0) (0)),(2,.ptr (2) (0) (0) (0)),(3,.ptr (3) (0) (0) (0)),(4,.own 8 0),(5,.i .i64 ((0:Int))),(6,.i .i64 ((0:Int)))],[(1,⟨0,177,.var [.sl (List.map c3 (tnS U (0))),.sl (List.map c3 (tnS U (1))),.sl (List.map c3 (tnS U (2))),.sl (List.map c3 (tnS U (3))),.sl (List.map c3 (tnS U (4))),.sl (List.map c3 (tnS U (5))),.sl (List.map c3 (tnS U (6))),.sl (List.map c3 (tnS U (7))),.sl (List.map c3 (tnS U (8))),.sl (List.map c3 (tnS U (9))),.sl (List.map c3 (tnS U (10))),.sl (List.map c3 (tnS U (11))),.sl (List.map c3 (tnS U (12))),.sl (List.map c3 (tnS U (13))),.sl (List.map c3 (tnS U (14))),.sl (List.map c3 (tnS U (15)))]⟩),(2,⟨0,26,.var [.nl,.nl]⟩),(3,⟨0,26,.var [.nl,.own 5301 0]⟩),(8,⟨0,3,.row 1 (List.map c3 (List.replicate (16:Nat) (0:Int)))⟩),(5301,⟨0,109,.row 3 (List.map B3 [])⟩)]⟩) (by kernel_rfl)<|N0 1 ⟨0,177,.var [.sl (List.map c3 (tnS U (0))),.sl (List.map c3 (tnS U (1))),.sl (List.map c3 (tnS U (2))),.sl (List.map c3 (tnS U (3))),.sl (List.map c3 (tnS U (4))),.sl (List.map c3 (tnS U (5))),.sl (List.map c3 (tnS U (6))),.sl (List.map c3 (tnS U (7))),.sl (List.map c3 (tnS U (8))),.sl (List.map c3 (tnS U (9))),.sl (List.map c3 (tnS U (10))),.sl (List.map c3 (tnS U (11))),.sl (List.map c3 (tnS U (12))),.sl (List.map c3 (tnS U (13))),.sl (List.map c3 (tnS U (14))),.sl (List.map c3 (tnS U (15)))]⟩ [.sl (List.map c3 (tnS U (0))),.sl (List.map c3 (tnS U (1))),.sl (List.map c3 (tnS U (2))),.sl (List.map c3 (tnS U (3))),.sl (List.map c3 (tnS U (4))),.sl (List.map c3 (tnS U (5))),.sl (List.map c3 (tnS U (6))),.sl (List.map c3 (tnS U (7))),.sl (List.map c3 (tnS U (8))),.sl (List.map c3 (tnS U (9))),.sl (List.map c3 (tnS U (10))),.sl (List.map c3 (tnS U (11))),.sl (List.map c3 (tnS U (12))),.sl (List.map c3 (tnS U (13))),.sl (List.map c3 (tnS U (14))),.sl (List.map c3 (tnS U (15)))] (F2 c3 16 (tnS U)) (σ':=⟨[(1,.ptr (1) (0) (0) (0)),(2,.ptr (2) (0) (0) (0)),(3,.ptr (3) (0) (0) (0)),(4,.own 8 0),(5,.i .i64 ((0:Int))),(6,.i .i64 ((0:Int)))],[(1,⟨0,177,.arr (F2 c3 16 (tnS U))⟩),(2,⟨0,26,.var [.nl,.nl]⟩),(3,⟨0,26,.var [.nl,.own 5301 0]⟩),(8,⟨0,3,.row 1 (List.map c3 (List.replicate (16:Nat) (0:Int)))⟩),(5301,⟨0,109,.row 3 (List.map B3 [])⟩)]⟩) (by kernel_rfl) (by kernel_rfl) (by kernel_rfl) (by kernel_rfl) (ZLe.of_eq (by kernel_rfl)) (by kernel_rfl)<|sL (X:=Int×Int×(Nat→List Int)×List Int×List Span) (fun x=>⟨[(1,.ptr (1) (0) (0) (0)),(2,.ptr (2) (0) (0) (0)),(3,.ptr (3) (0) (0) (0)),(4,.own 8 0),(5,.i .i64 (x.1)),(6,.i .i64 (x.2.1))],[(1,⟨0,177,.arr (F2 c3 16 x.2.2.1)⟩),(2,⟨0,26,.var [.nl,.nl]⟩),(3,⟨0,26,.var [.nl,.own 5301 0]⟩),(8,⟨0,3,.row 1 (List.map c3 x.2.2.2.1)⟩),(5301,⟨0,109,.row 3 (List.map B3 x.2.2.2.2)⟩)]⟩) (fun x ↦ decFa x.1 x.2.1 x.2.2.1 x.2.2.2.1 x.2.2.2.2) (fun x ↦ Bg6 U x.1 x.2.1 x.2.2.1 x.2.2.2.1 x.2.2.2.2) [1,2,3,4,5,6] [1,2,3,8,5301] (((0:Int),(0:Int),tnS U,List.replicate (16:Nat) (0:Int),[])) (show Bg6 U (0:Int) (0:Int) (tnS U) (List.replicate (16:Nat) (0:Int)) []from ?g0) ?_;rotate_left
  rintro⟨n0,r1,S2,v3,c4⟩ h_5
  obtain⟨hh6,hh7,hh8,hh9,h10,h11,h12,h13,h14⟩:S2=tnS U∧0≤r1∧r1≤16∧0≤n0∧n0≤r1∧v3.length=(16:Nat)∧B24 U r1 n0∧A1a U r1 v3∧K8 U r1 c4:=h_5
  refine sq<|rD cx [1,2,3,4,5,6,10] [1,2,3,8,5301] (zB 1 (r1 <(16:Int))) (fun h15=>?_) fun h15=>?_
  refine sK<|sn<|sq<|bL 1<|sq<|rG cx [1,2,3,4,5,6,7] [1,2,3,8,5301] z0<|sn<|bL 2<|sL (X:=Int×Int×(Nat→List Int)×List Int×List Span) (fun x=>⟨[(1,.ptr (1) (0) (0) (0)),(2,.ptr (2) (0) (0) (0)),(3,.ptr (3) (0) (0) (0)),(4,.own 8 0),(5,.i .i64 (x.1)),(6,.i .i64 (r1)),(7,.i .i64 (x.2.1))],[(1,⟨0,177,.arr (F2 c3 16 x.2.2.1)⟩),(2,⟨0,26,.var [.nl,.nl]⟩),(3,⟨0,26,.var [.nl,.own 5301 0]⟩),(8,⟨0,3,.row 1 (List.map c3 x.2.2.2.1)⟩),(5301,⟨0,109,.row 3 (List.map B3 x.2.2.2.2)⟩)]⟩) (fun x ↦ decFb U r1 x.1 x.2.1 x.2.2.1 x.2.2.2.1 x.2.2.2.2) (fun x ↦ B6z U r1 n0 v3 c4 x.1 x.2.1 x.2.2.1 x.2.2.2.1 x.2.2.2.2) [1,2,3,4,5,6,7] [1,2,3,8,5301] ((n0,(0:Int),S2,v3,c4)) (show B6z U r1 n0 v3 c4 n0 (0:Int) S2 v3 c4 from ?g1) ?_;rotate_left
  rintro⟨n16,k17,S18,v19,c20⟩ h_21
  obtain⟨h22,h23,h24,h25,h26,h27,h28,h29⟩:S18=tnS U∧0≤k17∧k17≤(2:Int)*(↑(U r1.toNat).length:Int)∧(2:Int)*(k17 / (2:Int))=k17∧v19.length=(16:Nat)∧0≤n16∧n16≤r1+1∧B01 U r1 n0 v3 c4 k17 n16 v19 c20:=h_21
  refine sq<|sq<|rG cx [1,2,3,4,5,6,7,20] [1,2,3,8,5301] (tT 1 (B5 (by omega) ?g2:AV.i .i64 (IntKind.i64.wrap (k17+1))=AV.i .i64 (k17+1)) (fA (0≤r1) (fO (r1 <(↑(16:Nat):Int)) (fP ((F2 c3 16 S18)[r1.toNat*(1:Nat)+0]?=some (AV.sl (List.map c3 (S18 r1.toNat)))) (by((try simp only [Nat.mul_one,Nat.add_zero,Nat.zero_add]);with_reducible refine D6 ?_;omega)) (tL 6 c3 (S18 r1.toNat) (tB 7 (k17+1 <(↑(S18 r1.toNat).length:Int)) (oR 5 [.sl (List.map c3 (S18 r1.toNat))] z0))))))) ?_;rotate_left
  refine sn<|dC (k17+1 <(↑(S18 r1.toNat).length:Int)) (fun h30=>?_) fun h30=>?_
  refine sK<|sn<|sq<|bL 3<|rD cx [1,2,3,4,5,6,7,30] [1,2,3,8,5301] (fA (0≤r1) (fO (r1 <(↑(16:Nat):Int)) (fP ((F2 c3 16 S18)[r1.toNat*(1:Nat)+0]?=some (AV.sl (List.map c3 (S18 r1.toNat)))) (by((try simp only [Nat.mul_one,Nat.add_zero,Nat.zero_add]);with_reducible refine D6 ?_;omega)) (fA (0≤k17) (fG c3 (S18 r1.toNat) k17.toNat (fR 1 (oR 3 [.sl (List.map c3 (S18 r1.toNat))] (oR 5 (c3 (S18 r1.toNat)[k17.toNat]!) (zB 7 ((S18 r1.toNat)[k17.toNat]! =(1:Int))))))))))) (fun h31=>?_) fun h31=>?_
  refine sq<|rG cx [1,2,3,4,6,7] [1,2,3,8,5301] (fA (0≤r1) (fO (r1 <(↑(16:Nat):Int)) (fP ((F2 c3 16 S18)[r1.toNat*(1:Nat)+0]?=some (AV.sl (List.map c3 (S18 r1.toNat)))) (by((try simp only [Nat.mul_one,Nat.add_zero,Nat.zero_add]);with_reducible refine D6 ?_;omega)) (tT 7 (B5 (by omega) ?g3:AV.i .i64 (IntKind.i64.wrap (k17+1))=AV.i .i64 (k17+1)) (fO (0≤k17+1) (fG c3 (S18 r1.toNat) ((k17+1).toNat) (fR 1 (tT 10 (B5 ?g4 ?g5:AV.i .i64 (IntKind.i64.wrap ((S18 r1.toNat)[(k17+1).toNat]!-1))=AV.i .i64 ((S18 r1.toNat)[(k17+1).toNat]!-1)) (fA (0≤r1) (fP (r1.toNat <(List.map c3 v19).length) (by(first | omega | (simp only [List.length_map];omega))) (fR 1 (fG c3 v19 r1.toNat (fR 1 (fP (0+(1:Nat)≤1) (by(first | omega | (simp only [List.length_map];omega))) (fP ((List.map c3 v19).set r1.toNat (List.take (0) (c3 v19[r1.toNat]!)++D1 (AV.i .i64 ((S18 r1.toNat)[(k17+1).toNat]!-1))++List.drop (0+(1:Nat)) (c3 v19[r1.toNat]!))=List.map c3 (v19.set r1.toNat ((S18 r1.toNat)[(k17+1).toNat]!-1))) (by(with_reducible refine A2u ?_;kernel_rfl)) (oR 5 [.sl (List.map c3 (S18 r1.toNat))] (oR 8 (c3 (S18 r1.toNat)[(k17+1).toNat]!) (oV 12 { row:=(c3 v19[r1.toNat]!),rows:=some (List.map c3 (v19.set r1.toNat ((S18 r1.toNat)[(k17+1).toNat]!-1))) } z0)))))))))))))))))) ?_;rotate_left 3
  refine sn<|rG cx [1,2,3,4,6,7,5] [1,2,3,8,5301] (tW 1 (r1+1) z0)<|bN<|sn<|rG cx [1,2,3,4,6,7,5] [1,2,3,8,5301] (tT 1 (B5 (by omega) ?g6:AV.i .i64 (IntKind.i64.wrap (k17+2))=AV.i .i64 (k17+2)) z0) ?_;rotate_left
  refine sn<|nX ((r1+1,k17+2,S18,v19.set r1.toNat ((S18 r1.toNat)[(k17+1).toNat]!-1),c20)) (show((2:Int)*(↑(U r1.toNat).length:Int)-(k17+2)).toNat <((2:Int)*(↑(U r1.toNat).length:Int)-k17).toNat from ?g7) (show B6z U r1 n0 v3 c4 (r1+1) (k17+2) S18 (v19.set r1.toNat ((S18 r1.toNat)[(k17+1).toNat]!-1)) c20 from ?g8);rotate_left 2
  refine rA cx [1,2,3,4,5,6,7] [1,2,3,8,5301] (fA (0≤r1) (fO (r1 <(↑(16:Nat):Int)) (fP ((F2 c3 16 S18)[r1.toNat*(1:Nat)+0]?=some (AV.sl (List.map c3 (S18 r1.toNat)))) (by((try simp only [Nat.mul_one,Nat.add_zero,Nat.zero_add]);with_reducible refine D6 ?_;omega)) (fA (0≤k17) (fG c3 (S18 r1.toNat) k17.toNat (fR 1 (fA (0≤r1) (fO (r1 <(↑(16:Nat):Int)) (fP ((F2 c3 16 S18)[r1.toNat*(1:Nat)+0]?=some (AV.sl (List.map c3 (S18 r1.toNat)))) (by((try simp only [Nat.mul_one,Nat.add_zero,Nat.zero_add]);with_reducible refine D6 ?_;omega)) (tT 15 (B5 (by omega) ?g9:AV.i .i64 (IntKind.i64.wrap (k17+1))=AV.i .i64 (k17+1)) (fO (0≤k17+1) (fG c3 (S18 r1.toNat) ((k17+1).toNat) (fR 1 (tT 18 (B5 ?g10 ?g11:AV.i .i64 (IntKind.i64.wrap ((S18 r1.toNat)[(k17+1).toNat]!-1))=AV.i .i64 ((S18 r1.toNat)[(k17+1).toNat]!-1)) (fR 109 (fR 3 (fR 3 (fX B3 [{ rep:=r1,lo:=(S18 r1.toNat)[k17.toNat]!,hi:=(S18 r1.toNat)[(k17+1).toNat]!-1:Span }] 3 (fP ((List.map B3 c20).length+(List.map B3 [{ rep:=r1,lo:=(S18 r1.toNat)[k17.toNat]!,hi:=(S18 r1.toNat)[(k17+1).toNat]!-1:Span }]).length≤maxLen) ?g12 (fP (((List.map B3 c20).length+(List.map B3 [{ rep:=r1,lo:=(S18 r1.toNat)[k17.toNat]!,hi:=(S18 r1.toNat)[(k17+1).toNat]!-1:Span }]).length)*(24:Nat)≤(140737488355328:Nat)) ?g13 (fM B3 c20 [{ rep:=r1,lo:=(S18 r1.toNat)[k17.toNat]!,hi:=(S18 r1.toNat)[(k17+1).toNat]!-1:Span }] (oR 6 [.sl (List.map c3 (S18 r1.toNat))] (oR 8 (c3 (S18 r1.toNat)[k17.toNat]!) (oR 13 [.sl (List.map c3 (S18 r1.toNat))] (oR 16 (c3 (S18 r1.toNat)[(k17+1).toNat]!) (oV 21 { rows:=some (List.map B3 (c20++[{ rep:=r1,lo:=(S18 r1.toNat)[k17.toNat]!,hi:=(S18 r1.toNat)[(k17+1).toNat]!-1:Span }])) } z0)))))))))))))))))))))))))) ?_;rotate_left 5
  refine bN<|sn<|rG cx [1,2,3,4,5,6,7] [1,2,3,8,5301] (tT 1 (B5 (by omega) ?g14:AV.i .i64 (IntKind.i64.wrap (k17+2))=AV.i .i64 (k17+2)) z0) ?_;rotate_left
  refine sn<|nX ((n16,k17+2,S18,v19,c20++[{ rep:=r1,lo:=(S18 r1.toNat)[k17.toNat]!,hi:=(S18 r1.toNat)[(k17+1).toNat]!-1:Span }])) (show((2:Int)*(↑(U r1.toNat).length:Int)-(k17+2)).toNat <((2:Int)*(↑(U r1.toNat).length:Int)-k17).toNat from ?g15) (show B6z U r1 n0 v3 c4 n16 (k17+2) S18 v19 (c20++[{ rep:=r1,lo:=(S18 r1.toNat)[k17.toNat]!,hi:=(S18 r1.toNat)[(k17+1).toNat]!-1:Span }])from ?g16);rotate_left 2
  refine eX 2<|nE<|nE<|bH<|bN<|sn<|rG cx [1,2,3,4,5,6] [1,2,3,8,5301] (tW 1 (r1+1) z0)<|sn<|nX ((n16,r1+1,S18,v19,c20)) (show(16-(r1+1)).toNat <(16-r1).toNat from(by omega)) (show Bg6 U n16 (r1+1) S18 v19 c20 from ?g17);rotate_left
  refine eX 0<|nE<|nE<|bH<|sn<|sq<|rG cx [2,3] [2,3,8,5301] (fO ((0:Int)≤(0:Int)) (fA (0≤n0) (fP (n0≤(↑(List.map c3 v3).length:Int)) (by(first | omega | (simp only [List.length_map];omega))) (fP ((0:Int) <(↑(List.map c3 v3).length:Int)) (by(first | omega | (simp only [List.length_map];omega))) (fR (some (1)) z0))))) ?_
  refine sn<|sq<|T5 [8,5301] [2,3] [2,3] (σ':=⟨[(2,.ptr (2) (0) (0) (0)),(3,.ptr (3) (0) (0) (0))],[(2,⟨0,26,.var [.nl,.nl]⟩),(3,⟨0,26,.var [.sl (List.take (n0-0).toNat (List.drop (0) (List.map c3 v3))),.sl (List.map B3 c4)]⟩)]⟩) (by kernel_rfl)<|rG cx [2] [2] z0<|sn<|rT<|qR (.agg [.sl (List.take (n0-0).toNat (List.drop (0) (List.map c3 v3))),.sl (List.map B3 c4)]) (.eq ?g18);rotate_left
  rotate_left
  revert n0 r1 S2 v3 c4 hh6 hh7 hh8 hh9 h10 h11 h12 h13 h14 h15;rotate_left
  revert n0 r1 S2 v3 c4 hh6 hh7 hh8 hh9 h10 h11 h12 h13 h14 h15 n16 k17 S18 v19 c20 h22 h23 h24 h25 h26 h27 h28 h29;rotate_left
  revert n0 r1 S2 v3 c4 hh6 hh7 hh8 hh9 h10 h11 h12 h13 h14 h15 n16 k17 S18 v19 c20 h22 h23 h24 h25 h26 h27 h28 h29 h30 h31;rotate_left
  revert n0 r1 S2 v3 c4 hh6 hh7 hh8 hh9 h10 h11 h12 h13 h14 h15 n16 k17 S18 v19 c20 h22 h23 h24 h25 h26 h27 h28 h29 h30 h31;rotate_left
  revert n0 r1 S2 v3 c4 hh6 hh7 hh8 hh9 h10 h11 h12 h13 h14 h15 n16 k17 S18 v19 c20 h22 h23 h24 h25 h26 h27 h28 h29 h30 h31;rotate_left
  revert n0 r1 S2 v3 c4 hh6 hh7 hh8 hh9 h10 h11 h12 h13 h14 h15 n16 k17 S18 v19 c20 h22 h23 h24 h25 h26 h27 h28 h29 h30 h31;rotate_left
  revert n0 r1 S2 v3 c4 hh6 hh7 hh8 hh9 h10 h11 h12 h13 h14 h15 n16 k17 S18 v19 c20 h22 h23 h24 h25 h26 h27 h28 h29 h30 h31;rotate_left
  revert n0 r1 S2 v3 c4 hh6 hh7 hh8 hh9 h10 h11 h12 h13 h14 h15 n16 k17 S18 v19 c20 h22 h23 h24 h25 h26 h27 h28 h29 h30 h31;rotate_left
  revert n0 r1 S2 v3 c4 hh6 hh7 hh8 hh9 h10 h11 h12 h13 h14 h15 n16 k17 S18 v19 c20 h22 h23 h24 h25 h26 h27 h28 h29 h30 h31;rotate_left
  revert n0 r1 S2 v3 c4 hh6 hh7 hh8 hh9 h10 h11 h12 h13 h14 h15 n16 k17 S18 v19 c20 h22 h23 h24 h25 h26 h27 h28 h29 h30 h31;rotate_left
  revert n0 r1 S2 v3 c4 hh6 hh7 hh8 hh9 h10 h11 h12 h13 h14 h15 n16 k17 S18 v19 c20 h22 h23 h24 h25 h26 h27 h28 h29 h30 h31;rotate_left
  revert n0 r1 S2 v3 c4 hh6 hh7 hh8 hh9 h10 h11 h12 h13 h14 h15 n16 k17 S18 v19 c20 h22 h23 h24 h25 h26 h27 h28 h29 h30 h31;rotate_left
  revert n0 r1 S2 v3 c4 hh6 hh7 hh8 hh9 h10 h11 h12 h13 h14 h15 n16 k17 S18 v19 c20 h22 h23 h24 h25 h26 h27 h28 h29 h30 h31;rotate_left
  revert n0 r1 S2 v3 c4 hh6 hh7 hh8 hh9 h10 h11 h12 h13 h14 h15 n16 k17 S18 v19 c20 h22 h23 h24 h25 h26 h27 h28 h29 h30 h31;rotate_left
  revert n0 r1 S2 v3 c4 hh6 hh7 hh8 hh9 h10 h11 h12 h13 h14 h15 n16 k17 S18 v19 c20 h22 h23 h24 h25 h26 h27 h28 h29 h30 h31;rotate_left
  revert n0 r1 S2 v3 c4 hh6 hh7 hh8 hh9 h10 h11 h12 h13 h14 h15 n16 k17 S18 v19 c20 h22 h23 h24 h25 h26 h27 h28 h29 h30 h31;rotate_left
  revert n0 r1 S2 v3 c4 hh6 hh7 hh8 hh9 h10 h11 h12 h13 h14 h15 n16 k17 S18 v19 c20 h22 h23 h24 h25 h26 h27 h28 h29 h30;rotate_left
  revert n0 r1 S2 v3 c4 hh6 hh7 hh8 hh9 h10 h11 h12 h13 h14 h15;rotate_left
  case g0=>exact⟨rfl,by omega,by omega,by omega,by omega,by simp,rfl,by simp [A1a,A6v],rfl⟩
  case g1=>intro n r S v c h0 h1 h2 h3 h4 h5 h6 h7 h8 h9;exact⟨h0,by omega,by omega,by omega,by omega,by omega,by omega,B02 h1 h9 h7⟩
  case g18 =>
    intro n r S v c h0 h1 h2 h3 h4 h5 h6 h7 h8 h9
    rw[A8f h2 h9 h6 h7 h8]
    show AV.agg [AV.sl (List.take (n-0).toNat (List.drop 0 (List.map c3 v))),AV.sl (List.map B3 c)]=_
    rw[List.drop_zero,Int.sub_zero,← List.map_take]
    rfl
  all_goals
    intro n r S v c h0 h1 h2 h3 h4 h5 h6 h7 h8 h9 m k X w d k0 k1 k2 k3 k4 k5 k6 k7
    have hs:=hU r.toNat (by omega)
    have hl:=N4 hs
    have hd:=B74 hs h1 h9 h8 k7
    have ht:(tnS U r.toNat).length=2*(U r.toNat).length:=Ae9 _
    subst k0
  case g17 =>
    intro k8
    rw[ht]at k8
    obtain⟨a,b,e⟩:=B73 hs h1 h9 h6 h7 h8 k1 k3 (by omega) k2 k7
    exact⟨rfl,by omega,by omega,by omega,by omega,k4,a,b,e⟩
  case g8 =>
    intro k8 k9
    rw[ht]at k8
    obtain⟨e1,e2⟩:=Af0 (U:=U) (r:=r) k1 k3 (by omega)
    rw[e1]at k9
    rw[e2,Int.add_sub_cancel]
    exact⟨rfl,by omega,by omega,by omega,by rw[List.length_set];exact k4,by omega,by omega,B72 hs k1 k3 (by omega) k9 k7⟩
  case g16 =>
    intro k8 k9
    rw[ht]at k8
    obtain⟨e1,e2⟩:=Af0 (U:=U) (r:=r) k1 k3 (by omega)
    rw[e1]at k9
    rw[e1,e2,Int.add_sub_cancel]
    exact⟨rfl,by omega,by omega,by omega,k4,by omega,by omega,B3d k1 k3 (by omega) k9 k7⟩
  all_goals
    first
    | omega
    | (intro k8 k9
       rw[ht]at k8
       obtain⟨e1,e2⟩:=Af0 (U:=U) (r:=r) k1 k3 (by omega)
       have hb:=hs.2 _ (E4 (l:=U r.toNat) (i:=(k / 2).toNat) (by omega))
       simp only [e2,List.length_map,List.length_cons,List.length_nil,Go.maxLen]
       omega)
end Go.Proofs.YtokhjapfekbobaaGreat
namespace Go.Proofs.YtokhjapfekbobaaGreat
open Go.E
set_option maxRecDepth 100000
set_option maxHeartbeats 4000000
theorem B9c(p:Past)(hb:p.cloud.length*16≤140737488350000):Con Tryz.prog 137 [.agg (c26 p)] (.agg (c177 (tnS (E5 (A7 [p]))))) :=
 by
 refine sC A9 [.cell 2 177] 6 Tryz.func137 ?_
 intro e0 cx
 refine sq<|rG cx [1,2] [1,2] z0<|sn<|sq<|rG cx [2] [2] (fT (con178 ([p]) ?g0) (oA 2 (.agg (F2 c3 16 (tnS (E5 (A7 [p]))))) z0)) ?_;rotate_left
 refine sn<|rT<|qR (.agg [.sl (List.map c3 (tnS (E5 (A7 [p])) (0))),.sl (List.map c3 (tnS (E5 (A7 [p])) (1))),.sl (List.map c3 (tnS (E5 (A7 [p])) (2))),.sl (List.map c3 (tnS (E5 (A7 [p])) (3))),.sl (List.map c3 (tnS (E5 (A7 [p])) (4))),.sl (List.map c3 (tnS (E5 (A7 [p])) (5))),.sl (List.map c3 (tnS (E5 (A7 [p])) (6))),.sl (List.map c3 (tnS (E5 (A7 [p])) (7))),.sl (List.map c3 (tnS (E5 (A7 [p])) (8))),.sl (List.map c3 (tnS (E5 (A7 [p])) (9))),.sl (List.map c3 (tnS (E5 (A7 [p])) (10))),.sl (List.map c3 (tnS (E5 (A7 [p])) (11))),.sl (List.map c3 (tnS (E5 (A7 [p])) (12))),.sl (List.map c3 (tnS (E5 (A7 [p])) (13))),.sl (List.map c3 (tnS (E5 (A7 [p])) (14))),.sl (List.map c3 (tnS (E5 (A7 [p])) (15)))]) (.eq ?g1);rotate_left
 case g0=>exact(by rw[Ak7];omega)
 case g1=>exact rfl
theorem Bg7(p:Past)(hb:p.cloud.length*16≤140737488350000):Con Tryz.prog 87 [.agg (c26 p)] (.agg (c26 (A3 p))) :=
 by
 refine sC A9 [.cell 2 26] 6 Tryz.func87 ?_
 intro e0 cx
 refine sq<|rG cx [1,2] [1,2] z0<|sn<|sq<|rG cx [2] [2] (fT (B9c (p) (by(with_reducible assumption))) (fT (con136 (E5 (A7 [p])) ?g0) (oA 1 (.agg (F2 c3 16 (tnS (E5 (A7 [p]))))) (oA 2 (.agg [.sl (List.map c3 (F6 (E5 (A7 [p]))).vec),.sl (List.map B3 (F6 (E5 (A7 [p]))).cloud)]) z0)))) ?_;rotate_left
 refine sn<|rT<|qR (.agg [.sl (List.map c3 (F6 (E5 (A7 [p]))).vec),.sl (List.map B3 (F6 (E5 (A7 [p]))).cloud)]) (.eq ?g1);rotate_left
 case g0=>exact(B62 _)
 case g1=>exact(by rw[A8h];rfl)
theorem B03(p:Past)(hb:p.cloud.length*16≤140737488350000)(hv:p.vec.length≤9223372036854775807):Con Tryz.prog 39 [.agg (c26 p)] (.b (decide (p=A3 p))) :=
 by
 refine sC A9 [.tmp 2] 7 Tryz.func39 ?_
 intro e0 cx
 refine sq<|rG cx [1] [1] z0<|sn<|sq<|rA cx [2] [] (fT (Bg7 (p) (by(with_reducible assumption))) (fT (B6r (p) (A3 p) (by(with_reducible assumption)) (by omega)) (oA 2 (.agg [.sl (List.map c3 (A3 p).vec),.sl (List.map B3 (A3 p).cloud)]) (oA 3 (.b (decide (p=A3 p))) z0))))<|sn<|rT ?_
 exact Ab4 (r:=.b (decide (p=A3 p))) (obl:=[]) (by kernel_rfl) trivial (C1.refl _)
end Go.Proofs.YtokhjapfekbobaaGreat
namespace Go.Proofs.YtokhjapfekbobaaGreat
open Go.E
set_option maxRecDepth 100000
set_option maxHeartbeats 4000000
def Bg8(U:Nat→List Run)(n r:Int)(S:Nat→List Int):Prop:=S=tnS U∧0≤r∧r≤16∧n=sizeT U r.toNat
def decRs(n r:Int)(S:Nat→List Int):Nat:=(16-r).toNat
def Bg9(U:Nat→List Run)(r n0 n k:Int)(S:Nat→List Int):Prop:=S=tnS U∧0≤k∧k≤2*(U r.toNat).length∧2*(k / 2)=k∧n=n0+H8 ((U r.toNat).take (k / 2).toNat)
def decRt(U:Nat→List Run)(r n k:Int)(S:Nat→List Int):Nat:=(2*(U r.toNat).length-k).toNat
theorem B9d{T:Nat→List Run}(r:Nat):nrm (E5 T r)=E5 T r:=Ak8 _
theorem Af1(T:Nat→List Run):∀ n:Nat,sizeT (E5 T) n=sizeT T n
 | 0=>rfl
 | n+1=>by rw[sizeT,sizeT,Af1 T n,B9d];rfl
theorem B3e{l:List Run}{k:Int}(h0:0≤k)(he:2*(k / 2)=k)(h:k+1 < 2*l.length):H8 (l.take ((k+2) / 2).toNat)=H8 (l.take (k / 2).toNat)+(l[(k / 2).toNat]!.hi-l[(k / 2).toNat]!.lo+1):=by
 rw[show(k+2) / 2=k / 2+1 by omega]
 exact A74 (by omega) (by omega)
theorem con138(p:Past)(hb:p.cloud.length*16≤140737488350000):Con Tryz.prog 138 [.agg (c26 p)] (.i .i64 (B8 p)) :=
 by
 have hl:∀ r,(E5 (A7 [p]) r).length≤500000000:=fun r=>N4 (D3 _)
 have hz:∀ n,0≤sizeT (E5 (A7 [p])) n∧sizeT (E5 (A7 [p])) n≤n*1000000000:=A28 _
 have hk:∀ r n,0≤H8 ((E5 (A7 [p]) r).take n)∧H8 ((E5 (A7 [p]) r).take n)≤1000000000:=fun r n=>A27 (Ad5 (D3 _) n)
 have hr:∀(r:Nat) (k:Int),0≤k→k+1 < 2*(E5 (A7 [p]) r).length→1≤(E5 (A7 [p]) r)[(k / 2).toNat]!.lo∧(E5 (A7 [p]) r)[(k / 2).toNat]!.lo≤(E5 (A7 [p]) r)[(k / 2).toNat]!.hi∧(E5 (A7 [p]) r)[(k / 2).toNat]!.hi≤1000000000 :=
  fun r k h0 h1=>(D3 _).2 _ (E4 (by have h2:k+1 < 2*(nrm (A7 [p] r)).length:=h1;omega))
 have ht:∀ r,(tnS (E5 (A7 [p])) r).length=2*(E5 (A7 [p]) r).length:=fun r=>Ae9 _
 have hs:=Af1 (A7 [p])
 have hU:∀ r,nrm (E5 (A7 [p]) r)=E5 (A7 [p]) r:=B9d
 have hP:B8 p=sizeT (E5 (A7 [p])) 16:=(A8o p).trans (hs 16).symm
 clear hs
 refine sC A9 [.tmp 2] 42 Tryz.func138 ?_
 intro e0 cx
 refine sq<|rG cx [1] [1] z0<|sn<|sq<|rG cx [3] [3] (fT (B9c (p) (by(with_reducible assumption))) (oA 1 (.agg (F2 c3 16 (tnS (E5 (A7 [p]))))) z0))<|sn<|sq<|rG cx [3,4] [3] z0<|sn<|sq<|sq<|rG cx [3,4,5] [3] z0<|sn<|bL 0<|N0 3 ⟨0,177,.var [.sl (List.map c3 (tnS (E5 (A7 [p])) (0))),.sl (List.map c3 (tnS (E5 (A7 [p])) (1))),.sl (List.map c3 (tnS (E5 (A7 [p])) (2))),.sl (List.map c3 (tnS (E5 (A7 [p])) (3))),.sl (List.map c3 (tnS (E5 (A7 [p])) (4))),.sl (List.map c3 (tnS (E5 (A7 [p])) (5))),.sl (List.map c3 (tnS (E5 (A7 [p])) (6))),.sl (List.map c3 (tnS (E5 (A7 [p])) (7))),.sl (List.map c3 (tnS (E5 (A7 [p])) (8))),.sl (List.map c3 (tnS (E5 (A7 [p])) (9))),.sl (List.map c3 (tnS (E5 (A7 [p])) (10))),.sl (List.map c3 (tnS (E5 (A7 [p])) (11))),.sl (List.map c3 (tnS (E5 (A7 [p])) (12))),.sl (List.map c3 (tnS (E5 (A7 [p])) (13))),.sl (List.map c3 (tnS (E5 (A7 [p])) (14))),.sl (List.map c3 (tnS (E5 (A7 [p])) (15)))]⟩ [.sl (List.map c3 (tnS (E5 (A7 [p])) (0))),.sl (List.map c3 (tnS (E5 (A7 [p])) (1))),.sl (List.map c3 (tnS (E5 (A7 [p])) (2))),.sl (List.map c3 (tnS (E5 (A7 [p])) (3))),.sl (List.map c3 (tnS (E5 (A7 [p])) (4))),.sl (List.map c3 (tnS (E5 (A7 [p])) (5))),.sl (List.map c3 (tnS (E5 (A7 [p])) (6))),.sl (List.map c3 (tnS (E5 (A7 [p])) (7))),.sl (List.map c3 (tnS (E5 (A7 [p])) (8))),.sl (List.map c3 (tnS (E5 (A7 [p])) (9))),.sl (List.map c3 (tnS (E5 (A7 [p])) (10))),.sl (List.map c3 (tnS (E5 (A7 [p])) (11))),.sl (List.map c3 (tnS (E5 (A7 [p])) (12))),.sl (List.map c3 (tnS (E5 (A7 [p])) (13))),.sl (List.map c3 (tnS (E5 (A7 [p])) (14))),.sl (List.map c3 (tnS (E5 (A7 [p])) (15)))] (F2 c3 16 (tnS (E5 (A7 [p])))) (σ':=⟨[(3,.ptr (3) (0) (0) (0)),(4,.i .i64 ((0:Int))),(5,.i .i64 ((0:Int)))],[(3,⟨0,177,.arr (F2 c3 16 (tnS (E5 (A7 [p]))))⟩)]⟩) (by kernel_rfl) (by kernel_rfl) (by kernel_rfl) (by kernel_rfl) (ZLe.of_eq (by kernel_rfl)) (by kernel_rfl)<|sL (X:=Int×Int×(Nat→List Int)) (fun x=>⟨[(3,.ptr (3) (0) (0) (0)),(4,.i .i64 (x.1)),(5,.i .i64 (x.2.1))],[(3,⟨0,177,.arr (F2 c3 16 x.2.2)⟩)]⟩) (fun x ↦ decRs x.1 x.2.1 x.2.2) (fun x ↦ Bg8 (E5 (A7 [p])) x.1 x.2.1 x.2.2) [3,4,5] [3] (((0:Int),(0:Int),tnS (E5 (A7 [p])))) (show Bg8 (E5 (A7 [p])) (0:Int) (0:Int) (tnS (E5 (A7 [p])))from ?g0) ?_;rotate_left
 rintro⟨n0,r1,S2⟩ h_3
 obtain⟨hh4,h5,hh6,h7⟩:S2=tnS (E5 (A7 [p]))∧0≤r1∧r1≤16∧n0=sizeT (E5 (A7 [p])) r1.toNat:=h_3
 refine sq<|rD cx [3,4,5,10] [3] (zB 1 (r1 <(16:Int))) (fun h8=>?_) fun h8=>?_
 refine sK<|sn<|sq<|bL 1<|sq<|rG cx [3,4,5,6] [3] z0<|sn<|bL 2<|sL (X:=Int×Int×(Nat→List Int)) (fun x=>⟨[(3,.ptr (3) (0) (0) (0)),(4,.i .i64 (x.1)),(5,.i .i64 (r1)),(6,.i .i64 (x.2.1))],[(3,⟨0,177,.arr (F2 c3 16 x.2.2)⟩)]⟩) (fun x ↦ decRt (E5 (A7 [p])) r1 x.1 x.2.1 x.2.2) (fun x ↦ Bg9 (E5 (A7 [p])) r1 n0 x.1 x.2.1 x.2.2) [3,4,5,6] [3] ((n0,(0:Int),S2)) (show Bg9 (E5 (A7 [p])) r1 n0 n0 (0:Int) S2 from ?g1) ?_;rotate_left
 rintro⟨n9,k10,S11⟩ h_12
 obtain⟨h13,h14,h15,h16,h17⟩:S11=tnS (E5 (A7 [p]))∧0≤k10∧k10≤(2:Int)*(↑(E5 (A7 [p]) r1.toNat).length:Int)∧(2:Int)*(k10 / (2:Int))=k10∧n9=n0+H8 (List.take (k10 / (2:Int)).toNat (E5 (A7 [p]) r1.toNat)):=h_12
 refine sq<|sq<|rG cx [3,4,5,6,20] [3] (tT 1 (B5 (by omega) ?g2:AV.i .i64 (IntKind.i64.wrap (k10+1))=AV.i .i64 (k10+1)) (fA (0≤r1) (fO (r1 <(↑(16:Nat):Int)) (fP ((F2 c3 16 S11)[r1.toNat*(1:Nat)+0]?=some (AV.sl (List.map c3 (S11 r1.toNat)))) (by((try simp only [Nat.mul_one,Nat.add_zero,Nat.zero_add]);with_reducible refine D6 ?_;omega)) (tL 6 c3 (S11 r1.toNat) (tB 7 (k10+1 <(↑(S11 r1.toNat).length:Int)) (oR 5 [.sl (List.map c3 (S11 r1.toNat))] z0))))))) ?_;rotate_left
 refine sn<|dC (k10+1 <(↑(S11 r1.toNat).length:Int)) (fun h18=>?_) fun h18=>?_
 refine sK<|sn<|sq<|bL 3<|rA cx [3,4,5,6] [3] (fA (0≤r1) (fO (r1 <(↑(16:Nat):Int)) (fP ((F2 c3 16 S11)[r1.toNat*(1:Nat)+0]?=some (AV.sl (List.map c3 (S11 r1.toNat)))) (by((try simp only [Nat.mul_one,Nat.add_zero,Nat.zero_add]);with_reducible refine D6 ?_;omega)) (tT 6 (B5 (by omega) ?g3:AV.i .i64 (IntKind.i64.wrap (k10+1))=AV.i .i64 (k10+1)) (fO (0≤k10+1) (fG c3 (S11 r1.toNat) ((k10+1).toNat) (fR 1 (fA (0≤r1) (fO (r1 <(↑(16:Nat):Int)) (fP ((F2 c3 16 S11)[r1.toNat*(1:Nat)+0]?=some (AV.sl (List.map c3 (S11 r1.toNat)))) (by((try simp only [Nat.mul_one,Nat.add_zero,Nat.zero_add]);with_reducible refine D6 ?_;omega)) (fA (0≤k10) (fG c3 (S11 r1.toNat) k10.toNat (fR 1 (tT 16 (B5 ?g4 ?g5:AV.i .i64 (IntKind.i64.wrap ((S11 r1.toNat)[(k10+1).toNat]!-(S11 r1.toNat)[k10.toNat]!))=AV.i .i64 ((S11 r1.toNat)[(k10+1).toNat]!-(S11 r1.toNat)[k10.toNat]!)) (tT 17 (B5 ?g6 ?g7:AV.i .i64 (IntKind.i64.wrap (n9+((S11 r1.toNat)[(k10+1).toNat]!-(S11 r1.toNat)[k10.toNat]!)))=AV.i .i64 (n9+((S11 r1.toNat)[(k10+1).toNat]!-(S11 r1.toNat)[k10.toNat]!))) (oR 4 [.sl (List.map c3 (S11 r1.toNat))] (oR 7 (c3 (S11 r1.toNat)[(k10+1).toNat]!) (oR 12 [.sl (List.map c3 (S11 r1.toNat))] (oR 14 (c3 (S11 r1.toNat)[k10.toNat]!) z0))))))))))))))))))) ?_;rotate_left 5
 refine bN<|sn<|rG cx [3,4,5,6] [3] (tT 1 (B5 (by omega) ?g8:AV.i .i64 (IntKind.i64.wrap (k10+2))=AV.i .i64 (k10+2)) z0) ?_;rotate_left
 refine sn<|nX ((n9+((S11 r1.toNat)[(k10+1).toNat]!-(S11 r1.toNat)[k10.toNat]!),k10+2,S11)) (show((2:Int)*(↑(E5 (A7 [p]) r1.toNat).length:Int)-(k10+2)).toNat <((2:Int)*(↑(E5 (A7 [p]) r1.toNat).length:Int)-k10).toNat from ?g9) (show Bg9 (E5 (A7 [p])) r1 n0 (n9+((S11 r1.toNat)[(k10+1).toNat]!-(S11 r1.toNat)[k10.toNat]!)) (k10+2) S11 from ?g10);rotate_left 2
 refine eX 2<|nE<|nE<|bH<|bN<|sn<|rG cx [3,4,5] [3] (tW 1 (r1+1) z0)<|sn<|nX ((n9,r1+1,S11)) (show(16-(r1+1)).toNat <(16-r1).toNat from(by omega)) (show Bg8 (E5 (A7 [p])) n9 (r1+1) S11 from ?g11);rotate_left
 refine eX 0<|nE<|nE<|bH<|sn<|sq<|rG cx [2] [] z0<|sn<|rT<|qR (.i .i64 (n0)) (.eq ?g12);rotate_left
 rotate_left
 revert n0 r1 S2 hh4 h5 hh6 h7 h8;rotate_left
 revert n0 r1 S2 hh4 h5 hh6 h7 h8 n9 k10 S11 h13 h14 h15 h16 h17;rotate_left
 revert n0 r1 S2 hh4 h5 hh6 h7 h8 n9 k10 S11 h13 h14 h15 h16 h17 h18;rotate_left
 revert n0 r1 S2 hh4 h5 hh6 h7 h8 n9 k10 S11 h13 h14 h15 h16 h17 h18;rotate_left
 revert n0 r1 S2 hh4 h5 hh6 h7 h8 n9 k10 S11 h13 h14 h15 h16 h17 h18;rotate_left
 revert n0 r1 S2 hh4 h5 hh6 h7 h8 n9 k10 S11 h13 h14 h15 h16 h17 h18;rotate_left
 revert n0 r1 S2 hh4 h5 hh6 h7 h8 n9 k10 S11 h13 h14 h15 h16 h17 h18;rotate_left
 revert n0 r1 S2 hh4 h5 hh6 h7 h8 n9 k10 S11 h13 h14 h15 h16 h17 h18;rotate_left
 revert n0 r1 S2 hh4 h5 hh6 h7 h8 n9 k10 S11 h13 h14 h15 h16 h17 h18;rotate_left
 revert n0 r1 S2 hh4 h5 hh6 h7 h8 n9 k10 S11 h13 h14 h15 h16 h17 h18;rotate_left
 revert n0 r1 S2 hh4 h5 hh6 h7 h8 n9 k10 S11 h13 h14 h15 h16 h17 h18;rotate_left
 revert n0 r1 S2 hh4 h5 hh6 h7 h8;rotate_left
 all_goals generalize E5 (A7 [p])=U at *
 case g0=>exact⟨rfl,by omega,by omega,rfl⟩
 case g1=>intro n r S h0 h1 h2 h3 h4;exact⟨h0,by omega,by omega,by omega,by simp [H8]⟩
 case g2=>intro n r S h0 h1 h2 h3 h4 m k R k0 k1 k2 k3 k4;have:=hl r.toNat;omega
 case g3=>intro n r S h0 h1 h2 h3 h4 m k R k0 k1 k2 k3 k4 k5;have:=hl r.toNat;omega
 case g4 =>
  intro n r S h0 h1 h2 h3 h4 m k R k0 k1 k2 k3 k4 k5
  subst k0;rw[ht]at k5
  have:=Af0 (U:=U) (r:=r) k1 k3 (by omega);have:=hr r.toNat k k1 (by omega);omega
 case g5 =>
  intro n r S h0 h1 h2 h3 h4 m k R k0 k1 k2 k3 k4 k5
  subst k0;rw[ht]at k5
  have:=Af0 (U:=U) (r:=r) k1 k3 (by omega);have:=hr r.toNat k k1 (by omega);omega
 case g6 =>
  intro n r S h0 h1 h2 h3 h4 m k R k0 k1 k2 k3 k4 k5
  subst k0;rw[ht]at k5
  have:=Af0 (U:=U) (r:=r) k1 k3 (by omega);have:=hr r.toNat k k1 (by omega)
  have:=hz r.toNat;have:=hk r.toNat (k / 2).toNat;omega
 case g7 =>
  intro n r S h0 h1 h2 h3 h4 m k R k0 k1 k2 k3 k4 k5
  subst k0;rw[ht]at k5
  have:=Af0 (U:=U) (r:=r) k1 k3 (by omega);have:=hr r.toNat k k1 (by omega)
  have:=hz r.toNat;have:=hk r.toNat (k / 2).toNat;omega
 case g8=>intro n r S h0 h1 h2 h3 h4 m k R k0 k1 k2 k3 k4 k5;have:=hl r.toNat;omega
 case g9=>intro n r S h0 h1 h2 h3 h4 m k R k0 k1 k2 k3 k4 k5;subst k0;rw[ht]at k5;omega
 case g10 =>
  intro n r S h0 h1 h2 h3 h4 m k R k0 k1 k2 k3 k4 k5
  subst k0;rw[ht]at k5
  have h6:=Af0 (U:=U) (r:=r) k1 k3 (by omega)
  refine⟨rfl,by omega,by omega,by omega,?_⟩
  rw[B3e k1 k3 (by omega)]
  omega
 case g11 =>
  intro n r S h0 h1 h2 h3 h4 m k R k0 k1 k2 k3 k4 k5
  subst k0;rw[ht]at k5
  refine⟨rfl,by omega,by omega,?_⟩
  rw[show(r+1).toNat=r.toNat+1 by omega,sizeT,hU,k4,h3,List.take_of_length_le (by omega)]
 case g12=>intro n r S h0 h1 h2 h3 h4;rw[h3,hP,show r.toNat=16 by omega]
theorem con91(p:Past)(hb:p.cloud.length*16≤140737488350000):Con Tryz.prog 91 [.agg (c26 p)] (.b (decide (B8 p=0))) :=
 by
 refine sC A9 [.tmp 2] 6 Tryz.func91 ?_
 intro e0 cx
 refine sq<|rG cx [1] [1] z0<|sn<|sq<|rG cx [2] [] (fT (con138 (p) (by(with_reducible assumption))) (tB 2 (B8 p=0) (oA 1 (.i .i64 (B8 p)) z0)))<|sn<|rT ?_
 exact Ab4 (r:=.b (decide (B8 p=0))) (obl:=[]) (by kernel_rfl) trivial (C1.refl _)
end Go.Proofs.YtokhjapfekbobaaGreat
namespace Go.Proofs.YtokhjapfekbobaaGreat
open Go.E
set_option maxRecDepth 100000
set_option maxHeartbeats 4000000
def Al8(x y:Past)(r:Int)(u:List Int)(c:List Span)(v:List Int)(d:List Span):Prop:=u=x.vec∧c=x.cloud∧v=y.vec∧d=y.cloud∧0≤r∧r≤16∧Ah6 x.vec y.vec r
def decRc(r:Int)(u:List Int)(c:List Span)(v:List Int)(d:List Span):Nat:=(16-r).toNat
def Bh0(x y:Past)(i:Int)(u:List Int)(c:List Span)(v:List Int)(d:List Span):Prop:=c=x.cloud∧d=y.cloud∧0≤i∧i≤x.cloud.length∧i≤y.cloud.length∧O2 x.cloud y.cloud=O2 (x.cloud.drop i.toNat) (y.cloud.drop i.toNat)
def decRd2(x:Past)(i:Int)(u:List Int)(c:List Span)(v:List Int)(d:List Span):Nat:=(x.cloud.length-i).toNat
theorem A5c(a b:Int):Con Tryz.prog 177 [.i .i64 a,.i .i64 b] (.i .i64 (I4 a b)) :=
 by
 refine sC A9 [.tmp 4] 11 Tryz.func177 ?_
 intro e0 cx
 refine sq<|rG cx [0,1] [] z0<|sn<|sq<|rD cx [0,1,7] [] (zB 2 (a < b)) (fun h0=>?_) fun h0=>?_
 refine sq<|rG cx [4] [] z0<|sn<|rT<|nR<|qR (.i .i64 ((-1:Int))) (.eq (by unfold I4;rw[if_pos h0]))
 refine sK<|sn<|sq<|rD cx [10] [] (zB 2 (b < a)) (fun h1=>?_) fun h1=>?_
 refine sq<|rG cx [4] [] z0<|sn<|rT<|nR<|qR (.i .i64 ((1:Int))) (.eq (by unfold I4;rw[if_neg h0,if_pos h1]))
 refine sK<|sn<|sq<|rG cx [4] [] z0<|sn<|rT<|qR (.i .i64 ((0:Int))) (.eq (by unfold I4;rw[if_neg h0,if_neg h1]))
theorem con134(p q:Past)(hb:p.cloud.length*16≤140737488350000)(hq:q.cloud.length*16≤140737488350000):Con Tryz.prog 134 [.agg (c26 p),.agg (c26 q)] (.i .i64 (A3o p q)) :=
 by
 have D:∀ {r:Int} {u v:List Int},u=(A3 p).vec→v=(A3 q).vec→0≤r→r < 16→∀ {a b:Int},u[r.toNat]! = a→v[r.toNat]! = b→¬ a=b→Ah6 (A3 p).vec (A3 q).vec r→I4 a b=A3o p q:=by
  intro r u v e1 e3 h0 h1 a b ha hb hn h
  rw[e1]at ha
  rw[e3]at hb
  have e:=B2n h0 h1 (by rw[ha,hb];exact hn) h
  rw[ha,hb]at e
  exact(B8u e (A1c hn)).symm
 have N:∀ {r:Int} {u v:List Int} {c d:List Span},u=(A3 p).vec→c=(A3 p).cloud→v=(A3 q).vec→d=(A3 q).cloud→0≤r→r < 16→∀ {a b:Int},u[r.toNat]! = a→v[r.toNat]! = b→¬ ¬ a=b→Ah6 (A3 p).vec (A3 q).vec r→Al8 (A3 p) (A3 q) (r+1) u c v d:=by
  intro r u v c d e1 e2 e3 e4 h0 h1 a b ha hb hn h
  have e:=B2o h0 h1 (by rw[← e1,← e3,ha,hb];exact Classical.not_not.1 hn) h
  exact⟨e1,e2,e3,e4,e.1,e.2.1,e.2.2⟩
 have S1:∀ {s t:Span},¬ s.rep=t.rep→I4 s.rep t.rep=A25 s t:=fun {s t} h=>by unfold A25;rw[if_pos (A1c h)]
 have S2:∀ {s t:Span},s.rep=t.rep→¬ s.lo=t.lo→I4 s.lo t.lo=A25 s t:=fun {s t} h0 h=>by unfold A25;rw[if_neg (fun k=>k (I7.2 h0)),if_pos (A1c h)]
 have S3:∀ {s t:Span},s.rep=t.rep→s.lo=t.lo→I4 s.hi t.hi=A25 s t:=fun {s t} h0 h=>by unfold A25;rw[if_neg (fun k=>k (I7.2 h0)),if_neg (fun k=>k (I7.2 h))]
 have E:∀ {i z:Int} {c d:List Span},c=(A3 p).cloud→d=(A3 q).cloud→0≤i→(i < c.length∧i < d.length)→O2 (A3 p).cloud (A3 q).cloud=O2 ((A3 p).cloud.drop i.toNat) ((A3 q).cloud.drop i.toNat)→A8l (A3 p).vec (A3 q).vec 0 16=0→¬ z=0→z=A25 c[i.toNat]! d[i.toNat]!→z=A3o p q:=by
  intro i z c d e1 e2 h0 hl h hf hz e
  rw[e1,e2]at hl e
  rw[A8m hf,B2k h0 hl.1 hl.2 (by rw[← e];exact hz) h]
  exact e
 refine sC A9 [.tmp 4] 106 Tryz.func134 ?_
 intro e0 cx
 refine sq<|rG cx [2,3] [2,3] z0<|sn<|sq<|rG cx [2,3] [2,3] (fT (Bg7 (p) (by(with_reducible assumption))) (oA 1 (.agg [.sl (List.map c3 (A3 p).vec),.sl (List.map B3 (A3 p).cloud)]) z0))<|sn<|sq<|rG cx [2,3] [2,3] (fT (Bg7 (q) (by(with_reducible assumption))) (oA 1 (.agg [.sl (List.map c3 (A3 q).vec),.sl (List.map B3 (A3 q).cloud)]) z0))<|sn<|sq<|sq<|rG cx [2,3,5] [2,3] z0<|sn<|bL 0<|sL (X:=Int×List Int×List Span×List Int×List Span) (fun x=>⟨[(2,.ptr (2) (0) (0) (0)),(3,.ptr (3) (0) (0) (0)),(5,.i .i64 (x.1))],[(2,⟨0,26,.var [.sl (List.map c3 x.2.1),.sl (List.map B3 x.2.2.1)]⟩),(3,⟨0,26,.var [.sl (List.map c3 x.2.2.2.1),.sl (List.map B3 x.2.2.2.2)]⟩)]⟩) (fun x ↦ decRc x.1 x.2.1 x.2.2.1 x.2.2.2.1 x.2.2.2.2) (fun x ↦ Al8 (A3 p) (A3 q) x.1 x.2.1 x.2.2.1 x.2.2.2.1 x.2.2.2.2) [2,3,5] [2,3] (((0:Int),(A3 p).vec,(A3 p).cloud,(A3 q).vec,(A3 q).cloud)) (show Al8 (A3 p) (A3 q) (0:Int) (A3 p).vec (A3 p).cloud (A3 q).vec (A3 q).cloud from(by exact⟨Eq.refl _,Eq.refl _,Eq.refl _,Eq.refl _,by omega,by omega,Eq.refl _⟩)) ?_
 rintro⟨r0,u1,c2,v3,d4⟩ h_5
 obtain⟨h6,h7,h8,h9,h10,h11,h12⟩:u1=(A3 p).vec∧c2=(A3 p).cloud∧v3=(A3 q).vec∧d4=(A3 q).cloud∧0≤r0∧r0≤16∧Ah6 (A3 p).vec (A3 q).vec r0:=h_5
 refine sq<|rD cx [2,3,5,16] [2,3] (zB 1 (r0 <(16:Int))) (fun h13=>?_) fun h13=>?_
 refine sK<|sn<|sq<|bL 1<|sq<|rG cx [2,3,5,6,7] [2,3] z0<|sn<|sq<|rD cx [2,3,5,6,7,23] [2,3] (tL 3 c3 u1 (zB 4 (r0 <(↑u1.length:Int)))) (fun h14=>?_) fun h14=>?_
 refine rG cx [2,3,5,6,7] [2,3] (fA (0≤r0) (fG c3 u1 r0.toNat (fR 1 (oR 3 (c3 u1[r0.toNat]!) z0))))<|sn<|sq<|rD cx [2,3,5,6,7,33] [2,3] (tL 3 c3 v3 (zB 4 (r0 <(↑v3.length:Int)))) (fun h15=>?_) fun h15=>?_
 refine rG cx [2,3,5,6,7] [2,3] (fA (0≤r0) (fG c3 v3 r0.toNat (fR 1 (oR 3 (c3 v3[r0.toNat]!) z0))))<|sn<|sq<|rG cx [2,3,5,6,7,41] [2,3] (tN 2 u1[r0.toNat]! v3[r0.toNat]! z0)<|sn<|dC (¬u1[r0.toNat]! = v3[r0.toNat]!) (fun h16=>?_) fun h16=>?_
 refine sq<|rG cx [4] [] (fT (A5c (u1[r0.toNat]!) (v3[r0.toNat]!)) (oA 2 (.i .i64 (I4 u1[r0.toNat]! v3[r0.toNat]!)) z0))<|sn<|rT<|bR<|nR<|nR<|bR<|nR<|qR (.i .i64 (I4 u1[r0.toNat]! v3[r0.toNat]!)) (.eq (by exact congrArg (AV.i .i64) (D h6 h8 h10 h13 (Eq.refl _) (Eq.refl _) h16 h12)))
 refine sK<|bN<|sn<|rG cx [2,3,5] [2,3] (tW 1 (r0+1) z0)<|sn<|nX ((r0+1,u1,c2,v3,d4)) (show(16-(r0+1)).toNat <(16-r0).toNat from(by omega)) (show Al8 (A3 p) (A3 q) (r0+1) u1 c2 v3 d4 from(by exact N h6 h7 h8 h9 h10 h13 (Eq.refl _) (Eq.refl _) h16 h12))
 refine sK<|sn<|sq<|rG cx [2,3,5,6,7,41] [2,3] (tN 2 u1[r0.toNat]! (0:Int) z0)<|sn<|dC (¬u1[r0.toNat]! =(0:Int)) (fun h17=>?_) fun h17=>?_
 refine sq<|rG cx [4] [] (fT (A5c (u1[r0.toNat]!) ((0:Int))) (oA 2 (.i .i64 (I4 u1[r0.toNat]! (0:Int))) z0))<|sn<|rT<|bR<|nR<|nR<|bR<|nR<|qR (.i .i64 (I4 u1[r0.toNat]! (0:Int))) (.eq (by exact congrArg (AV.i .i64) (D h6 h8 h10 h13 (Eq.refl _) (O5 h10 h15) h17 h12)))
 refine sK<|bN<|sn<|rG cx [2,3,5] [2,3] (tW 1 (r0+1) z0)<|sn<|nX ((r0+1,u1,c2,v3,d4)) (show(16-(r0+1)).toNat <(16-r0).toNat from(by omega)) (show Al8 (A3 p) (A3 q) (r0+1) u1 c2 v3 d4 from(by exact N h6 h7 h8 h9 h10 h13 (Eq.refl _) (O5 h10 h15) h17 h12))
 refine sK<|sn<|sq<|rD cx [2,3,5,6,7,33] [2,3] (tL 3 c3 v3 (zB 4 (r0 <(↑v3.length:Int)))) (fun h18=>?_) fun h18=>?_
 refine rG cx [2,3,5,6,7] [2,3] (fA (0≤r0) (fG c3 v3 r0.toNat (fR 1 (oR 3 (c3 v3[r0.toNat]!) z0))))<|sn<|sq<|rG cx [2,3,5,6,7,41] [2,3] (tN 2 (0:Int) v3[r0.toNat]! z0)<|sn<|dC (¬0=v3[r0.toNat]!) (fun h19=>?_) fun h19=>?_
 refine sq<|rG cx [4] [] (fT (A5c ((0:Int)) (v3[r0.toNat]!)) (oA 2 (.i .i64 (I4 (0:Int) v3[r0.toNat]!)) z0))<|sn<|rT<|bR<|nR<|nR<|bR<|nR<|qR (.i .i64 (I4 (0:Int) v3[r0.toNat]!)) (.eq (by exact congrArg (AV.i .i64) (D h6 h8 h10 h13 (O5 h10 h14) (Eq.refl _) h19 h12)))
 refine sK<|bN<|sn<|rG cx [2,3,5] [2,3] (tW 1 (r0+1) z0)<|sn<|nX ((r0+1,u1,c2,v3,d4)) (show(16-(r0+1)).toNat <(16-r0).toNat from(by omega)) (show Al8 (A3 p) (A3 q) (r0+1) u1 c2 v3 d4 from(by exact N h6 h7 h8 h9 h10 h13 (O5 h10 h14) (Eq.refl _) h19 h12))
 refine sK<|sn<|sq<|rG cx [2,3,5,6,7,41] [2,3] z0<|sn<|A1t (by kernel_rfl) (by kernel_rfl)<|sK<|bN<|sn<|rG cx [2,3,5] [2,3] (tW 1 (r0+1) z0)<|sn<|nX ((r0+1,u1,c2,v3,d4)) (show(16-(r0+1)).toNat <(16-r0).toNat from(by omega)) (show Al8 (A3 p) (A3 q) (r0+1) u1 c2 v3 d4 from(by exact N h6 h7 h8 h9 h10 h13 (O5 h10 h14) (O5 h10 h18) (fun k=>k (Eq.refl _)) h12))
 refine eX 0<|nE<|nE<|bH<|sn<|sq<|sq<|rG cx [2,3,8] [2,3] z0<|sn<|bL 2<|sL (X:=Int×List Int×List Span×List Int×List Span) (fun x=>⟨[(2,.ptr (2) (0) (0) (0)),(3,.ptr (3) (0) (0) (0)),(8,.i .i64 (x.1))],[(2,⟨0,26,.var [.sl (List.map c3 x.2.1),.sl (List.map B3 x.2.2.1)]⟩),(3,⟨0,26,.var [.sl (List.map c3 x.2.2.2.1),.sl (List.map B3 x.2.2.2.2)]⟩)]⟩) (fun x ↦ decRd2 (A3 p) x.1 x.2.1 x.2.2.1 x.2.2.2.1 x.2.2.2.2) (fun x ↦ Bh0 (A3 p) (A3 q) x.1 x.2.1 x.2.2.1 x.2.2.2.1 x.2.2.2.2) [2,3,8] [2,3] (((0:Int),u1,c2,v3,d4)) (show Bh0 (A3 p) (A3 q) (0:Int) u1 c2 v3 d4 from(by exact⟨h7,h9,by omega,by omega,by omega,Eq.refl _⟩)) ?_
 rintro⟨i20,u21,c22,v23,d24⟩ h_25
 obtain⟨h26,h27,h28,h29,h30,h31⟩:c22=(A3 p).cloud∧d24=(A3 q).cloud∧0≤i20∧i20≤(↑(A3 p).cloud.length:Int)∧i20≤(↑(A3 q).cloud.length:Int)∧O2 (A3 p).cloud (A3 q).cloud=O2 (List.drop i20.toNat (A3 p).cloud) (List.drop i20.toNat (A3 q).cloud):=h_25
 refine sq<|sq<|B4 (σ':=⟨[(2,.ptr (2) (0) (0) (0)),(3,.ptr (3) (0) (0) (0)),(8,.i .i64 (i20)),(56,.b (decide (i20 <(↑c22.length:Int)∧i20 <(↑d24.length:Int))))],[(2,⟨0,26,.var [.sl (List.map c3 u21),.sl (List.map B3 c22)]⟩),(3,⟨0,26,.var [.sl (List.map c3 v23),.sl (List.map B3 d24)]⟩)]⟩) ?_ ?_
 refine A4 (i20 <(↑c22.length:Int)) (fun h_33=>?_) (fun h_33=>?_)
 refine rG cx [2,3,8,56] [2,3] (tL 3 B3 c22 (tT 4 (A6 h_33) (tL 9 B3 d24 (tB 10 (i20 <(↑d24.length:Int)) (tD 11 (decide (i20 <(↑d24.length:Int))) (i20 <(↑c22.length:Int)∧i20 <(↑d24.length:Int)) (by simp only [eq_true h_33,tsl]) z0))))) ?_
 exact⟨rfl,by kernel_rfl⟩
 refine rG cx [2,3,8,56] [2,3] (tL 3 B3 c22 (tT 4 (A0 h_33) (tD 11 false (i20 <(↑c22.length:Int)∧i20 <(↑d24.length:Int)) (by simp only [eq_false h_33,tsl]) z0))) ?_
 exact⟨rfl,by kernel_rfl⟩
 refine sn<|dC (i20 <(↑c22.length:Int)∧i20 <(↑d24.length:Int)) (fun h34=>?_) fun h34=>?_
 refine sK<|sn<|sq<|bL 3<|sq<|rA cx [2,3,8,9,10] [2,3,9,10] (fA (0≤i20) (fG B3 c22 i20.toNat (fR 3 (fN 3 3 (fA (0≤i20) (fG B3 d24 i20.toNat (fR 3 (fN 3 3 (oR 3 (B3 c22[i20.toNat]!) (oR 8 (B3 d24[i20.toNat]!) z0))))))))))<|sn<|sq<|sq<|rG cx [2,3,8,9,10,73] [2,3,9,10] (tN 4 c22[i20.toNat]!.rep d24[i20.toNat]!.rep z0)<|sn<|dC (¬c22[i20.toNat]!.rep=d24[i20.toNat]!.rep) (fun h35=>?_) fun h35=>?_
 refine sq<|rG cx [4] [] (fT (A5c (c22[i20.toNat]!.rep) (d24[i20.toNat]!.rep)) (oA 4 (.i .i64 (I4 c22[i20.toNat]!.rep d24[i20.toNat]!.rep)) z0))<|sn<|rT<|nR<|bR<|nR<|nR<|bR<|nR<|qR (.i .i64 (I4 c22[i20.toNat]!.rep d24[i20.toNat]!.rep)) (.eq ?g9);rotate_left
 refine sK<|sn<|sq<|sq<|rG cx [2,3,8,9,10,83] [2,3,9,10] (tN 4 c22[i20.toNat]!.lo d24[i20.toNat]!.lo z0)<|sn<|dC (¬c22[i20.toNat]!.lo=d24[i20.toNat]!.lo) (fun h36=>?_) fun h36=>?_
 refine sq<|rG cx [4] [] (fT (A5c (c22[i20.toNat]!.lo) (d24[i20.toNat]!.lo)) (oA 4 (.i .i64 (I4 c22[i20.toNat]!.lo d24[i20.toNat]!.lo)) z0))<|sn<|rT<|nR<|bR<|nR<|nR<|bR<|nR<|qR (.i .i64 (I4 c22[i20.toNat]!.lo d24[i20.toNat]!.lo)) (.eq ?g10);rotate_left
 refine sK<|sn<|sq<|rG cx [2,3,8,9,10,93] [2,3,9,10] (tN 4 c22[i20.toNat]!.hi d24[i20.toNat]!.hi z0)<|sn<|dC (¬c22[i20.toNat]!.hi=d24[i20.toNat]!.hi) (fun h37=>?_) fun h37=>?_
 refine sq<|rG cx [4] [] (fT (A5c (c22[i20.toNat]!.hi) (d24[i20.toNat]!.hi)) (oA 4 (.i .i64 (I4 c22[i20.toNat]!.hi d24[i20.toNat]!.hi)) z0))<|sn<|rT<|bR<|nR<|nR<|bR<|nR<|qR (.i .i64 (I4 c22[i20.toNat]!.hi d24[i20.toNat]!.hi)) (.eq ?g11);rotate_left
 refine sK<|bN<|sn<|rG cx [2,3,8] [2,3] (tT 1 (B5 (by omega) (by have:=(P9 (A7 [p])).1;have h29:i20≤((F6 (A7 [p])).cloud.length:Int):=h29;omega):AV.i .i64 (IntKind.i64.wrap (i20+1))=AV.i .i64 (i20+1)) z0) ?_
 refine sn<|nX ((i20+1,u21,c22,v23,d24)) (show((↑(A3 p).cloud.length:Int)-(i20+1)).toNat <((↑(A3 p).cloud.length:Int)-i20).toNat from ?g13) (show Bh0 (A3 p) (A3 q) (i20+1) u21 c22 v23 d24 from ?g14);rotate_left 2
 refine eX 2<|nE<|nE<|bH<|sn<|sq<|rG cx [4] [] (tL 2 B3 c22 (tL 5 B3 d24 (fT (A5c ((↑c22.length:Int)) ((↑d24.length:Int))) (oA 6 (.i .i64 (I4 (↑c22.length:Int) (↑d24.length:Int))) z0))))<|sn<|rT<|qR (.i .i64 (I4 (↑c22.length:Int) (↑d24.length:Int))) (.eq ?g15);rotate_left
 case g9 =>
  exact congrArg (AV.i .i64) (E h26 h27 h28 h34 h31 (Ad1 h11 h13 h12) (A1c h35) (S1 h35))
 case g10 =>
  exact congrArg (AV.i .i64) (E h26 h27 h28 h34 h31 (Ad1 h11 h13 h12) (A1c h36) (S2 (Classical.not_not.1 h35) h36))
 case g11 =>
  exact congrArg (AV.i .i64) (E h26 h27 h28 h34 h31 (Ad1 h11 h13 h12) (A1c h37) (S3 (Classical.not_not.1 h35) (Classical.not_not.1 h36)))
 case g13 =>
  rw[h26]at h34
  generalize (A3 p).cloud.length=L at *
  omega
 case g14 =>
  have k6':=h34
  rw[h26,h27]at k6'
  have e:A25 c22[i20.toNat]! d24[i20.toNat]! = 0:=by rw[← S3 (Classical.not_not.1 h35) (Classical.not_not.1 h36)];exact I7.2 (Classical.not_not.1 h37)
  rw[h26,h27]at e
  have:=B2l h28 k6'.1 k6'.2 e h31
  exact⟨h26,h27,this.1,this.2.1,this.2.2.1,this.2.2.2⟩
 case g15 =>
  rw[h26,h27]at h34 ⊢
  refine congrArg (AV.i .i64) ?_
  rw[A8m (Ad1 h11 h13 h12)]
  by_cases a:i20 <((A3 p).cloud.length:Int)
  ·have b:¬ i20 <((A3 q).cloud.length:Int):=fun b=>h34 ⟨a,b⟩
   rw[B2h h28 a b h31]
   unfold I4
   rw[if_neg (by omega),if_pos (by omega)]
  ·by_cases b:i20 <((A3 q).cloud.length:Int)
   ·rw[B2i h28 a b h31]
    unfold I4
    rw[if_pos (by omega)]
   ·rw[B2j a b h31]
    unfold I4
    rw[if_neg (by omega),if_neg (by omega)]
end Go.Proofs.YtokhjapfekbobaaGreat
namespace Go.Proofs.YtokhjapfekbobaaGreat
open Go.E
set_option maxRecDepth 100000
set_option maxHeartbeats 4000000
def szP(p:Past):Prop:=p.cloud.length*16≤140737488350000∧p.vec.length≤9223372036854775807
def szQ(rs:List Record):Prop:=∀ r∈rs,szP r.past
theorem B04{rs:List Record}(h:szQ rs):B0o rs:=fun r hr=>(h r hr).1
theorem At7{rs:List Record}(h:szQ rs){i:Int}(h0:0≤i)(hi:i < rs.length):szP rs[i.toNat]!.past:=h _ (E4 (by omega))
theorem Bh1{rs:List Record}(h:szQ rs){i:Int}(h0:0 < i)(hi:i < rs.length):szP rs[(i-1).toNat]!.past:=h _ (E4 (by omega))
end Go.Proofs.YtokhjapfekbobaaGreat
namespace Go.Proofs.YtokhjapfekbobaaGreat
open Go.E
set_option maxRecDepth 100000
set_option maxHeartbeats 4000000
def Bh2(A B:Nat→List Run)(r:Int)(T:Nat→List Run):Prop:=∀ k:Nat,k < 16→T k=if(k:Int) < r then Ac6 (A k) (B k)else A k
def Bh3(A B:Nat→List Run)(r:Int)(T U:Nat→List Run):Prop:=U=B∧0≤r∧r≤16∧Bh2 A B r T
theorem B75(A B:Nat→List Run):Bh2 A B 0 A:=fun k _=>by rw[if_neg (by omega)]
theorem eb_at{A B T:Nat→List Run}{r:Int}(h0:0≤r)(h1:r < 16)(h:Bh2 A B r T):T r.toNat=A r.toNat:=by
 rw[h r.toNat (by omega),if_neg (by omega)]
theorem Bh4{A B T:Nat→List Run}{r:Int}(h0:0≤r)(h1:r < 16)(h:Bh2 A B r T):Bh2 A B (r+1) (L5 T r.toNat (Ac6 (T r.toNat) (B r.toNat))):=by
 intro k hk
 unfold L5
 by_cases e:k=r.toNat
 ·subst e
  rw[if_pos rfl,if_pos (by omega),eb_at h0 h1 h]
 ·rw[if_neg e,h k hk]
  by_cases c:(k:Int) < r
  ·rw[if_pos c,if_pos (by omega)]
  ·rw[if_neg c,if_neg (by omega)]
theorem eb_end{A B T:Nat→List Run}{r:Int}(hr:r≤16)(h1:¬ r < 16)(h:Bh2 A B r T):F6 T=F6 fun k=>Ac6 (A k) (B k):=W1 fun k hk=>by
 rw[h k hk,if_pos (by omega)]
theorem B76(a b:List Run):(Ac6 a b).length≤500000000:=N4 (B63 a b)
theorem Bh5{l:List Run}(h:U9 l):l=[]↔∀ n,¬ inR l n:=by
 constructor
 ·rintro rfl n ⟨r,hr,_⟩;cases hr
 ·intro k
  cases l with
  | nil=>rfl
  | cons r l =>
   have:=h.2 r (by simp)
   exact absurd ⟨r,by simp,by omega,by omega⟩ (k r.lo)
theorem B3f(a b:Past):B8 (B1 a b)=0↔∀ r:Nat,r < 16→A0v (A7 [a] r) (A7 [b] r)=[]:=by
 rw[A0o]
 constructor
 ·intro h r hr
  rw[Bh5 (A8k _ _)]
  intro n hn
  have hs:=A8k (A7 [a] r) (A7 [b] r)
  obtain⟨x,hx,h1,h2⟩:=hn
  have hx':=hs.2 x hx
  have:=h ⟨r,n⟩
  have k:C8 (B1 a b) ⟨r,n⟩=true:=by
   unfold B1
   rw[L9]
   refine⟨?_,⟨x,hx,h1,h2⟩⟩
   unfold P7
   simp
   omega
  rw[k]at this
  cases this
 ·intro h d
  rw[← Bool.not_eq_true]
  unfold B1
  rw[L9]
  rintro⟨h1,h2⟩
  have hr:d.rep.toNat < 16:=by
   unfold P7 at h1
   simp at h1
   omega
  rw[h _ hr]at h2
  obtain⟨x,hx,_⟩:=h2
  cases hx
def isWi(A B:Nat→List Run)(r:Int):Prop:=∀ k:Nat,(k:Int) < r→A0v (A k) (B k)=[]
def Bh6(A B:Nat→List Run)(r:Int)(T U:Nat→List Run):Prop:=T=A∧U=B∧0≤r∧r≤16∧isWi A B r
theorem B77(b:List Run):A0v [] b=[]:=by
 unfold A0v
 have:nrm ([]:List Run)=[]:=Ac5 ⟨List.Pairwise.nil,fun r hr=>by cases hr⟩
 rw[this,N8]
theorem B78(a b:Past)(ha:a.cloud.length*16≤140737488350000)(hb:b.cloud.length*16≤140737488350000):Con Tryz.prog 100 [.agg (c26 a),.agg (c26 b),.fn (.func 142) [] []] (.agg (c26 (A9n a b))) :=
 by
 refine sC A9 [.cell 6 26] 38 Tryz.func100 ?_
 intro e0 cx
 refine sq<|rG cx [2,3,4,6] [3,4,6] z0<|sn<|sq<|rA cx [2,6,7,8] [6,12,15] (fT (A21 ([a]) (by exact A3h ha)) (fT (A21 ([b]) (by exact A3h hb)) (oV 2 { val:=some (.ptr ((155:Nat)) (0) (0) (0)),row:=(F2 c181 16 (A7 [a])) } (oV 5 { val:=some (.ptr ((155:Nat)) (0) (0) (0)),row:=(F2 c181 16 (A7 [b])) } z0)))) ?_
 refine sn<|sq<|sq<|rG cx [2,6,7,8,16] [6,12,15] z0<|sn<|bL 0<|sL (X:=Int×(Nat→List Run)×(Nat→List Run)) (fun x=>⟨[(2,.fn (Fn.func (142:FuncId)) [] []),(6,.ptr (6) (0) (0) (0)),(7,.ptr (12) (0) (0) (0)),(8,.ptr (15) (0) (0) (0)),(16,.i .i64 (x.1))],[(6,⟨0,26,.var [.nl,.nl]⟩),(12,⟨0,155,.arr (F2 c181 16 x.2.1)⟩),(15,⟨0,155,.arr (F2 c181 16 x.2.2)⟩)]⟩) (fun x ↦ Be7 x.1 x.2.1 x.2.2) (fun x ↦ Bh3 (A7 [a]) (A7 [b]) x.1 x.2.1 x.2.2) [2,6,7,8,16] [6,12,15] (((0:Int),A7 [a],A7 [b])) (show Bh3 (A7 [a]) (A7 [b]) (0:Int) (A7 [a]) (A7 [b])from(by exact⟨rfl,by omega,by omega,B75 _ _⟩)) ?_
 rintro⟨r0,T1,U2⟩ h_3
 obtain⟨h4,h5,h6,h7⟩:U2=A7 [b]∧0≤r0∧r0≤16∧Bh2 (A7 [a]) (A7 [b]) r0 T1:=h_3
 refine rE cx [2,6,7,8,16,17] [6,12,15] (zB 0 (r0 <(16:Int))) (fun h8=>?_) fun h8=>?_
 refine sK<|sn<|sq<|bL 1<|sq<|rG cx [2,6,7,8,16,9] [6,12,15] z0<|sn<|rA cx [2,6,7,8,16] [6,12,15] (fA (0≤r0) (fO (r0 <(↑(16:Nat):Int)) (fP ((F2 c181 16 T1)[r0.toNat*(1:Nat)+0]?=some (AV.sl (List.map c181 (T1 r0.toNat)))) (by((try simp only [Nat.mul_one,Nat.add_zero,Nat.zero_add]);with_reducible refine D6 ?_;omega)) (fA (0≤r0) (fO (r0 <(↑(16:Nat):Int)) (fP ((F2 c181 16 U2)[r0.toNat*(1:Nat)+0]?=some (AV.sl (List.map c181 (U2 r0.toNat)))) (by((try simp only [Nat.mul_one,Nat.add_zero,Nat.zero_add]);with_reducible refine D6 ?_;omega)) (fT (B94 (T1 r0.toNat) (U2 r0.toNat) (by rw[eb_at h5 h8 h7];exact A1e ha _) (by subst h4;exact A1e hb _)) (fA (0≤r0) (fO (r0 <(↑(16:Nat):Int)) (fP (r0.toNat*(1:Nat)+0 <(F2 c181 16 T1).length) (by rw[T6];omega) (fR [(D1 (AV.sl (List.map c181 (Ac6 (T1 r0.toNat) (U2 r0.toNat))))).headD AV.dead] (fP ((F2 c181 16 T1).set (r0.toNat*(1:Nat)+0) ((D1 (AV.sl (List.map c181 (Ac6 (T1 r0.toNat) (U2 r0.toNat))))).headD AV.dead)=F2 c181 16 (L5 T1 r0.toNat (Ac6 (T1 r0.toNat) (U2 r0.toNat)))) (by((try simp only [Nat.mul_one,Nat.add_zero,Nat.zero_add]);(with_reducible refine A4k ?_);exact Eq.refl _)) (oR 7 [.sl (List.map c181 (T1 r0.toNat))] (oR 12 [.sl (List.map c181 (U2 r0.toNat))] (oA 13 (.sl (List.map c181 (Ac6 (T1 r0.toNat) (U2 r0.toNat)))) (oV 16 { rows:=some [(F2 c181 16 (L5 T1 r0.toNat (Ac6 (T1 r0.toNat) (U2 r0.toNat))))] } z0)))))))))))))))) ?_
 refine bN<|sn<|rG cx [2,6,7,8,16] [6,12,15] (tW 0 (r0+1) z0)<|sn<|nX ((r0+1,L5 T1 r0.toNat (Ac6 (T1 r0.toNat) (U2 r0.toNat)),U2)) (show(16-(r0+1)).toNat <(16-r0).toNat from(by omega)) (show Bh3 (A7 [a]) (A7 [b]) (r0+1) (L5 T1 r0.toNat (Ac6 (T1 r0.toNat) (U2 r0.toNat))) U2 from(by subst h4;exact⟨rfl,by omega,by omega,Bh4 h5 h8 h7⟩))
 refine eX 0<|nE<|nE<|bH<|sn<|sq<|rG cx [6] [6] (fT (Ac1 (T1) ?g7) (oA 1 (.agg [.sl (List.map c3 (F6 T1).vec),.sl (List.map B3 (F6 T1).cloud)]) z0)) ?_;rotate_left
 refine sn<|rT<|qR (.agg [.sl (List.map c3 (F6 T1).vec),.sl (List.map B3 (F6 T1).cloud)]) (.eq (by rw[eb_end h6 h8 h7];rfl))
 case g7=>revert r0 T1 U2 h4 h5 h6 h7 h8;intro r T U k0 k1 k2 k3 k4 q hq;rw[k3 q hq,if_pos (by omega)];have:=B76 (A7 [a] q) (A7 [b] q);omega
theorem con130(a b:Past)(ha:a.cloud.length*16≤140737488350000)(hb:b.cloud.length*16≤140737488350000):Con Tryz.prog 130 [.agg (c26 a),.agg (c26 b)] (.agg (c26 (A9n a b))) :=
 by
 refine sC A9 [.cell 4 26] 8 Tryz.func130 ?_
 intro e0 cx
 refine sq<|rG cx [2,3,4] [2,3,4] z0<|sn<|sq<|rG cx [4] [4] (fT (B78 (a) (b) (by(with_reducible assumption)) (by(with_reducible assumption))) (oA 2 (.agg [.sl (List.map c3 (A9n a b).vec),.sl (List.map B3 (A9n a b).cloud)]) z0))<|sn<|rT<|qR (.agg [.sl (List.map c3 (A9n a b).vec),.sl (List.map B3 (A9n a b).cloud)]) (.eq ?g0);rotate_left
 case g0=>exact rfl
theorem con122(a b:List Run)(ha:a.length*16≤140737488351232)(hb:b.length*16≤140737488351232):Con Tryz.prog 122 [.sl (a.map c181),.sl (b.map c181)] (.b (decide (((A0v a b).length:Int)=0))) :=
 by
 refine lN 0 c181 (a) Tryz.func122 fun hl_0=>lN 1 c181 (b) Tryz.func122 fun hl_1=>sC A9 [.tmp 4] 10 Tryz.func122 ?_
 intro e0 cx
 refine sq<|rG cx [0,1] [] z0<|sn<|sq<|rG cx [4] [] (fT (B95 (a) (b) (by(with_reducible assumption)) (by(with_reducible assumption))) (tL 3 c181 (A0v a b) (tB 4 ((↑(A0v a b).length:Int)=0) (oA 2 (.sl (List.map c181 (A0v a b))) z0))))<|sn<|rT ?_
 exact Ab4 (r:=.b (decide ((↑(A0v a b).length:Int)=0))) (obl:=[]) (by kernel_rfl) trivial (C1.refl _)
theorem con69(a b:Past)(ha:a.cloud.length*16≤140737488350000)(hb:b.cloud.length*16≤140737488350000):Con Tryz.prog 69 [.agg (c26 a),.agg (c26 b)] (.b (decide (B8 (B1 a b)=0))) :=
 by
 refine sC A9 [.tmp 4] 39 Tryz.func69 ?_
 intro e0 cx
 refine sq<|rG cx [2,3] [2,3] z0<|sn<|sq<|rA cx [5,6] [10,13] (fT (A21 ([a]) (by exact A3h ha)) (fT (A21 ([b]) (by exact A3h hb)) (oV 2 { val:=some (.ptr ((155:Nat)) (0) (0) (0)),row:=(F2 c181 16 (A7 [a])) } (oV 5 { val:=some (.ptr ((155:Nat)) (0) (0) (0)),row:=(F2 c181 16 (A7 [b])) } z0)))) ?_
 refine sn<|sq<|sq<|rG cx [5,6,14] [10,13] z0<|sn<|bL 0<|sL (X:=Int×(Nat→List Run)×(Nat→List Run)) (fun x=>⟨[(5,.ptr (10) (0) (0) (0)),(6,.ptr (13) (0) (0) (0)),(14,.i .i64 (x.1))],[(10,⟨0,155,.arr (F2 c181 16 x.2.1)⟩),(13,⟨0,155,.arr (F2 c181 16 x.2.2)⟩)]⟩) (fun x ↦ Be7 x.1 x.2.1 x.2.2) (fun x ↦ Bh6 (A7 [a]) (A7 [b]) x.1 x.2.1 x.2.2) [5,6,14] [10,13] (((0:Int),A7 [a],A7 [b])) (show Bh6 (A7 [a]) (A7 [b]) (0:Int) (A7 [a]) (A7 [b])from(by exact⟨rfl,rfl,by omega,by omega,fun k hk=>by omega⟩)) ?_
 rintro⟨r0,T1,U2⟩ h_3
 obtain⟨hh4,h5,h6,h7,h8⟩:T1=A7 [a]∧U2=A7 [b]∧0≤r0∧r0≤16∧isWi (A7 [a]) (A7 [b]) r0:=h_3
 refine rE cx [5,6,14,15] [10,13] (zB 0 (r0 <(16:Int))) (fun h9=>?_) fun h9=>?_
 refine sK<|sn<|sq<|bL 1<|sq<|rG cx [5,6,14,7] [10,13] z0<|sn<|sq<|B4 (σ':=⟨[(5,.ptr (10) (0) (0) (0)),(6,.ptr (13) (0) (0) (0)),(14,.i .i64 (r0)),(37,.b (decide ((0:Int) <(↑(T1 r0.toNat).length:Int)∧¬(↑(A0v (T1 r0.toNat) (U2 r0.toNat)).length:Int)=0)))],[(10,⟨0,155,.arr (F2 c181 16 T1)⟩),(13,⟨0,155,.arr (F2 c181 16 U2)⟩)]⟩) ?_ ?_
 refine A4 ((0:Int) <(↑(T1 r0.toNat).length:Int)) (fun h11=>?_) (fun h11=>?_)
 refine rA cx [5,6,14,37] [10,13] (fA (0≤r0) (fO (r0 <(↑(16:Nat):Int)) (fP ((F2 c181 16 T1)[r0.toNat*(1:Nat)+0]?=some (AV.sl (List.map c181 (T1 r0.toNat)))) (by((try simp only [Nat.mul_one,Nat.add_zero,Nat.zero_add]);with_reducible refine D6 ?_;omega)) (tL 5 c181 (T1 r0.toNat) (tT 6 (A6 h11) (fA (0≤r0) (fO (r0 <(↑(16:Nat):Int)) (fP ((F2 c181 16 T1)[r0.toNat*(1:Nat)+0]?=some (AV.sl (List.map c181 (T1 r0.toNat)))) (by((try simp only [Nat.mul_one,Nat.add_zero,Nat.zero_add]);with_reducible refine D6 ?_;omega)) (fA (0≤r0) (fO (r0 <(↑(16:Nat):Int)) (fP ((F2 c181 16 U2)[r0.toNat*(1:Nat)+0]?=some (AV.sl (List.map c181 (U2 r0.toNat)))) (by((try simp only [Nat.mul_one,Nat.add_zero,Nat.zero_add]);with_reducible refine D6 ?_;omega)) (fT (con122 (T1 r0.toNat) (U2 r0.toNat) (by subst hh4;exact A1e ha _) (by subst h5;exact A1e hb _)) (tQ 19 ((↑(A0v (T1 r0.toNat) (U2 r0.toNat)).length:Int)=0) (tD 20 (decide ¬(↑(A0v (T1 r0.toNat) (U2 r0.toNat)).length:Int)=0) ((0:Int) <(↑(T1 r0.toNat).length:Int)∧¬(↑(A0v (T1 r0.toNat) (U2 r0.toNat)).length:Int)=0) (by simp only [eq_true h11,tsl]) (oR 4 [.sl (List.map c181 (T1 r0.toNat))] (oR 12 [.sl (List.map c181 (T1 r0.toNat))] (oR 17 [.sl (List.map c181 (U2 r0.toNat))] (oA 18 (.b (decide ((↑(A0v (T1 r0.toNat) (U2 r0.toNat)).length:Int)=0))) z0)))))))))))))))))) ?_
 exact⟨rfl,by kernel_rfl⟩
 refine rA cx [5,6,14,37] [10,13] (fA (0≤r0) (fO (r0 <(↑(16:Nat):Int)) (fP ((F2 c181 16 T1)[r0.toNat*(1:Nat)+0]?=some (AV.sl (List.map c181 (T1 r0.toNat)))) (by((try simp only [Nat.mul_one,Nat.add_zero,Nat.zero_add]);with_reducible refine D6 ?_;omega)) (tL 5 c181 (T1 r0.toNat) (tT 6 (A0 h11) (tD 20 false ((0:Int) <(↑(T1 r0.toNat).length:Int)∧¬(↑(A0v (T1 r0.toNat) (U2 r0.toNat)).length:Int)=0) (by simp only [eq_false h11,tsl]) (oR 4 [.sl (List.map c181 (T1 r0.toNat))] z0))))))) ?_
 exact⟨rfl,by kernel_rfl⟩
 refine sn<|dC ((0:Int) <(↑(T1 r0.toNat).length:Int)∧¬(↑(A0v (T1 r0.toNat) (U2 r0.toNat)).length:Int)=0) (fun h12=>?_) fun h12=>?_
 refine sq<|rG cx [4] [] z0<|sn<|rT<|bR<|nR<|nR<|bR<|nR<|qR (.b (false)) (.eq ?g5);rotate_left
 refine sK<|bN<|sn<|rG cx [5,6,14] [10,13] (tW 0 (r0+1) z0)<|sn<|nX ((r0+1,T1,U2)) (show(16-(r0+1)).toNat <(16-r0).toNat from(by omega)) (show Bh6 (A7 [a]) (A7 [b]) (r0+1) T1 U2 from ?g6);rotate_left
 refine eX 0<|nE<|nE<|bH<|sn<|sq<|rG cx [4] [] z0<|sn<|rT<|qR (.b (true)) (.eq ?g7);rotate_left
 case g5 =>
  subst hh4 h5
  refine congrArg AV.b (decide_eq_false fun k=>h12.2 ?_).symm
  rw[(B3f a b).1 k r0.toNat (by omega)]
  rfl
 case g6 =>
  subst hh4 h5
  refine⟨rfl,rfl,by omega,by omega,fun k hk=>?_⟩
  by_cases e:k=r0.toNat
  ·subst e
   by_cases c:A7 [a] r0.toNat=[]
   ·rw[c,B77]
   ·have hp:=List.length_pos_iff.2 c
    exact List.eq_nil_of_length_eq_zero (by
     have:=Classical.not_not.1 fun q=>h12 ⟨by omega,q⟩
     omega)
  ·exact h8 k (by omega)
 case g7 =>
  refine congrArg AV.b (decide_eq_true ?_).symm
  exact(B3f a b).2 fun k hk=>h8 k (by omega)
end Go.Proofs.YtokhjapfekbobaaGreat
namespace Go.E
def rlo{α:Type}(n:Nat):Result α→Prop
 | .ok _ w=>n≤w.drawn
 | .halt _ w=>n≤w.drawn
def glo(n:Nat):GStep→Prop
 | .go _ w _=>n≤w.drawn
 | .comm _ _ _ _ w _=>n≤w.drawn
 | .spawn _ _ w _=>n≤w.drawn
 | .count _ w _=>n≤w.drawn
 | .timer _ _ w _=>n≤w.drawn
 | .alone _ _ w _=>n≤w.drawn
 | .newcoro _ _ _ w _=>n≤w.drawn
 | .coroswitch _ _ _ w _=>n≤w.drawn
 | .collect _ w _=>n≤w.drawn
 | .watch _ w _=>n≤w.drawn
 | .ended _ _ _=>True
def slo(n:Nat):Stepped→Prop
 | .next m=>n≤m.world.drawn
 | .ended _ _=>True
def mlo(n:Nat):Move→Prop
 | .goroutine m _=>n≤m.world.drawn
 | .machine s _=>slo n s
theorem M6{n k:Nat}(h:n≤k){s:GStep}(hs:glo k s):glo n s:=by
 cases s <;> first | trivial | exact Nat.le_trans h hs
theorem A77{n k:Nat}(h:n≤k){s:Stepped}(hs:slo k s):slo n s:=by
 cases s <;> first | trivial | exact Nat.le_trans h hs
theorem Af2{n k:Nat}(h:n≤k){s:Move}(hs:mlo k s):mlo n s:=by
 cases s with
 | goroutine m i=>exact Nat.le_trans h hs
 | machine s ops=>exact A77 h hs
theorem R8(n:Nat)(es:Array Event)(s:GStep):glo n (GStep.after es s)=glo n s:=by cases s <;> rfl
theorem A8y{α:Type}:∀(x:Ask α) (w:World),w.drawn≤(w.ask x).2.drawn
 | .done a,w=>Nat.le_refl _
 | .ask what range k,w=>by
  unfold World.ask
  simp only
  split
  ·exact A8y (k 0) w
  ·exact Nat.le_trans (Nat.le_succ _) (A8y _ { w with drawn:=w.drawn+1 })
theorem At8(w:World)(c:Sys):w.drawn≤(w.sys c).2.drawn:=by
 unfold World.sys
 have h:=A8y (Kernel.perform c w.os) w
 split
 ·exact Nat.le_refl _
 ·rename_i heq
  rw[heq]at h
  exact h
theorem B3g{p:Program}{w:World}{a k:Addr}{u:TypeId}{v:Value}{t:Bool}{r:World×List Addr}(h:w.viewStore p a u k v t=.ok r):r.1.drawn=w.drawn:=by
 unfold World.viewStore at h
 simp only [bind,Except.bind,pure,Except.pure,throw,throwThe,MonadExceptOf.throw]at h
 repeat' (split at h)
 all_goals first | (cases h;done) | (cases h;rfl) | (injection h with h;subst h;rfl)
theorem At9{p:Program}{w w':World}{a:Addr}{v:Value}{t:Bool}{l:List Addr}(h:w.farStore p a v t=.ok (w',l)):w'.drawn=w.drawn:=by
 unfold World.farStore at h
 split at h
 ·split at h
  ·rename_i r heq
   injection h with h
   subst h
   exact B3g heq
  ·cases h
 ·cases h
theorem A5d(w:World)(a:Addr)(n:Nat):(w.freeze a n).drawn=w.drawn:=by
 unfold World.freeze
 split <;> rfl
theorem Au0{α:Type}{n k:Nat}(h:n≤k){r:Result α}(hr:rlo k r):rlo n r:=by cases r <;> exact Nat.le_trans h hr
theorem A8z{α:Type}(p:Program)(s:Sem α):∀ w:World,rlo w.drawn (s.run p w):=by
 induction s with
 | pure a=>intro w;exact Nat.le_refl _
 | load m a k ih =>
  intro w
  unfold Sem.run
  split
  ·exact ih _ w
  ·split
   ·exact ih _ w
   ·exact Nat.le_refl _
 | store m a v k ih =>
  intro w
  have far:rlo w.drawn (match w.cell? a with
   | some _=>if w.frozen? a then Result.halt (.unsupported (.unsafePointer "a write to bytes that a string shares")) w else k.run p (w.setCell a v)
   | none=>match w.farStore p a v (m == .atomic)with
    | .ok (w,_)=>k.run p w
    | .error h=>Result.halt h w):=by
   split
   ·split
    ·exact Nat.le_refl _
    ·exact ih (w.setCell a v)
   ·split
    ·rename_i heq
     have:=ih ‹World›
     have e:=At9 heq
     rw[e]at this
     exact this
    ·exact Nat.le_refl _
  cases v <;> first | exact far | exact Nat.le_refl _
 | new o k ih=>intro w;exact ih w.heap.size { w with heap:=w.heap.push o }
 | shape r k ih=>intro w;exact ih _ w
 | freeze a n k ih=>intro w;have:=ih (w.freeze a n);rw[A5d]at this;exact this
 | frozen a k ih=>intro w;exact ih _ w
 | getObj r k ih =>
  intro w
  unfold Sem.run
  split
  ·exact Nat.le_refl _
  ·exact ih _ w
  ·exact Nat.le_refl _
 | setObj r o k ih =>
  intro w
  unfold Sem.run
  split
  ·exact Nat.le_refl _
  ·exact ih { w with heap:=w.heap.setIfInBounds r o }
  ·exact Nat.le_refl _
 | choose q k ih =>
  intro w
  unfold Sem.run
  split
  ·exact ih _ w
  ·exact Au0 (Nat.le_succ _) (ih _ { w with drawn:=w.drawn+1 })
 | sys c k ih=>intro w;exact Au0 (At8 w c) (ih _ (w.sys c).2)
 | program k ih=>intro w;exact ih p w
 | mark m k ih=>intro w;exact ih w
 | halt h=>intro w;exact Nat.le_refl _
theorem M1{α:Type}(p:Program)(s:Sem α):∀(w:World) (es:Array Event),rlo w.drawn (s.runT p w es).1:=by
 induction s with
 | pure a=>intro w es;exact Nat.le_refl _
 | load m a k ih =>
  intro w es
  unfold Sem.runT
  split
  ·exact ih _ w _
  ·split
   ·exact ih _ w _
   ·exact Nat.le_refl _
 | store m a v k ih =>
  intro w es
  have far:rlo w.drawn (match w.cell? a with
   | some _=>if w.frozen? a then((Result.halt (.unsupported (.unsafePointer "a write to bytes that a string shares")) w,es):Result _×Array Event)else k.runT p (w.setCell a v) (es.push (⟨.cell a,true,m == Mode.atomic⟩:Event))
   | none=>match w.farStore p a v (m == Mode.atomic)with
    | .ok (w,touched)=>k.runT p w (es++touched.toArray.map (fun x=>(⟨.cell x,true,m == Mode.atomic⟩:Event)))
    | .error h=>(Result.halt h w,es)).1:=by
   split
   ·split
    ·exact Nat.le_refl _
    ·exact ih (w.setCell a v) _
   ·split
    ·rename_i heq
     have:=ih ‹World› (es++(‹List Addr›).toArray.map (fun x=>(⟨.cell x,true,m == Mode.atomic⟩:Event)))
     have e:=At9 heq
     rw[e]at this
     exact this
    ·exact Nat.le_refl _
  cases v <;> first | exact far | exact Nat.le_refl _
 | new o k ih=>intro w es;exact ih w.heap.size { w with heap:=w.heap.push o } es
 | shape r k ih=>intro w es;exact ih _ w es
 | freeze a n k ih=>intro w es;have:=ih (w.freeze a n) es;rw[A5d]at this;exact this
 | frozen a k ih=>intro w es;exact ih _ w es
 | getObj r k ih =>
  intro w es
  unfold Sem.runT
  split
  ·exact Nat.le_refl _
  ·exact ih _ w _
  ·exact Nat.le_refl _
 | setObj r o k ih =>
  intro w es
  unfold Sem.runT
  split
  ·exact Nat.le_refl _
  ·exact ih { w with heap:=w.heap.setIfInBounds r o } _
  ·exact Nat.le_refl _
 | choose q k ih =>
  intro w es
  unfold Sem.runT
  split
  ·exact ih _ w es
  ·exact Au0 (Nat.le_succ _) (ih _ { w with drawn:=w.drawn+1 } es)
 | sys c k ih=>intro w es;exact Au0 (At8 w c) (ih _ (w.sys c).2 _)
 | program k ih=>intro w es;exact ih p w es
 | mark m k ih=>intro w es;exact ih w _
 | halt h=>intro w es;exact Nat.le_refl _
theorem O0{α:Type}{p:Program}{s:Sem α}{w w':World}{a:α}(h:s.run p w=.ok a w'):w.drawn≤w'.drawn:=by have:=A8z p s w;rw[h]at this;exact this
theorem B79{α:Type}{p:Program}{s:Sem α}{w w':World}{a:Halt}(h:s.run p w=.halt a w'):w.drawn≤w'.drawn:=by have:=A8z p s w;rw[h]at this;exact this
theorem A90{α:Type}{p:Program}{s:Sem α}{w w':World}{a:α}{es es':Array Event}(h:s.runT p w es=(.ok a w',es')):w.drawn≤w'.drawn:=by have:=M1 p s w es;rw[h]at this;exact this
theorem Af3{α:Type}{p:Program}{s:Sem α}{w w':World}{a:Halt}{es es':Array Event}(h:s.runT p w es=(.halt a w',es')):w.drawn≤w'.drawn:=by have:=M1 p s w es;rw[h]at this;exact this
theorem Y3{α:Type}{p:Program}{s:Sem α}{w w':World}{a:α}{es:Array Event}(h:(s.runT p w es).1=.ok a w'):w.drawn≤w'.drawn:=by have:=M1 p s w es;rw[h]at this;exact this
theorem B05{α:Type}{p:Program}{s:Sem α}{w w':World}{a:Halt}{es:Array Event}(h:(s.runT p w es).1=.halt a w'):w.drawn≤w'.drawn:=by have:=M1 p s w es;rw[h]at this;exact this
theorem A5e{α:Type}{o:Option α}{n:Nat}{a:GStep}{f:α→GStep}(h:glo n a)(hf:∀ x,glo n (f x)):glo n (o.elim a f):=by cases o <;> first | exact h | exact hf _
theorem A91{n:Nat}{es:Array Event}{s:GStep}(h:glo n s):glo n (GStep.after es s):=by rw[R8];exact h
theorem K9(p:Program)(main:Bool)(fr:Frame)(cs:List Frame)(d:Option Dying)(v:Value)(w:World):glo w.drawn (doReturn p main fr cs d v w):=by
 unfold doReturn
 repeat' split
 all_goals first | trivial | exact Nat.le_refl _
theorem B7a(fr:Frame)(l:List ByteArray)(m:String)(b:Bool)(w:World):glo w.drawn (dieOf fr l m b w):=Nat.le_refl _
theorem N2(fr:Frame)(m:String)(w:World):glo w.drawn (endThrow fr m w):=Nat.le_refl _
theorem B06(n:Nat)(w:World)(fd:Nat)(t:ByteArray)(o:Outcome):glo n (endWith w fd t o):=by
 unfold endWith
 simp only
 repeat' split
 all_goals trivial
theorem A12(p:Program)(fr:Frame)(v:Value)(w:World):glo w.drawn (endPrinting p fr v w):=by
 unfold endPrinting
 simp only
 split
 ·exact N2 _ _ _
 ·trivial
theorem A5f(p:Program)(fr:Frame)(cs:List Frame)(d:Option Dying)(m:String)(w:World):glo w.drawn (endFatal p fr cs d m w):=by
 unfold endFatal
 simp only
 split
 ·rename_i h
  exact M6 (O0 h) (B7a _ _ _ _ _)
 ·trivial
 ·trivial
theorem B07(p:Program)(fr:Frame)(d:Dying)(f:Fatal)(w:World):glo w.drawn (writeOn p fr d f w):=by
 unfold writeOn
 simp only
 split
 ·trivial
 ·split
  ·rename_i h;exact A90 h
  ·rename_i h;exact Af3 h
  ·trivial
  ·trivial
theorem die_lo(p:Program)(fr:Frame)(d:Dying)(w:World):glo w.drawn (die p fr d w):=by
 unfold die
 split
 ·exact B07 _ _ _ _ _
 ·split
  ·split
   ·exact Nat.le_refl _
   ·exact B06 _ _ _ _ _
  ·simp only
   split
   ·exact Nat.le_refl _
   ·split
    ·rename_i h;exact O0 h
    ·trivial
   ·rw[R8]
    have h:=M1 p (invoke (.fn (.method ‹String›) #[]) #[.iface ‹TypeId› ‹Value›]) w #[]
    split <;> first | trivial | (rename_i k;rw[k]at h;first | exact h | exact M6 h (A12 _ _ _ _))
   ·trivial
theorem A5g(p:Program)(fr:Frame)(cs:List Frame)(dy:Option Dying)(d:Deferred)(w:World):glo w.drawn (callDeferred p fr cs dy d w):=by
 unfold callDeferred
 by_cases hc:((match d.target with | .nil=>true | _=>false) && (match fr.mode with | .panicking _=>true | _=>false))=true
 ·exact(congrArg (glo w.drawn) (if_pos hc)).mpr trivial
 ·refine(congrArg (glo w.drawn) (if_neg hc)).mpr ?_
  simp only [R8]
  have h:=M1 p (invoke d.target d.args) w #[]
  generalize (invoke d.target d.args).runT p w #[]=r at h ⊢
  obtain⟨r,es⟩:=r
  simp only at h ⊢
  cases r with
  | ok a w' =>
   have h:w.drawn≤w'.drawn:=h
   cases a with
   | coroswitch c b=>cases b <;> first | trivial | exact h
   | alone b v=>cases b <;> first | trivial | exact h
   | _=>(try simp only) <;>(repeat' split) <;> first | trivial | exact h
  | halt e w' =>
   have h:w.drawn≤w'.drawn:=h
   cases e <;>(try simp only) <;>(repeat' split) <;> first | trivial | exact h | exact M6 h (A5f _ _ _ _ _ _) | exact M6 h (N2 _ _ _)
theorem B3h(p:Program)(main:Bool)(fr:Frame)(cs:List Frame)(d:Option Dying)(w:World):glo w.drawn (unwind p main fr cs d w):=by
 unfold unwind
 split
 ·simp only [R8]
  split
  ·rename_i h
   have:=M1 p (Instr.takeDeferred ‹Nat›) w #[]
   rw[h]at this
   exact this
  ·trivial
 ·exact A5g _ _ _ _ _ _
 ·split
  ·trivial
  ·split
   ·trivial
   ·split
    ·exact Nat.le_refl _
    ·split
     ·split
      ·exact Nat.le_refl _
      ·split
       ·rename_i h;exact O0 h
       ·trivial
       ·trivial
     ·split
      ·exact A12 _ _ _ _
      ·trivial
  ·split
   ·exact K9 _ _ _ _ _ _ _
   ·simp only [R8]
    rename_i fn hfn
    have h:=M1 p (results fn fr.tmps) w #[]
    split <;> first | trivial | (rename_i k;rw[k]at h;exact M6 h (K9 _ _ _ _ _ _ _))
theorem B7b(p:Program)(fr:Frame)(cs:List Frame)(d:Option Dying)(g:Nat)(w:World):glo w.drawn (early p fr cs d g w):=by
 have nt:∀ w:World,glo w.drawn (match w.heap[g]? with
   | some (.pending c elem)=>GStep.go { frame:=fr,callers:=cs,status:=.running,dying:=d } { w with heap:=w.heap.setIfInBounds g (.cells c elem) }
   | _=>.ended (.stuck "early: the variable does not wait" (fr.pos p)) w):=by
  intro w
  split
  ·exact Nat.le_refl _
  ·trivial
 unfold early
 simp only
 split
 ·exact nt w
 ·split
  ·trivial
  ·split
   ·exact nt w
   ·split
    ·exact nt w
    ·split
     ·trivial
     ·exact Nat.le_refl _
     ·trivial
     ·exact nt w
     ·split
      ·exact Nat.le_refl _
      ·split
       ·exact nt w
       ·split
        ·rename_i h;exact M6 (O0 h) (nt _)
        ·rename_i h;exact O0 h
        ·trivial
theorem Y4(p:Program)(listen:Bool)(fr:Frame)(cs:List Frame)(d:Option Dying)(s:Sem Next)(w:World):glo w.drawn (stepG.apply p listen fr cs d s w):=by
 unfold stepG.apply
 simp only [R8]
 have h:rlo w.drawn (if listen=true then s.runT p w #[]else(s.run p w,#[])).1:=by
  split
  ·exact M1 p s w #[]
  ·exact A8z p s w
 generalize (if listen=true then s.runT p w #[]else(s.run p w,#[]))=r at h ⊢
 obtain⟨r,es⟩:=r
 simp only at h ⊢
 cases r with
 | halt hh w' =>
  cases hh with
  | unsupported u=>cases u <;> first | trivial | exact M6 h (B7b _ _ _ _ _ _)
  | _=>(try simp only) <;> first | trivial | exact h | exact M6 h (A5f _ _ _ _ _ _) | exact M6 h (N2 _ _ _)
 | ok a w' =>
  cases a <;>(try simp only) <;>(repeat' split) <;> first
   | trivial
   | exact h
   | exact M6 h (N2 _ _ _)
theorem Bh7(p:Program)(listen:Bool)(fr:Frame)(cs:List Frame)(d:Option Dying)(w:World):glo w.drawn (stepG.oper p listen fr cs d w):=by
 unfold stepG.oper
 split
 ·trivial
 ·split
  ·exact Y4 _ _ _ _ _ _ _
  ·exact Y4 _ _ _ _ _ _ _
theorem Bh8(p:Program)(main listen:Bool)(fr:Frame)(cs:List Frame)(d:Option Dying)(w:World):glo w.drawn (stepG.exec p main listen fr cs d w):=by
 unfold stepG.exec
 simp only [R8]
 repeat' split
 all_goals first
  | trivial
  | exact Nat.le_refl _
  | exact Y4 _ _ _ _ _ _ _
  | exact Bh7 _ _ _ _ _ _
  | exact O0 ‹_›
  | exact A90 ‹_›
  | exact Af3 ‹_›
  | exact M6 (A90 ‹_›) (K9 _ _ _ _ _ _ _)
  | exact M6 (A90 ‹_›) (Y4 _ _ _ _ _ _ _)
  | exact Y3 ‹_›
  | exact B05 ‹_›
  | exact M6 (Y3 ‹_›) (K9 _ _ _ _ _ _ _)
  | exact A91 (M6 (Y3 ‹_›) (K9 _ _ _ _ _ _ _))
  | exact M6 (Y3 ‹_›) (Y4 _ _ _ _ _ _ _)
  | exact A5e trivial (fun _=>Nat.le_refl _)
  | exact A5e (Nat.le_refl _) (fun _=>Nat.le_refl _)
  | exact A5e trivial (fun _=>Y4 _ _ _ _ _ _ _)
  | exact A5e (A91 (M6 (Y3 ‹_›) (K9 _ _ _ _ _ _ _))) (fun _=>Nat.le_refl _)
  | exact A5e (M6 (Y3 ‹_›) (K9 _ _ _ _ _ _ _)) (fun _=>Nat.le_refl _)
  | exact A91 (M6 (Y3 ‹_›) (Y4 _ _ _ _ _ _ _))
theorem B7c(p:Program)(main:Bool)(g:Goroutine)(w:World)(listen:Bool):glo w.drawn (stepG p main g w listen):=by
 unfold stepG
 simp only
 split
 ·exact die_lo _ _ _ _
 ·exact Bh8 _ _ _ _ _ _ _
 ·exact B3h _ _ _ _ _ _
theorem B08{rest:Rest}{cases:Array CommCase}{w w':World}(h:waitingAt rest cases w=some w'):w'.drawn=w.drawn:=by
 unfold waitingAt at h
 split at h
 ·split at h
  ·injection h with h;subst h;rfl
  ·cases h
 ·injection h with h;subst h;rfl
theorem Bh9(p:Program)(rest:Rest)(gs:Array Goroutine)(i:Nat)(g:Goroutine)(cases:Array CommCase)(b:Bool)(shape:CommShape)(w:World):slo w.drawn (communicate p rest gs i g cases b shape w).1:=by
 unfold communicate
 simp only
 split
 ·trivial
 ·split
  ·split
   ·split
    ·rename_i h;have:=B08 h;exact Nat.le_of_eq this.symm
    ·trivial
   ·exact Nat.le_refl _
  ·split
   ·trivial
   ·rename_i h
    have h1:=O0 h
    split
    ·split <;> first | trivial | (rename_i h2;have h3:=B79 h2;exact Nat.le_trans h1 h3)
    ·exact h1
    ·exact h1
    ·split
     ·exact h1
     ·split <;> first | trivial | (rename_i h2;have h3:=O0 h2;exact Nat.le_trans h1 h3)
    ·exact h1
    ·exact h1
    ·trivial
theorem B3i(p:Program)(gs:Array Goroutine)(rest:Rest)(w:World):slo w.drawn (Go.look p gs rest w):=by
 unfold Go.look
 split
 ·simp only
  split
  ·trivial
  ·split
   ·trivial
   ·split <;> first | trivial | (rename_i h2;have h3:=O0 h2;exact h3)
 ·trivial
theorem B7d(w:World)(c:Nat):(drain w c).2.drawn=w.drawn:=by
 unfold drain
 split <;> rfl
theorem Af4(m:Machine)(k:Nat)(t:Timer)(a b:Nat):(retime m k t a b).2.world.drawn=m.world.drawn:=by
 unfold retime
 simp only
 split
 ·exact B7d _ _
 ·rfl
theorem Au1{m:Machine}{var:Addr}{f:Nat→Timer→Value×Machine}{v:Value}{m':Machine}{n:Nat}(hf:∀ k t,(f k t).2.world.drawn=n)(h:timerOp.named m var f=.ok (v,m')):m'.world.drawn=n:=by
 unfold timerOp.named at h
 split at h
 ·injection h with h
  have:=hf ‹Nat› (m.rest.timers.getD ‹Nat› default)
  rw[h]at this
  exact this
 ·cases h
theorem B3j{m m':Machine}{var:Addr}(h:timerOp.opened m var=some m'):m'.world.drawn=m.world.drawn:=by
 unfold timerOp.opened at h
 split at h
 ·split at h
  ·injection h with h;subst h;rfl
  ·cases h
 ·injection h with h;subst h;rfl
theorem B09{m m':Machine}{op:TimerOp}{v:Value}(h:timerOp m op=.ok (v,m')):m'.world.drawn=m.world.drawn:=by
 unfold timerOp at h
 split at h
 ·split at h
  ·injection h with h;injection h with _ h;subst h;rfl
  ·split at h
   ·split at h
    ·cases h
    ·injection h with h;injection h with _ h;subst h;rfl
   ·cases h
 ·exact Au1 (fun k t=>Af4 _ _ _ _ _) h
 ·split at h
  ·rename_i h2
   rw[← B3j h2]
   exact Au1 (fun k t=>Af4 _ _ _ _ _) h
  ·cases h
 ·injection h with h;injection h with _ h;subst h;rfl
theorem B7e(p:Program)(m:Machine)(k:Nat):slo m.world.drawn (serve p m k):=by
 unfold serve
 split
 ·trivial
 ·exact Nat.le_refl _
 ·simp only
  split
  ·trivial
  ·exact Nat.le_refl _
theorem Bi0(p:Program)(m:Machine)(i:Nat)(listen:Bool):slo m.world.drawn (Go.runT p m i listen).1:=by
 unfold Go.runT
 simp only
 have h:=B7c p (i == 0) (m.gs.swapAt! i { (default:Goroutine)with status:=.finished }).1 m.world listen
 generalize stepG p (i == 0) (m.gs.swapAt! i { (default:Goroutine)with status:=.finished }).1 m.world listen=s at h ⊢
 cases s with
 | ended o w=>trivial
 | comm g cases b shape w=>exact A77 h (Bh9 _ _ _ _ _ _ _ _ _)
 | go g w=>exact h
 | spawn g c w=>exact h
 | count g w =>
  simp only
  split
  ·trivial
  ·exact h
 | alone g on w=>exact h
 | collect g w=>exact A77 h (B3i _ _ _ _)
 | watch g w=>exact h
 | newcoro g c d w=>exact h
 | coroswitch g c e w =>
  simp only
  split
  ·exact h
  ·split
   ·rename_i k
    have:=N2 g.frame "coroswitch on exited coro" w
    rw[k]at this
    exact Nat.le_trans h this
   ·trivial
  ·trivial
 | timer g op w =>
  simp only
  split
  ·rename_i k
   have:=B09 k
   exact Nat.le_trans h (Nat.le_of_eq this.symm)
  ·split
   ·rename_i k
    have:=N2 g.frame ‹String› w
    rw[k]at this
    exact Nat.le_trans h this
   ·trivial
  ·trivial
  ·trivial
theorem Al9 (p : Program) (rs : List Nat) (m : Machine) : mlo m.world.drawn (match (choose (.sched rs.length) : Sem Nat).run p m.world with
      | .halt _ w=>Move.machine (.ended (.stuck "sched" "") w)
      | .ok k world =>
        if rs.length≤1 then .goroutine { m with world } (rs.getD k 0)else
        match (choose (.extern "sched.slice" 65536):Sem Nat).run p world with
        | .halt _ w=>.machine (.ended (.stuck "sched.slice" "") w)
        | .ok n world => .goroutine { m with world, rest := { m.rest with slice := if n = 0 then none else some (rs.getD k 0, n) } } (rs.getD k 0)) := by
  split
  · trivial
  · rename_i h
    have h1:=O0 h
    split
    · exact h1
    · split
      · trivial
      · rename_i h2
        have h3:=O0 h2
        exact Nat.le_trans h1 h3
theorem adv_lo{m:Machine}{t:Nat}{s:Move}(h:mlo (m.advanceTo t).world.drawn s):mlo m.world.drawn s:=h
theorem A92(p:Program)(m:Machine):mlo m.world.drawn (askOn p m):=by
 unfold askOn
 simp only
 split
 ·trivial
 ·rename_i h
  have h1:=O0 h
  split
  ·exact A77 h1 (B7e p { m with world:=‹World› } _)
  ·split
   ·split
    ·exact h1
    ·split
     ·exact h1
     ·split <;> trivial
   ·split
    ·exact Af2 h1 (Al9 p _ { m with world:=‹World› })
    ·split
     ·trivial
     ·rename_i h2
      have h3:=O0 h2
      exact Af2 (Nat.le_trans h1 h3) (Al9 p _ { m with world:=‹World› })
     ·rename_i h2
      have h3:=O0 h2
      exact Nat.le_trans h1 h3
     ·rename_i h2
      have h3:=O0 h2
      exact Af2 (Nat.le_trans h1 h3) (adv_lo (Al9 p _ _))
theorem B9e(p:Program)(m:Machine):mlo m.world.drawn (ask p m):=by
 unfold ask
 split
 ·split
  ·trivial
  ·rename_i h
   have h1:=O0 h
   have h2:=B3i p m.gs m.rest ‹World›
   split
   ·rename_i k
    rw[k]at h2
    exact Af2 (Nat.le_trans h1 h2) (A92 _ _)
   ·exact A77 h1 h2
  ·rename_i h
   exact Af2 (O0 h) (A92 p { m with world:=‹World› })
 ·exact A92 _ _
theorem Bi1(p:Program)(m:Machine):mlo m.world.drawn (move p m):=by
 unfold move
 split
 ·split
  ·exact Nat.le_refl _
  ·trivial
 ·split
  ·split
   ·exact Nat.le_refl _
   ·exact B9e p { m with rest:={ m.rest with slice:=none } }
  ·exact B9e _ _
theorem Bi2(p:Program)(m:Machine):slo m.world.drawn (step p m):=by
 unfold step stepT
 have h:=Bi1 p m
 split
 ·rename_i k;rw[k]at h;exact A77 h (Bi0 _ _ _ _)
 ·rename_i k;rw[k]at h;exact h
theorem Au2{p:Program}{m m':Machine}(h:Steps p m m'):m.world.drawn≤m'.world.drawn:=by
 obtain⟨n,h⟩:=h
 induction n generalizing m with
 | zero=>simp only [runN]at h;injection h with h;subst h;exact Nat.le_refl _
 | succ n ih =>
  simp only [runN]at h
  have h1:=Bi2 p m
  split at h
  ·rename_i k;rw[k]at h1;exact Nat.le_trans h1 (ih h)
  ·rename_i k;rw[h]at k;exact absurd rfl (k _)
theorem B7f{P:Program}{f:FuncId}{args:Array Value}{w:World}{R:Ending→World→Prop}(hR:∀ w',¬ R .outgrown w')(h:Calls P f args w R):Calls P f args w fun e w'=>R e w'∧w.drawn≤w'.drawn:=by
 intro cs
 obtain⟨e,w',fr,h1,h2,h3,h4⟩:=h cs
 refine⟨e,w',fr,⟨h1,?_⟩,h2,h3,h4⟩
 cases e with
 | returned v=>exact Au2 h2
 | panicked c=>exact Au2 h2
 | outgrown=>exact absurd h1 (hR _)
end Go.E
namespace Go.E
open Go Go.Sort Go.RowKit Go.Lib Go.Shelf Go.Proofs
structure TotC {β:Type} (c:β→β→Int):Prop where
 neg:∀ x y,c x y < 0↔0 < c y x
 tr:∀ x y z,c x y≤0→c y z≤0→c x z≤0
 anti:∀ x y,c x y=0→x=y
theorem TotC.self{β:Type}{c:β→β→Int}(h:TotC c)(x:β):c x x=0:=by
 have:=h.neg x x
 omega
theorem TotC.swo{β:Type}{c:β→β→Int}(h:TotC c):SWO (ltOf c):=by
 refine⟨fun x=>?_,fun x y z h1 h2=>?_,fun x y z h1 h2=>?_⟩
 ·unfold ltOf
  rw[decide_eq_false_iff_not,h.self x]
  omega
 ·unfold ltOf at *
  rw[decide_eq_true_iff]at *
  have h3:=h.tr x y z (by omega) (by omega)
  apply Classical.byContradiction
  intro h4
  have e:=h.anti x z (by omega)
  subst e
  have:=(h.neg x y).1 h1
  omega
 ·unfold ltOf at *
  rw[decide_eq_false_iff_not]at *
  have a1:=h.neg x y
  have a2:=h.neg y z
  have a3:=h.neg x z
  have b1:=h.neg y x
  have b2:=h.neg z y
  have b3:=h.neg z x
  have:=h.tr z y x (by omega) (by omega)
  omega
def B7g{β:Type}(c:β→β→Int)(l:List β):List β:=l.mergeSort (fun x y=>decide (c x y≤0))
def risO{β:Type}(c:β→β→Int)(l:List β):Prop:=l.Pairwise fun x y=>c x y≤0
theorem R9{β:Type}(c:β→β→Int)(l:List β):(B7g c l).Perm l:=List.mergeSort_perm _ _
theorem Au3{β:Type}{c:β→β→Int}(h:TotC c)(l:List β):risO c (B7g c l):=by
 have:=List.pairwise_mergeSort (le:=fun x y=>decide (c x y≤0)) (fun x y z h1 h2=>by
  rw[decide_eq_true_iff]at *
  exact h.tr x y z h1 h2) (fun x y=>by
  rw[Bool.or_eq_true,decide_eq_true_iff,decide_eq_true_iff]
  have:=h.neg x y
  have:=h.neg y x
  omega) l
 exact this.imp fun h=>of_decide_eq_true h
theorem Bi3{β:Type}{c:β→β→Int}(h:TotC c){a b:List β}(hp:a.Perm b)(ha:risO c a)(hb:risO c b):a=b :=
 List.Perm.eq_of_pairwise (le:=fun x y=>c x y≤0) (fun x y _ _ h1 h2=>by
  apply h.anti
  have:=h.neg x y
  have:=h.neg y x
  omega) ha hb hp
theorem Bi4{β:Type}{c:β→β→Int}(h:TotC c){a l:List β}(hp:a.Perm l)(ha:risO c a):a=B7g c l:=Bi3 h (hp.trans (R9 c l).symm) ha (Au3 h l)
section
variable {P : Program} {ρ : Ren} {β : Type} {enc : β → List AV} {k : Nat} {S : Nat → Prop} {w : World}
structure Cel (enc:β→List AV) (k:Nat) (S:Nat→Prop) (w:World) where
 el:β
 vs:List Value
 len:vs.length=k
 one:∀ u∈vs,u.oneCell'=true
 rel:∀(j:Nat) (a:AV) (u:Value),(enc el)[j]?=some a→vs[j]?=some u→RelV0 S w a u
theorem cels(hk:∀ x,(enc x).length=k):∀(l:List β) (xs:List Value),xs.length=l.length*k→(∀ u∈xs,u.oneCell'=true) →
  (∀(j:Nat) (a:AV) (u:Value),(l.map enc).flatten[j]?=some a→xs[j]?=some u→RelV0 S w a u) →
  ∃ ds:List (Cel enc k S w),ds.map Cel.el=l∧(ds.map Cel.vs).flatten=xs
 | [],xs,h,_,_=>⟨[],rfl,(List.eq_nil_of_length_eq_zero (by simpa using h)).symm⟩
 | x :: l,xs,h,h1,h2=>by
  rw[List.length_cons,Nat.succ_mul]at h
  obtain⟨ds,e1,e2⟩:=cels hk l (xs.drop k) (by rw[List.length_drop];omega) (fun u hu=>h1 u (List.mem_of_mem_drop hu)) (fun j a u ha hu=>by
   refine h2 (k+j) a u ?_ (by rw[List.getElem?_drop]at hu;exact hu)
   rw[List.map_cons,List.flatten_cons,List.getElem?_append_right (by rw[hk];omega),hk,Nat.add_sub_cancel_left]
   exact ha)
  refine⟨⟨x,xs.take k,by rw[List.length_take];omega,fun u hu=>h1 u (List.mem_of_mem_take hu),fun j a u ha hu=>?_⟩ :: ds,by rw[List.map_cons,e1],by rw[List.map_cons,List.flatten_cons,e2];exact List.take_append_drop k xs⟩
  have hj:j < k:=by
   have:=(List.getElem?_eq_some_iff.1 ha).1
   rwa [hk]at this
  refine h2 j a u ?_ (by rw[List.getElem?_take,if_pos hj]at hu;exact hu)
  rw[List.map_cons,List.flatten_cons,List.getElem?_append_left (by rw[hk];exact hj)]
  exact ha
theorem A93{W W':World}(hb:Below W.heap.size W W')(hd:W.drawn≤W'.drawn):∃ q os,W'=grow (W.drewN q) os:=by
 refine⟨W'.drawn-W.drawn,W'.heap.extract W.heap.size W'.heap.size,?_⟩
 have hh:W'.heap=W.heap++W'.heap.extract W.heap.size W'.heap.size:=by
  apply Array.ext'
  rw[Array.toList_append,Array.toList_extract]
  apply List.ext_getElem?
  intro i
  by_cases hi:i < W.heap.size
  ·rw[List.getElem?_append_left (by simpa using hi)]
   have:=hb.block i hi
   simpa using this
  ·rw[List.getElem?_append_right (by simpa using hi)]
   simp only [List.extract,Array.length_toList,List.getElem?_take,List.getElem?_drop]
   have hs:=hb.size
   have e2:W.heap.size+(i-W.heap.size)=i:=by omega
   rw[e2]
   split
   ·rfl
   ·rw[List.getElem?_eq_none (by simp;omega)]
 have h1:=hb.os
 have h2:=hb.tape
 have h3:=hb.output
 have h4:W.drawn+(W'.drawn-W.drawn)=W'.drawn:=by omega
 cases W' with
 | mk heap tape drawn os output =>
  simp only [World.drewN,grow]at *
  subst h1 h2 h3
  rw[← hh,h4]
set_option maxHeartbeats 1000000 in
/-- slices.SortFunc at a row of one's own whose cells lead on. -/
theorem B0a (L:SlLaysF0.n6 P ρ) (hcal:D5 P (ρ.f 6)) (g ty:Nat) (eg:∀ args w,(callFunc g args).run P w=.ok (.enter g args) w)
  (aE:∀ w,(isAgg (ρ.t 24)).run P w=.ok true w) (zE:∀ w,(Go.sizeOf (ρ.t 24)).run P w=.ok k w) (hk:∀ x,(enc x).length=k) (cf:β→β→Int) (hO:TotC cf)
  (hcon:∀ x y:β,Con P g [.agg (enc x),.agg (enc y)] (.i .i64 (cf x y))) (l:List β) (hlen:l.length < 4611686018427387904) :
  Y8 P (ρ.f 6) g none false ty k (l.map enc) ((B7g cf l).map enc):=by
 have hsz:∀ m:List β,∀ r∈m.map enc,r.length=k:=fun m r hr=>by obtain⟨x,_,rfl⟩:=List.mem_map.1 hr;exact hk x
 refine⟨hcal,by rw[List.length_map,List.length_map,(R9 cf l).length_eq],hsz _,fun w base v cv S xs hS hb ho hx1 hxr _=>?_⟩
 rw[List.length_map]at ho ⊢
 simp only [Bool.false_eq_true,if_false,B0u]
 obtain⟨ds,e1,e2⟩:=cels (S:=S) (w:=w) hk l xs ho.1 hx1 hxr
 have hl:ds.length=l.length:=by rw[← e1,List.length_map]
 rcases ho.2 with⟨rfl,h0⟩ | ⟨b,cap,cur,rfl,hb',hh,h1,h2,h3,h4⟩
 ·have:l=[]:=List.eq_nil_of_length_eq_zero h0
  subst this
  refine(AnyF.slices_SortFunc_none (P:=P) (ρ:=ρ) L none 0 _ w).mono ?_
  rintro e' w' ⟨rfl,rfl⟩
  have e0:B7g cf ([]:List β)=[]:=List.eq_nil_of_length_eq_zero (by rw[(R9 cf []).length_eq];rfl)
  rw[e0]
  exact⟨rfl,[],⟨by simp,.inl ⟨rfl,rfl⟩⟩,fun u hu=>by simp at hu,fun j a u ha hu=>by simp at hu,fun j _ _=>rfl,rfl,rfl,rfl,Nat.le_refl _⟩
 ·have hbl:b < w.heap.size:=(Array.getElem?_eq_some_iff.1 hh).1
  by_cases hn:l.length=0
  ·have:l=[]:=List.eq_nil_of_length_eq_zero hn
   subst this
   refine(AnyF.slices_SortFunc_none (P:=P) (ρ:=ρ) L (some ⟨b,0,none⟩) cap _ w).mono ?_
   rintro e' w' ⟨rfl,rfl⟩
   have e0:B7g cf ([]:List β)=[]:=List.eq_nil_of_length_eq_zero (by rw[(R9 cf []).length_eq];rfl)
   rw[e0]
   have hxs:xs=[]:=List.eq_nil_of_length_eq_zero (by simpa using ho.1)
   subst hxs
   exact⟨rfl,[],ho,fun u hu=>by simp at hu,fun j a u ha hu=>by simp at hu,fun j _ _=>rfl,rfl,rfl,rfl,Nat.le_refl _⟩
  ·haveI:Inhabited (Cel enc k S w):=⟨ds[0]'(by omega)⟩
   have hvk:∀ x:Cel enc k S w,x.vs.length=k:=fun x=>x.len
   have hv1:∀ x:Cel enc k S w,∀ v∈x.vs,v.oneCell'=true:=fun x=>x.one
   rw[← e2]at ho
   have hnb:∀ j,S j→j≠b:=fun j hj e=>hb j (by rw[e];rfl) hj
   have hHd:HoldsK Cel.vs k w b 0 ds.toArray:=P6 hvk ho (by simp [hl]) (by simp)
   have hSW:SWO (ltOf fun x y:Cel enc k S w=>cf x.el y.el):=⟨fun x=>hO.swo.irrefl _,fun x y z=>hO.swo.trans _ _ _,fun x y z=>hO.swo.ntrans _ _ _⟩
   have hcmp:CmpLays P g #[] Cel.vs k (fun x y:Cel enc k S w=>cf x.el y.el) b 0 ds.toArray.size w:=by
    intro m os dk hs x y
    have hF:Fam Cel.vs k b 0 w dk (sortWorldK Cel.vs k w b 0 m dk os):=⟨w.drawn+m,os,rfl⟩
    have hf:=hF.facts
    have hkeep:∀ j,S j→(sortWorldK Cel.vs k w b 0 m dk os).heap[j]?=w.heap[j]?:=fun j hj=>hf.2.2.2 j (hS j hj) (hnb j hj)
    have hc:=(hcon x.el y.el).2 (sortWorldK Cel.vs k w b 0 m dk os) S [.agg x.vs.toArray,.agg y.vs.toArray] (fun j hj=>Nat.lt_of_lt_of_le (hS j hj) hF.size) rfl (fun j a u ha hu=>by
     match j with
     | 0 =>
      simp only [List.getElem?_cons_zero,Option.some.injEq]at ha hu
      subst ha hu
      refine RelV0.agg _ _ (by rw[hvk,hk]) (hv1 x) fun j a u ha hu=>(x.rel j a u ha hu).mono (fun _ h=>h) hkeep
     | 1 =>
      simp only [List.getElem?_cons_succ,List.getElem?_cons_zero,Option.some.injEq]at ha hu
      subst ha hu
      refine RelV0.agg _ _ (by rw[hvk,hk]) (hv1 y) fun j a u ha hu=>(y.rel j a u ha hu).mono (fun _ h=>h) hkeep
     | n+2=>simp at ha)
    refine(B7f (fun w' h=>by obtain⟨v,hv,_⟩:=h;cases hv) hc).mono ?_
    rintro e' w' ⟨⟨v,rfl,hr,hbel⟩,hd⟩
    refine⟨?_,A93 hbel hd⟩
    cases hr
    rfl
   have hw:=AnyQ.slices_SortFunc (P:=P) (ρ:=ρ) L k aE zE Cel.vs hvk hv1 (fun x y:Cel enc k S w=>cf x.el y.el) hSW g #[] b 0 cap ds.toArray w eg hcmp hHd hbl (by simpa [hl]using hlen)
   have hsize:ds.toArray.size=l.length:=by simp [hl]
   rw[hsize]at hw
   refine hw.mono ?_
   rintro e' w' ⟨rfl,d',n,os,hper,hsor,hw'⟩
   have hF:Fam Cel.vs k b 0 w d' w':=⟨w.drawn+n,os,by rw[hw'];rfl⟩
   have f:=hF.facts
   obtain⟨hsz',_,hp⟩:=hper
   have e3:d'.extract 0 l.length=d':=by rw[← hsize,← hsz'];exact Array.extract_size
   have e4:ds.toArray.extract 0 l.length=ds.toArray:=by rw[← hsize];exact Array.extract_size
   rw[e3,e4]at hp
   have hpl:d'.toList.Perm ds:=by
    simpa using hp
   have hel:d'.toList.map Cel.el=B7g cf l:=by
    refine Bi4 hO ?_ ?_
    ·have:=hpl.map Cel.el
     rwa [e1]at this
    ·unfold risO
     rw[List.pairwise_map,List.pairwise_iff_getElem]
     intro i j hi hj hij
     rw[Array.length_toList]at hi hj
     have:=hsor i j (Nat.zero_le _) hij (by rw[hsz']at hj;simpa [hl]using hj)
     unfold ltOf at this
     rw[decide_eq_false_iff_not,getElem!_pos _ j hj,getElem!_pos _ i hi]at this
     rw[Array.getElem_toList,Array.getElem_toList]
     have this:¬ cf d'[j].el d'[i].el < 0:=this
     have a1:=hO.neg d'[j].el d'[i].el
     have a2:=hO.neg d'[i].el d'[j].el
     omega
   have ow:=hF.owns (d:=ds.toArray) hvk (by rw[hsz']) (by simp) (by simp [hl]) ho
   refine⟨rfl,(d'.toList.map Cel.vs).flatten,ow,fun u hu=>?_,fun j a u ha hu=>?_,fun j hj hjb=>f.2.2.2 j hj (fun e=>hjb (by rw[e];rfl)),f.1,f.2.1,f.2.2.1,hF.size⟩
   ·obtain⟨r,hr,hu⟩:=List.mem_flatten.1 hu
    obtain⟨x,_,rfl⟩:=List.mem_map.1 hr
    exact hv1 x u hu
   ·rw[← hel,List.map_map]at ha
    have hj:=(List.getElem?_eq_some_iff.1 hu).1
    rw[C6 (sz:=k) (fun r hr=>by obtain⟨x,_,rfl⟩:=List.mem_map.1 hr;exact hvk x),List.length_map]at hj
    have k0:0 < k:=Nat.pos_of_ne_zero fun h=>by
     have:d'.toList.length*k=0:=Nat.mul_eq_zero.2 (.inr h)
     omega
    have hq:j % k < k:=Nat.mod_lt _ k0
    have hi:j / k < d'.toList.length:=(Nat.div_lt_iff_lt_mul k0).2 hj
    have ej:j / k*k+j % k=j:=by rw[Nat.mul_comm];exact Nat.div_add_mod j k
    have g1:=E8 (sz:=k) (rows:=d'.toList.map Cel.vs) (fun r hr=>by obtain⟨x,_,rfl⟩:=List.mem_map.1 hr;exact hvk x) (j:=j / k) (q:=j % k) (r:=(d'.toList[j / k]).vs) (by rw[List.getElem?_map,List.getElem?_eq_getElem hi];rfl) hq
    have g2:=E8 (sz:=k) (rows:=d'.toList.map (enc ∘ Cel.el)) (fun r hr=>by obtain⟨x,_,rfl⟩:=List.mem_map.1 hr;exact hk _) (j:=j / k) (q:=j % k) (r:=enc (d'.toList[j / k]).el) (by rw[List.getElem?_map,List.getElem?_eq_getElem hi];rfl) hq
    rw[ej]at g1 g2
    rw[g1]at hu
    rw[g2]at ha
    exact((d'.toList[j / k]).rel _ _ _ ha hu).mono (fun _ h=>h) (fun q hq=>f.2.2.2 q (hS q hq) (hnb q hq))
end
end Go.E
namespace Go.Proofs.YtokhjapfekbobaaGreat
open Go.E
set_option maxRecDepth 100000
set_option maxHeartbeats 4000000
def A94{α:Type}(p:α→α→Bool):α→List α→List α
 | _,[]=>[]
 | a,b :: l=>if p b a then A94 p b l else b :: A94 p b l
def A6e{α:Type}(p:α→α→Bool):List α→List α
 | []=>[]
 | a :: l=>a :: A94 p a l
theorem Au4{α:Type}(p:α→α→Bool)(x:α):∀(t:List α) (a:α),A94 p a (t++[x])=A94 p a t++(if p x ((a :: t).getLast (by simp))then[]else[x])
 | [],a=>rfl
 | b :: t,a=>by
  have ih:=Au4 p x t b
  simp only [List.cons_append,A94,List.getLast_cons_cons]
  split
  ·exact ih
  ·rw[ih];rfl
theorem A0r{α:Type}[Inhabited α](p:α→α→Bool){l:List α}{j:Nat}(h1:1≤j)(hj:j < l.length):A6e p (l.take (j+1))=A6e p (l.take j)++(if p l[j]! l[j-1]! then[]else[l[j]!]):=by
 have e:l.take (j+1)=l.take j++[l[j]!]:=by rw[List.take_succ_eq_append_getElem hj,getElem!_pos l j hj]
 rw[e]
 cases hl:l.take j with
 | nil =>
  have:=congrArg List.length hl
  rw[List.length_take,List.length_nil]at this
  omega
 | cons a t =>
  have hlen:(a :: t).length=j:=by rw[← hl,List.length_take];omega
  have hlast:(a :: t).getLast (by simp)=l[j-1]!:=by
   rw[List.getLast_eq_getElem,getElem!_pos l (j-1) (by omega)]
   simp only [← hl,List.getElem_take]
   congr 1
   rw[hl,hlen]
  show a :: A94 p a (t++[l[j]!])=_
  rw[Au4,hlast]
  rfl
theorem Au5{α:Type}(p:α→α→Bool):∀(l:List α) (a:α),(A94 p a l).length≤l.length
 | [],a=>by simp [A94]
 | b :: l,a=>by
  simp only [A94]
  have:=Au5 p l b
  split
  ·simp only [List.length_cons];omega
  ·simp only [List.length_cons];omega
theorem B3k{α:Type}(p:α→α→Bool)(l:List α):(A6e p l).length≤l.length:=by
 cases l with
 | nil=>simp [A6e]
 | cons a l=>simp only [A6e,List.length_cons];have:=Au5 p l a;omega
theorem A2z{α:Type}[Inhabited α](p:α→α→Bool)(l:List α):∀ k:Nat,k≤l.length→(∀ j:Nat,1≤j→j < k→p l[j]! l[j-1]! = false)→A6e p (l.take k)=l.take k
 | 0,_,_=>by simp [A6e]
 | 1,hk,_=>by
  cases l with
  | nil=>simp at hk
  | cons a l=>simp [A6e,A94]
 | k+2,hk,h=>by
  rw[A0r p (by omega) (by omega),A2z p l (k+1) (by omega) (fun j h1 h2=>h j h1 (by omega)),h (k+1) (by omega) (by omega)]
  simp only [Bool.false_eq_true,if_false]
  rw[List.take_succ_eq_append_getElem (show k+1 < l.length by omega),getElem!_pos l (k+1) (by omega)]
def eqR(a b:Record):Bool:=decide (E6 a b=0)
def I0(l:List Record):List Record:=A6e eqR l
theorem B3l:∀(l:List Record) (a:Record),(a :: l).Pairwise (fun x y=>E6 x y≤0)→(∀ r∈a :: l,r.past=A3 r.past) →
  (∀ y∈A94 eqR a l,E6 a y < 0)∧upR (A94 eqR a l)∧∀ y,y∈a :: A94 eqR a l↔y∈a :: l
 | [],a,_,_=>⟨fun y hy=>(by cases hy),List.Pairwise.nil,fun y=>by simp [A94]⟩
 | b :: l,a,hp,hn=>by
  have h1:=List.pairwise_cons.1 hp
  have ih:=B3l l b h1.2 (fun r hr=>hn r (List.mem_cons_of_mem _ hr))
  simp only [A94]
  by_cases e:eqR b a=true
  ·have e':b=a:=As0 (hn b (by simp)) (hn a (by simp)) (by simpa [eqR]using e)
   subst e'
   rw[if_pos e]
   refine⟨ih.1,ih.2.1,fun y=>?_⟩
   rw[ih.2.2 y]
   simp
  ·rw[if_neg e]
   have hab:E6 a b < 0:=by
    have h2:=h1.1 b (by simp)
    have h3:¬ E6 b a=0:=by simpa [eqR]using e
    have:=A55.neg a b
    omega
   refine⟨fun y hy=>?_,List.pairwise_cons.2 ⟨ih.1,ih.2.1⟩,fun y=>?_⟩
   ·rcases List.mem_cons.1 hy with rfl | hy
    ·exact hab
    ·have:=ih.1 y hy
     exact A55.lt hab (by omega)
   ·have:=ih.2.2 y
    simp only [List.mem_cons]at this ⊢
    rw[this]
theorem Au6{l:List Record}(hp:l.Pairwise (fun x y=>E6 x y≤0))(hn:∀ r∈l,r.past=A3 r.past):upR (I0 l)∧∀ y,y∈I0 l↔y∈l:=by
 unfold I0
 cases l with
 | nil=>exact⟨List.Pairwise.nil,fun y=>by simp [A6e]⟩
 | cons a l =>
  have h:=B3l l a hp hn
  exact⟨List.pairwise_cons.2 ⟨h.1,h.2.1⟩,h.2.2⟩
def Bn3:Type:={r:Record // r.past=A3 r.past}
theorem B7h:(⟨noneS,⟨[],[]⟩⟩:Record).past=A3 (⟨noneS,⟨[],[]⟩⟩:Record).past:=Ad3.symm
instance:Inhabited Bn3:=⟨⟨⟨noneS,⟨[],[]⟩⟩,B7h⟩⟩
noncomputable def B0r(r:Record):Bn3:=if h:r.past=A3 r.past then⟨r,h⟩else default
def B9f(x y:Bn3):Int:=E6 x.1 y.1
def Bi5(x:Bn3):List AV:=c83 x.1
theorem totRB:TotC B9f:=by
 refine⟨fun x y=>?_,fun x y z h1 h2=>A55.tr x.1 y.1 z.1 h1 h2,fun x y h=>Subtype.ext (As0 x.2 y.2 h)⟩
 unfold B9f
 have:=A55.neg x.1 y.1
 omega
noncomputable def srtB(l:List Record):List Bn3:=B7g B9f (l.map B0r)
noncomputable def A6f(l:List Record):List Record:=(srtB l).map (·.1)
def U1(l:List Record):Prop:=∀ r∈l,r.past=A3 r.past
theorem Au7{l:List Record}(h:U1 l):(l.map B0r).map (·.1)=l:=by
 rw[List.map_map]
 conv=>rhs;rw[← List.map_id l]
 refine List.map_congr_left fun r hr=>?_
 have e:B0r r=⟨r,h r hr⟩:=by unfold B0r;exact dif_pos (h r hr)
 show(B0r r).1=r
 rw[e]
theorem Af5{l:List Record}(h:U1 l):(A6f l).Perm l:=by
 have:=(R9 B9f (l.map B0r)).map (·.1)
 rw[Au7 h]at this
 exact this
theorem A5h(l:List Record):U1 (A6f l):=by
 intro r hr
 obtain⟨x,_,rfl⟩:=List.mem_map.1 hr
 exact x.2
theorem A78(l:List Record):(A6f l).Pairwise (fun x y=>E6 x y≤0):=by
 have:=Au3 totRB (l.map B0r)
 unfold A6f srtB
 rw[List.pairwise_map]
 exact this
noncomputable def A2b(l:List Record):List Record:=I0 (A6f l)
theorem B3m(l:List Record):upR (A2b l):=(Au6 (A78 l) (A5h l)).1
theorem Y5{l:List Record}(h:U1 l)(r:Record):r∈A2b l↔r∈l:=by
 unfold A2b
 rw[(Au6 (A78 l) (A5h l)).2 r]
 exact(Af5 h).mem_iff
theorem B3n{l:List Record}(h:U1 l):U1 (A2b l):=fun r hr=>h r ((Y5 h r).1 hr)
theorem B7i{a l:List Record}(h:U1 l)(ha:upR a)(hm:∀ r,r∈a↔r∈l):a=A2b l :=
 A2w ha (B3m l) (fun r hr=>h r ((hm r).1 hr)) (B3n h) (fun r=>by rw[hm r,Y5 h r])
theorem B7j(l:List Record):(A2b l).length≤l.length:=by
 have h1:=B3k eqR (A6f l)
 have h2:(A6f l).length=l.length:=by
  unfold A6f srtB
  rw[List.length_map,(R9 B9f (l.map B0r)).length_eq,List.length_map]
 unfold A2b I0
 omega
theorem Au8{l:List Record}(h:U1 l):B0o l:=fun r hr=>by have:=R7 (h r hr);unfold szR;omega
def clnR(r:Record):Record:=⟨r.sku,A3 r.past⟩
noncomputable def lsR(rs:List Record):List Record:=(rs.filter fun r=>decide (¬ B8 r.past=0)).map clnR
def Af6(r:Record):Bool:=decide (r.sku=noneS) || K2 r.sku
noncomputable def E9(rs:List Record):List Record×Int:=if rs.all Af6=true then(A2b (lsR rs),0)else([],5)
theorem B7k(rs:List Record):U1 (lsR rs):=by
 intro r hr
 obtain⟨x,_,rfl⟩:=List.mem_map.1 hr
 exact(B2a x.past).symm
theorem Au9{rs:List Record}(h:∀ r∈rs,ckR r=0):lsR rs=rs:=by
 unfold lsR
 have e:rs.filter (fun r=>decide (¬ B8 r.past=0))=rs:=List.filter_eq_self.2 fun r hr=>by
  rw[decide_eq_true_iff];exact(A6b.1 (h r hr)).2.2
 rw[e]
 conv=>rhs;rw[← List.map_id rs]
 refine List.map_congr_left fun r hr=>?_
 unfold clnR
 rw[←(A6b.1 (h r hr)).2.1]
 rfl
theorem Av0{rs:List Record}(h:∀ r∈rs,ckR r=0):rs.all Af6=true:=by
 rw[List.all_eq_true]
 intro r hr
 unfold Af6
 rw[Bool.or_eq_true,decide_eq_true_iff]
 exact(A6b.1 (h r hr)).1
noncomputable def E3(a b:List Record):List Record×Int:=if E2 a=0∧E2 b=0 then(A2b (a++b),0)else([],1)
theorem A30{a:List Record}(h:E2 a=0):U1 a:=fun r hr=>(A6b.1 (((G8 a).1 h).1 r hr)).2.1
theorem A2c{a b:List Record}(ha:E2 a=0)(hb:E2 b=0):∀ r∈a++b,ckR r=0:=fun r hr=>by
 rcases List.mem_append.1 hr with hr | hr
 ·exact((G8 a).1 ha).1 r hr
 ·exact((G8 b).1 hb).1 r hr
theorem B0b{a b:List Record}(ha:E2 a=0)(hb:E2 b=0):E9 (a++b)=(A2b (a++b),0):=by
 unfold E9
 rw[if_pos (Av0 (A2c ha hb)),Au9 (A2c ha hb)]
theorem A79{a b:List Record}(ha:E2 a=0)(hb:E2 b=0):E2 (A2b (a++b))=0:=by
 have hn:U1 (a++b):=fun r hr=>(A6b.1 (A2c ha hb r hr)).2.1
 exact(G8 _).2 ⟨fun r hr=>A2c ha hb r ((Y5 hn r).1 hr),B3m _⟩
end Go.Proofs.YtokhjapfekbobaaGreat
