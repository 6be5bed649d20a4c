/- Kg: keep.Covers, Bars, Fold, Apply. Conditions: sizes. Ra: the document's past: dots, Has, Same, sorted. Conditions: sizes. Rb: the document's turns: sorted (by halves). Conditions: sizes. Rt: the document's turns, in plain words: a sweep over where runs begin and end. Conditions: none. Rk: turns: how many there are, the last. Conditions: none. Rp: two lists of turns put together by a rule, in plain words. Conditions: none. Rd: the document's turns. Conditions: sizes. Re: the document's Mean. Conditions: sizes. Rf: the document's Form. Conditions: the runs are in form. Rg: the document's Norm, Of, IsNorm. Conditions: sizes. Rm: the document's combine, Minus, Join, Size, Empty. Conditions: sizes. Rn: the document's Compare, Next, Within. Conditions: sizes. Kr: records in the documents. Conditions: sizes. -/
import Derived.Below
import Derived.OwnWalk
import Derived.WalkKit
import Derived.KernelRfl
import Derived.Laws.MakeOwn
import Derived.Laws.OwnMore
import Derived.Laws.Slices
import Derived.Laws.CopyOwn
import Derived.Laws.AppendOwnNone
import Derived.Laws.Rows
import Derived.Orders
import Derived.Test.YtokhjapfekbobaaGreatProg
import Derived.DataReads
import Derived.ChangeOld
import Derived.DataElems
import Derived.SizedLaws
import Derived.ChangeKeysEq
import Derived.Sort.LotA
import Derived.Shelf.SlSortFuncK.RowK2
import Derived.Shelf.SlSortCmp.NoneTotal
import Derived.Lib.Walk
import Derived.Shelf.SlLaysE0
import Derived.Shelf.RegionOpenPlain
import Derived.Deep.LoopGhost
import Derived.Lib.SliceRun
import Derived.Lib.Bytealg
import Derived.Test.YtokhjapfekbobaaGreatZi3
set_option linter.unusedVariables false
set_option linter.unusedSimpArgs false
namespace Go.Proofs.YtokhjapfekbobaaGreat
open Go.E
set_option maxRecDepth 100000
set_option maxHeartbeats 4000000
def Ah6(rs:List Record)(e:Entry)(n i r m:Int)(s:ByteArray)(q:Int):Prop:=r=e.dot.rep∧m=e.dot.num∧s=e.sku∧q=e.qty∧0≤i∧i≤rs.length∧0≤n∧n≤i∧n=E5 (rs.take i.toNat) e
def decBr(rs:List Record)(n i r m:Int)(s:ByteArray)(q:Int):Nat:=(rs.length-i).toNat
def Bl0(rs:List Record)(i:Int)(all:Past)(out:List Record):Prop:=Y5 all out (rs.drop i.toNat)=Y5 ⟨[],[]⟩ [] rs
def B0w(rs:List Record)(i:Int)(v:List Int)(c:List Span)(out:List Record):Prop:=0≤i∧i≤rs.length∧(out.length:Int)≤i∧c.length≤8000000000∧Bl0 rs i ⟨v,c⟩ out∧(∀ r∈out,r.past=A5 r.past)
def decFo(rs:List Record)(i:Int)(v:List Int)(c:List Span)(out:List Record):Nat:=(rs.length-i).toNat
def Bd4(rs:List Record)(i j:Int)(ps:List Past):Prop:=ps=((rs.drop i.toNat).take (j-i).toNat).map (fun x=>x.past)∧∀ k:Nat,i≤k→(k:Int) < j→rs[k]!.sku=rs[i.toNat]!.sku
def Bl1(rs:List Record)(i:Int)(v0:List Int)(c0:List Span)(o0:List Record)(j:Int)(v:List Int)(c:List Span)(o:List Record)(ps:List Past):Prop:=v=v0∧c=c0∧o=o0∧i≤j∧j≤rs.length∧Bd4 rs i j ps
def decGr(rs:List Record)(j:Int)(v:List Int)(c:List Span)(o:List Record)(ps:List Past):Nat:=(rs.length-j).toNat
def B8c(es:List Entry)(bars:List Record)(i:Int)(out:List Entry):Prop:=0≤i∧i≤es.length∧(out.length:Int)≤i∧out=(es.take i.toNat).filter fun e=>decide (E5 bars e=0)
def decAp(es:List Entry)(i:Int)(out:List Entry):Nat:=(es.length-i).toNat
theorem Aw2{α:Type}[Inhabited α](p:α→Bool):∀(l:List α) (n:Nat),n≤l.length→(∀ k:Nat,k < n→p l[k]! = true)→(n < l.length→p l[n]! = false)→l.takeWhile p=l.take n∧l.dropWhile p=l.drop n
 | [],n,hn,_,_=>by simp
 | x :: l,0,_,_,h=>by
  have:=h (by simp)
  have hx:p x=false:=this
  simp [List.takeWhile_cons,List.dropWhile_cons,hx]
 | x :: l,n+1,hn,h,hx=>by
  have h0:p x=true:=h 0 (by omega)
  have ih:=Aw2 p l n (by simpa using hn) (fun k hk=>by have:=h (k+1) (by omega);simpa using this) (fun hl=>by have:=hx (by simpa using hl);simpa using this)
  simp [List.takeWhile_cons,List.dropWhile_cons,h0,ih.1,ih.2]
theorem Bl2{α:Type}[Inhabited α]{a:List α}{i:Int}(h0:0≤i)(h:i < a.length):a.drop i.toNat=a[i.toNat]! :: a.drop (i+1).toNat:=by
 rw[show(i+1).toNat=i.toNat+1 by omega,getElem!_pos a i.toNat (by omega)]
 exact List.drop_eq_getElem_cons (by omega)
theorem Ah7{α:Type}[Inhabited α]{a:List α}{i k:Nat}(h:i+k < a.length):(a.drop i)[k]! = a[i+k]!:=by
 rw[getElem!_pos (a.drop i) k (by rw[List.length_drop];omega),getElem!_pos a (i+k) h,List.getElem_drop]
theorem A2k{rs:List Record}{i j:Int}{ps:List Past}(h0:0≤i)(hi:i < rs.length)(hij:i≤j)(hj:j≤rs.length)(he:¬(j < rs.length∧rs[j.toNat]!.sku=rs[i.toNat]!.sku))(h:Bd4 rs i j ps) :
  i < j∧ps=(L9 rs[i.toNat]! (rs.drop (i+1).toNat)).map (fun x=>x.past)∧rs.drop j.toNat=A77 rs[i.toNat]! (rs.drop (i+1).toNat):=by
 have hlt:i < j:=by
  apply Classical.byContradiction
  intro k
  have:j=i:=by omega
  subst this
  exact he ⟨hi,rfl⟩
 have hw:=Aw2 (fun x:Record=>decide (x.sku=rs[i.toNat]!.sku)) (rs.drop i.toNat) (j-i).toNat (by rw[List.length_drop];omega) (fun k hk=>by
  rw[Ah7 (by omega),decide_eq_true_iff]
  exact h.2 (i.toNat+k) (by omega) (by omega)) (fun hl=>by
  rw[List.length_drop]at hl
  rw[Ah7 (by omega),decide_eq_false_iff_not,show i.toNat+(j-i).toNat=j.toNat by omega]
  exact fun k=>he ⟨by omega,k⟩)
 have e1:L9 rs[i.toNat]! (rs.drop (i+1).toNat)=(rs.drop i.toNat).takeWhile fun x=>decide (x.sku=rs[i.toNat]!.sku):=by
  rw[Bl2 h0 hi,List.takeWhile_cons]
  simp [L9]
 have e2:A77 rs[i.toNat]! (rs.drop (i+1).toNat)=(rs.drop i.toNat).dropWhile fun x=>decide (x.sku=rs[i.toNat]!.sku):=by
  rw[Bl2 h0 hi,List.dropWhile_cons]
  simp [A77]
 refine⟨hlt,?_,?_⟩
 ·rw[e1,hw.1];exact h.1
 ·rw[e2,hw.2,List.drop_drop,show i.toNat+(j-i).toNat=j.toNat by omega]
theorem A9q{rs:List Record}{i j:Int}{ps:List Past}{all:Past}{out:List Record}(h0:0≤i)(hi:i < rs.length)(hij:i≤j)(hj:j≤rs.length)(he:¬(j < rs.length∧rs[j.toNat]!.sku=rs[i.toNat]!.sku))(h:Bd4 rs i j ps)(hf:Bl0 rs i all out) :
  Bl0 rs j (if rs[i.toNat]!.sku=noneS then C7 ps else all) (if C2 (if rs[i.toNat]!.sku=noneS then C7 ps else B6 (C7 ps) all)=0 then out else out++[⟨rs[i.toNat]!.sku,if rs[i.toNat]!.sku=noneS then C7 ps else B6 (C7 ps) all⟩]):=by
 obtain⟨_,e1,e2⟩:=A2k h0 hi hij hj he h
 unfold Bl0 at *
 rw[← hf,Bl2 h0 hi,A84,e2,e1]
 rfl
theorem A9r(a b:List Record):A39 (a++b)=A39 a+A39 b:=by simp [A39]
theorem Bl3(a:List Record):a.length≤A39 a:=by
 induction a with
 | nil=>simp [A39]
 | cons r a ih=>simp only [A39,List.map_cons,List.sum_cons,List.length_cons]at *;omega
theorem B8d(l:List Record):A1k (l.map fun x=>x.past)=A39 l:=by simp [A1k,A39,Function.comp_def]
theorem gr_tot{rs:List Record}{i j:Int}{ps:List Past}(h:Bd4 rs i j ps):A1k ps≤A39 rs:=by
 rw[h.1,B8d]
 have h1:=A9r (rs.take i.toNat) (rs.drop i.toNat)
 rw[List.take_append_drop]at h1
 have h2:=A9r ((rs.drop i.toNat).take (j-i).toNat) ((rs.drop i.toNat).drop (j-i).toNat)
 rw[List.take_append_drop]at h2
 omega
theorem Bd5{rs:List Record}{i j:Int}{ps:List Past}(h:Bd4 rs i j ps):(ps.length:Int)≤(j-i).toNat:=by
 rw[h.1,List.length_map,List.length_take]
 omega
theorem Bl4{rs:List Record}{i j:Int}{ps:List Past}(h0:0≤i)(hij:i≤j)(hj:j < rs.length)(hs:rs[j.toNat]!.sku=rs[i.toNat]!.sku)(h:Bd4 rs i j ps):Bd4 rs i (j+1) (ps++[rs[j.toNat]!.past]):=by
 refine⟨?_,fun k hk1 hk2=>?_⟩
 ·rw[h.1,show(j+1-i).toNat=(j-i).toNat+1 by omega,List.take_succ_eq_append_getElem (by rw[List.length_drop];omega),List.map_append]
  congr 1
  have hjn:i.toNat+(j-i).toNat < rs.length:=by omega
  have:(rs.drop i.toNat)[(j-i).toNat]'(by rw[List.length_drop];omega)=rs[j.toNat]!:=by
   rw[List.getElem_drop,getElem!_pos rs j.toNat (by omega)]
   congr 1
   omega
  simp only [List.map_cons,List.map_nil,this]
 ·by_cases e:k=j.toNat
  ·rw[e];exact hs
  ·exact h.2 k hk1 (by omega)
theorem Y6{p:Past}(h:p=A5 p):p.cloud.length≤8000000000:=by
 rw[h]
 exact(N3 _).1
theorem A9s(ps:List Past):(C7 ps).cloud.length≤8000000000:=(N3 _).1
theorem B8e(a b:Past):(B6 a b).cloud.length≤8000000000:=(N3 fun r=>Y1 (A8 [a] r) (A8 [b] r)).1
theorem Bd6{rs:List Record}{i:Int}{all:Past}{out:List Record}(hi:¬ i < rs.length)(h:Bl0 rs i all out):out=Y5 ⟨[],[]⟩ [] rs:=by
 unfold Bl0 at h
 rw[List.drop_of_length_le (by omega),A5r]at h
 exact h
theorem Aw3{out:List Record}{b:Go.E.Blk}{n m:Nat}(hb:b.k=.row m (out.map c83))(h:0 <(out.length:Int))(hn:n=0):Go.E.rowAt b n (c83 out[0]!):=by
 unfold Go.E.rowAt
 rw[hb,hn]
 cases out with
 | nil=>simp at h
 | cons x l=>rfl
theorem B47{es:List Entry}{B:List Record}{i:Int}{o:List Entry}(h0:0≤i)(hi:i < es.length)(ho:o=(es.take i.toNat).filter fun e=>decide (E5 B e=0)) :
  (es.take (i+1).toNat).filter (fun e=>decide (E5 B e=0))=o++if E5 B es[i.toNat]! = 0 then[es[i.toNat]!]else[]:=by
 rw[← E1 h0 hi,List.filter_append,ho]
 congr 1
 generalize es[i.toNat]! = x
 split
 ·rename_i h;simp [List.filter_cons,h]
 ·rename_i h;simp [List.filter_cons,h]
theorem Bl5(es:List Entry)(rs:List Record):es.filter (fun e=>decide (E5 (Y5 ⟨[],[]⟩ [] rs) e=0))=es.filter fun e=>decide (E5 rs e=0) :=
 List.filter_congr fun e _=>decide_eq_decide.2 (B46 rs e)
theorem Bl6(r:Record)(hb:szR r):Con Tryz.prog 96 [.agg (c83 r)] (.agg (c83 ⟨r.sku,A5 r.past⟩)) :=
 by
 refine sC A9 [.cell 2 83] 9 Tryz.func96 ?_
 intro e0 cx
 refine sq<|rG cx [1,2] [1,2] z0<|sn<|sq<|rA cx [2] [2] (fT (B7s (r.past) ?g0) (oA 4 (.agg [.sl (List.map c3 (A5 r.past).vec),.sl (List.map B5 (A5 r.past).cloud)]) z0)) ?_;rotate_left
 refine sn<|rT<|qR (.agg [.s (r.sku),.sl (List.map c3 (A5 r.past).vec),.sl (List.map B5 (A5 r.past).cloud)]) (.eq ?g1);rotate_left
 case g0=>exact hb
 case g1=>exact rfl
theorem con156(r:Record)(e:Entry):Con Tryz.prog 156 [.agg (c83 r),.agg (c67 e)] (.b (A38 r e)) :=
 by
 refine sC A9 [.tmp 4] 22 Tryz.func156 ?_
 intro e0 cx
 refine sq<|rG cx [2,3] [2,3] z0<|sn<|sq<|B3 (σ':=⟨[(4,.b (decide (r.sku={ data:=#[]:ByteArray }∧D0 r.past e.dot=true∨¬r.sku={ data:=#[]:ByteArray }∧r.sku=e.sku∧D0 r.past e.dot=true)))],[]⟩) ?_ ?_
 refine A4 (r.sku={ data:=#[]:ByteArray }) (fun h_1=>?_) (fun h_1=>?_)
 refine rG cx [4] [] (tT 2 (A20 h_1:AV.b (r.sku.toList == { data:=#[]:ByteArray }.toList)=AV.b true) (fT (Bj3 (r.past) (e.dot)) (tD 17 (D0 r.past e.dot) (r.sku={ data:=#[]:ByteArray }∧D0 r.past e.dot=true∨¬r.sku={ data:=#[]:ByteArray }∧r.sku=e.sku∧D0 r.past e.dot=true) (by simp only [eq_true h_1,tsl]) (oA 15 (.b (D0 r.past e.dot)) z0)))) ?_
 exact⟨rfl,by kernel_rfl⟩
 refine A4 (r.sku=e.sku) (fun h_2=>?_) (fun h_2=>?_)
 refine rG cx [4] [] (tT 2 (V2 h_1:AV.b (r.sku.toList == { data:=#[]:ByteArray }.toList)=AV.b false) (tT 8 (A20 h_2:AV.b (r.sku.toList == e.sku.toList)=AV.b true) (fT (Bj3 (r.past) (e.dot)) (tD 17 (D0 r.past e.dot) (r.sku={ data:=#[]:ByteArray }∧D0 r.past e.dot=true∨¬r.sku={ data:=#[]:ByteArray }∧r.sku=e.sku∧D0 r.past e.dot=true) (by simp only [eq_false h_1,eq_true h_2,tsl]) (oA 15 (.b (D0 r.past e.dot)) z0))))) ?_
 exact⟨rfl,by kernel_rfl⟩
 refine rG cx [4] [] (tT 2 (V2 h_1:AV.b (r.sku.toList == { data:=#[]:ByteArray }.toList)=AV.b false) (tT 8 (V2 h_2:AV.b (r.sku.toList == e.sku.toList)=AV.b false) (tD 17 false (r.sku={ data:=#[]:ByteArray }∧D0 r.past e.dot=true∨¬r.sku={ data:=#[]:ByteArray }∧r.sku=e.sku∧D0 r.past e.dot=true) (by simp only [eq_false h_1,eq_false h_2,tsl]) z0))) ?_
 exact⟨rfl,by kernel_rfl⟩
 refine sn<|rT<|qR (.b (decide (r.sku={ data:=#[]:ByteArray }∧D0 r.past e.dot=true∨¬r.sku={ data:=#[]:ByteArray }∧r.sku=e.sku∧D0 r.past e.dot=true))) (.eq ?g0);rotate_left
 case g0 =>
  refine congrArg AV.b ?_
  rw[Bool.eq_iff_iff,A0b,decide_eq_true_iff]
  show(r.sku=noneS∧_∨¬ r.sku=noneS∧_)↔_
  by_cases c:r.sku=noneS <;> simp [c]
theorem con113(rs:List Record)(e:Entry):Con Tryz.prog 113 [.sl (rs.map c83),.agg (c67 e)] (.i .i64 (E5 rs e)) :=
 by
 have st:∀ {i:Int},0≤i→i < rs.length→E5 (rs.take (i+1).toNat) e=E5 (rs.take i.toNat) e+if A38 rs[i.toNat]! e=true then 1 else 0:=by
  intro i h0 h1
  unfold E5
  rw[← E1 h0 h1,List.filter_append,List.length_append]
  generalize rs[i.toNat]! = x
  split
  ·rename_i h;simp [List.filter_cons,h]
  ·rename_i h;simp [List.filter_cons,h]
 refine lN 0 c83 (rs) Tryz.func113 fun hl_0=>sC A9 [.tmp 4] 21 Tryz.func113 ?_
 intro e0 cx
 refine sq<|rG cx [0,3] [3] z0<|sn<|sq<|rG cx [0,3,5] [3] z0<|sn<|sq<|sq<|rG cx [3,5,8,9,10] [3] (tL 1 c83 rs z0)<|sn<|bL 0<|sL (X:=Int×Int×Int×Int×ByteArray×Int) (fun x=>⟨[(3,.ptr (3) (0) (0) (0)),(5,.i .i64 (x.1)),(8,.sl (List.map c83 rs)),(9,.i .i64 ((↑rs.length:Int))),(10,.i .i64 (x.2.1))],[(3,⟨0,67,.var [.i .i64 (x.2.2.1),.i .i64 (x.2.2.2.1),.s (x.2.2.2.2.1),.i .i64 (x.2.2.2.2.2)]⟩)]⟩) (fun x ↦ decBr rs x.1 x.2.1 x.2.2.1 x.2.2.2.1 x.2.2.2.2.1 x.2.2.2.2.2) (fun x ↦ Ah6 rs e x.1 x.2.1 x.2.2.1 x.2.2.2.1 x.2.2.2.2.1 x.2.2.2.2.2) [3,5,8,9,10] [3] (((0:Int),(0:Int),e.dot.rep,e.dot.num,e.sku,e.qty)) (show Ah6 rs e (0:Int) (0:Int) e.dot.rep e.dot.num e.sku e.qty from(by exact⟨rfl,rfl,rfl,rfl,by omega,by omega,by omega,by omega,by simp [E5]⟩)) ?_
 rintro⟨n0,i1,r2,m3,s4,q5⟩ h_6
 obtain⟨hh7,hh8,hh9,hh10,h11,h12,h13,h14,h15⟩:r2=e.dot.rep∧m3=e.dot.num∧s4=e.sku∧q5=e.qty∧0≤i1∧i1≤(↑rs.length:Int)∧0≤n0∧n0≤i1∧n0=E5 (List.take i1.toNat rs) e:=h_6
 refine rE cx [3,5,8,9,10,11] [3] (zB 0 (i1 <(↑rs.length:Int))) (fun h16=>?_) fun h16=>?_
 refine sK<|sn<|sq<|bL 1<|sq<|rG cx [3,5,8,9,10,7] [3,7] (fA (0≤i1) (fG c83 rs i1.toNat (fR 3 (fN 3 3 (oR 0 (c83 rs[i1.toNat]!) z0)))))<|sn<|sq<|rG cx [3,5,8,9,10,16] [3] (fT (con156 (rs[i1.toNat]!) ({ dot:={ rep:=r2,num:=m3:Dot },sku:=s4,qty:=q5:Entry })) (oA 2 (.b (A38 rs[i1.toNat]! { dot:={ rep:=r2,num:=m3:Dot },sku:=s4,qty:=q5:Entry })) z0))<|sn<|X5 (A38 rs[i1.toNat]! { dot:={ rep:=r2,num:=m3:Dot },sku:=s4,qty:=q5:Entry }) (by kernel_rfl) (by kernel_rfl) (fun h17=>?_) (fun h17=>?_)
 refine rG cx [3,5,8,9,10] [3] (tW 1 (n0+1) z0)<|bN<|sn<|rG cx [3,5,8,9,10] [3] (tW 0 (i1+1) z0)<|sn<|nX ((n0+1,i1+1,r2,m3,s4,q5)) (show((↑rs.length:Int)-(i1+1)).toNat <((↑rs.length:Int)-i1).toNat from(by omega)) (show Ah6 rs e (n0+1) (i1+1) r2 m3 s4 q5 from ?g1);rotate_left
 refine sK<|bN<|sn<|rG cx [3,5,8,9,10] [3] (tW 0 (i1+1) z0)<|sn<|nX ((n0,i1+1,r2,m3,s4,q5)) (show((↑rs.length:Int)-(i1+1)).toNat <((↑rs.length:Int)-i1).toNat from(by omega)) (show Ah6 rs e n0 (i1+1) r2 m3 s4 q5 from ?g2);rotate_left
 refine eX 0<|nE<|nE<|bH<|sn<|sq<|rG cx [4] [] z0<|sn<|rT<|qR (.i .i64 (n0)) (.eq (by rw[h15,List.take_of_length_le (by omega)]))
 case g1 =>
  subst hh7 hh8 hh9 hh10
  refine⟨rfl,rfl,rfl,rfl,by omega,by omega,by omega,by omega,?_⟩
  rw[st h11 h16,if_pos h17,h15]
 case g2 =>
  subst hh7 hh8 hh9 hh10
  refine⟨rfl,rfl,rfl,rfl,by omega,by omega,by omega,by omega,?_⟩
  have h17:A38 rs[i1.toNat]! e=false:=h17
  rw[st h11 h16,if_neg (by rw[h17];simp),h15]
  omega
theorem con112(rs:List Record)(hb:B0t rs)(ht:tokR rs):Con Tryz.prog 112 [.sl (rs.map c83)] (.tup [.sl ((R0 rs).1.map c83),.i .i64 (R0 rs).2]) :=
 by
 have hl:=Bl3 rs
 have ht1:=ht.1
 have ht2:=ht.2
 refine lN 0 c83 (rs) Tryz.func112 fun hl_0=>sC A9 [.tmp 2,.tmp 3] 89 Tryz.func112 ?_
 intro e0 cx
 refine sq<|rG cx [0] [] z0<|sn<|sq<|sq<|rG cx [0,12] [] (fT (A9m (rs) (by(with_reducible assumption))) (tN 2 (D9 rs) (0:Int) (oA 1 (.i .i64 (D9 rs)) z0)))<|sn<|dC (¬D9 rs=0) (fun hh0=>?_) fun hh0=>?_
 refine sq<|rG cx [2,3] [] z0<|sn<|rT<|nR<|qR (.tup [.nl,.i .i64 ((1:Int))]) (B9.tup (ZLe.cons (B9.nl' (show List.map c83 (R0 rs).1=[]from(by unfold R0;rw[if_neg hh0];rfl))) (ZLe.cons (B9.eq (show AV.i .i64 1=AV.i .i64 (R0 rs).2 from(by unfold R0;rw[if_neg hh0]))) ZLe.nil)))
 refine sK<|sn<|sq<|rG cx [0,4] [4] z0<|sn<|sq<|rG cx [0,4,5] [4] z0<|sn<|sq<|sq<|rG cx [0,4,5,6] [4] z0<|sn<|bL 0<|G0 5 1005 83 3 (σ':=⟨[(0,.sl (List.map c83 rs)),(4,.ptr (4) (0) (0) (0)),(5,.own 1005 0),(6,.i .i64 ((0:Int)))],[(4,⟨0,26,.var [.nl,.nl]⟩),(1005,⟨0,83,.row 3 (List.map c83 [])⟩)]⟩) (by kernel_rfl)<|At8 4 0 (σ':=⟨[(0,.sl (List.map c83 rs)),(4,.ptr (4) (0) (0) (0)),(5,.own 1005 0),(6,.i .i64 ((0:Int)))],[(4,⟨0,26,.var [.sl (List.map c3 []),.nl]⟩),(1005,⟨0,83,.row 3 (List.map c83 [])⟩)]⟩) (by kernel_rfl)<|At8 4 1 (σ':=⟨[(0,.sl (List.map c83 rs)),(4,.ptr (4) (0) (0) (0)),(5,.own 1005 0),(6,.i .i64 ((0:Int)))],[(4,⟨0,26,.var [.sl (List.map c3 []),.sl (List.map B5 [])]⟩),(1005,⟨0,83,.row 3 (List.map c83 [])⟩)]⟩) (by kernel_rfl)<|sL (X:=Int×List Int×List Span×List Record) (fun x=>⟨[(0,.sl (List.map c83 rs)),(4,.ptr (4) (0) (0) (0)),(5,.own 1005 0),(6,.i .i64 (x.1))],[(4,⟨0,26,.var [.sl (List.map c3 x.2.1),.sl (List.map B5 x.2.2.1)]⟩),(1005,⟨0,83,.row 3 (List.map c83 x.2.2.2)⟩)]⟩) (fun x ↦ decFo rs x.1 x.2.1 x.2.2.1 x.2.2.2) (fun x ↦ B0w rs x.1 x.2.1 x.2.2.1 x.2.2.2) [0,4,5,6] [4,1005] (((0:Int),[],[],[])) (show B0w rs (0:Int) [] [] []from(by exact⟨by omega,by omega,by simp,by simp,rfl,fun r hr=>by cases hr⟩)) ?_
 rintro⟨i1,v2,cc3,o4⟩ h_5
 obtain⟨hh6,hh7,h8,h9,h10,h11⟩:0≤i1∧i1≤(↑rs.length:Int)∧(↑o4.length:Int)≤i1∧cc3.length≤(8000000000:Nat)∧Bl0 rs i1 { vec:=v2,cloud:=cc3:Past } o4∧∀(r:Record),r∈o4→r.past=A5 r.past:=h_5
 refine sq<|rD cx [0,4,5,6,16] [4,1005] (tL 2 c83 rs (zB 3 (i1 <(↑rs.length:Int)))) (fun h12=>?_) fun h12=>?_
 refine sK<|sn<|bL 1<|sq<|rG cx [0,4,5,6,7] [4,1005] z0<|sn<|sq<|rG cx [0,4,5,6,7,8] [4,1005] z0<|sn<|sq<|bL 2<|G0 8 1008 26 2 (σ':=⟨[(0,.sl (List.map c83 rs)),(4,.ptr (4) (0) (0) (0)),(5,.own 1005 0),(6,.i .i64 (i1)),(7,.i .i64 (i1)),(8,.own 1008 0)],[(4,⟨0,26,.var [.sl (List.map c3 v2),.sl (List.map B5 cc3)]⟩),(1005,⟨0,83,.row 3 (List.map c83 o4)⟩),(1008,⟨0,26,.row 2 (List.map c26 [])⟩)]⟩) (by kernel_rfl)<|sL (X:=Int×List Int×List Span×List Record×List Past) (fun x=>⟨[(0,.sl (List.map c83 rs)),(4,.ptr (4) (0) (0) (0)),(5,.own 1005 0),(6,.i .i64 (i1)),(7,.i .i64 (x.1)),(8,.own 1008 0)],[(4,⟨0,26,.var [.sl (List.map c3 x.2.1),.sl (List.map B5 x.2.2.1)]⟩),(1005,⟨0,83,.row 3 (List.map c83 x.2.2.2.1)⟩),(1008,⟨0,26,.row 2 (List.map c26 x.2.2.2.2)⟩)]⟩) (fun x ↦ decGr rs x.1 x.2.1 x.2.2.1 x.2.2.2.1 x.2.2.2.2) (fun x ↦ Bl1 rs i1 v2 cc3 o4 x.1 x.2.1 x.2.2.1 x.2.2.2.1 x.2.2.2.2) [0,4,5,6,7,8] [4,1005,1008] ((i1,v2,cc3,o4,[])) (show Bl1 rs i1 v2 cc3 o4 i1 v2 cc3 o4 []from(by exact⟨rfl,rfl,rfl,by omega,by omega,by simp,fun k hk1 hk2=>by omega⟩)) ?_
 rintro⟨j13,v14,c15,o16,p17⟩ h_18
 obtain⟨h19,h20,h21,h22,h23,h24⟩:v14=v2∧c15=cc3∧o16=o4∧i1≤j13∧j13≤(↑rs.length:Int)∧Bd4 rs i1 j13 p17:=h_18
 refine sq<|sq<|B3 (σ':=⟨[(0,.sl (List.map c83 rs)),(4,.ptr (4) (0) (0) (0)),(5,.own 1005 0),(6,.i .i64 (i1)),(7,.i .i64 (j13)),(8,.own 1008 0),(34,.b (decide (j13 <(↑rs.length:Int)∧rs[j13.toNat]!.sku=rs[i1.toNat]!.sku)))],[(4,⟨0,26,.var [.sl (List.map c3 v14),.sl (List.map B5 c15)]⟩),(1005,⟨0,83,.row 3 (List.map c83 o16)⟩),(1008,⟨0,26,.row 2 (List.map c26 p17)⟩)]⟩) ?_ ?_
 refine A4 (j13 <(↑rs.length:Int)) (fun h_26=>?_) (fun h_26=>?_)
 refine rA cx [0,4,5,6,7,8,34] [4,1005,1008] (tL 2 c83 rs (tT 3 (A3 h_26) (fO (0≤j13) (fG c83 rs j13.toNat (fR 3 (fA (0≤i1) (fG c83 rs i1.toNat (fR 3 (tT 15 (A4f:AV.b (rs[j13.toNat]!.sku.toList == rs[i1.toNat]!.sku.toList)=AV.b (decide (rs[j13.toNat]!.sku=rs[i1.toNat]!.sku))) (tD 16 (decide (rs[j13.toNat]!.sku=rs[i1.toNat]!.sku)) (j13 <(↑rs.length:Int)∧rs[j13.toNat]!.sku=rs[i1.toNat]!.sku) (by simp only [eq_true h_26,tsl]) (oR 7 (c83 rs[j13.toNat]!) (oR 12 (c83 rs[i1.toNat]!) z0)))))))))))) ?_
 exact⟨rfl,by kernel_rfl⟩
 refine rA cx [0,4,5,6,7,8,34] [4,1005,1008] (tL 2 c83 rs (tT 3 (A0 h_26) (tD 16 false (j13 <(↑rs.length:Int)∧rs[j13.toNat]!.sku=rs[i1.toNat]!.sku) (by simp only [eq_false h_26,tsl]) z0))) ?_
 exact⟨rfl,by kernel_rfl⟩
 refine sn<|dC (j13 <(↑rs.length:Int)∧rs[j13.toNat]!.sku=rs[i1.toNat]!.sku) (fun h27=>?_) fun h27=>?_
 refine sK<|sn<|bL 3<|sq<|rG cx [0,4,5,6,7,8] [4,1005,1008] (fO (0≤j13) (fG c83 rs j13.toNat (fR 3 (fN 2 2 (fR 26 (fR 2 (fR 2 (fX c26 [rs[j13.toNat]!.past] 2 (fP ((List.map c26 p17).length+(List.map c26 [rs[j13.toNat]!.past]).length≤maxLen) (by have:=Bd5 h24;simp only [List.length_map,List.length_cons,List.length_nil,Go.maxLen];omega) (fP (((List.map c26 p17).length+(List.map c26 [rs[j13.toNat]!.past]).length)*(48:Nat)≤(140737488355328:Nat)) (by have:=Bd5 h24;simp only [List.length_map,List.length_cons,List.length_nil];omega) (fM c26 p17 [rs[j13.toNat]!.past] (oR 3 (c83 rs[j13.toNat]!) (oV 7 { rows:=some (List.map c26 (p17++[rs[j13.toNat]!.past])) } z0))))))))))))) ?_
 refine sn<|rG cx [0,4,5,6,7,8] [4,1005,1008] (tW 1 (j13+1) z0)<|bN<|sn<|nX ((j13+1,v14,c15,o16,p17++[rs[j13.toNat]!.past])) (show((↑rs.length:Int)-(j13+1)).toNat <((↑rs.length:Int)-j13).toNat from(by omega)) (show Bl1 rs i1 v2 cc3 o4 (j13+1) v14 c15 o16 (p17++[rs[j13.toNat]!.past])from(by exact⟨h19,h20,h21,by omega,by omega,Bl4 hh6 h22 h27.1 h27.2 h24⟩))
 refine eX 2<|nE<|nE<|bH<|sn<|sq<|rA cx [0,4,5,7,9] [4,1005,9] (fA (0≤i1) (fG c83 rs i1.toNat (fR 3 (fT (Bk9 (p17) (by have:=gr_tot h24;omega)) (oR 2 (c83 rs[i1.toNat]!) (oA 6 (.agg [.sl (List.map c3 (C7 p17).vec),.sl (List.map B5 (C7 p17).cloud)]) z0)))))) ?_
 refine sn<|sq<|sq<|rG cx [0,4,5,7,9,55] [4,1005,9] (tT 2 (A4f:AV.b (rs[i1.toNat]!.sku.toList == { data:=#[]:ByteArray }.toList)=AV.b (decide (rs[i1.toNat]!.sku={ data:=#[]:ByteArray }))) z0)<|sn<|dC (rs[i1.toNat]!.sku={ data:=#[]:ByteArray }) (fun h28=>?_) fun h28=>?_
 refine rG cx [0,4,5,7,9] [4,1005,9] z0<|sn<|sq<|sq<|rG cx [0,4,5,7,9,66] [4,1005,9] (fT (B83 (C7 p17) (by have:=A9s p17;omega)) (tQ 3 (C2 (C7 p17)=0) (oA 2 (.b (decide (C2 (C7 p17)=0))) z0))) ?_
 refine sn<|dC (¬C2 (C7 p17)=0) (fun h29=>?_) fun h29=>?_
 refine rG cx [0,4,5,7] [4,1005] (fR 83 (fR 3 (fR 3 (fX c83 [{ sku:=rs[i1.toNat]!.sku,past:=C7 p17:Record }] 3 (fP ((List.map c83 o16).length+(List.map c83 [{ sku:=rs[i1.toNat]!.sku,past:=C7 p17:Record }]).length≤maxLen) (by subst h21;simp only [List.length_map,List.length_cons,List.length_nil,Go.maxLen];omega) (fP (((List.map c83 o16).length+(List.map c83 [{ sku:=rs[i1.toNat]!.sku,past:=C7 p17:Record }]).length)*(64:Nat)≤(140737488355328:Nat)) (by subst h21;simp only [List.length_map,List.length_cons,List.length_nil];omega) (fM c83 o16 [{ sku:=rs[i1.toNat]!.sku,past:=C7 p17:Record }] (oV 3 { rows:=some (List.map c83 (o16++[{ sku:=rs[i1.toNat]!.sku,past:=C7 p17:Record }])) } z0)))))))) ?_
 refine sn<|rG cx [0,4,5,6] [4,1005] z0<|bN<|sn<|nX ((j13,(C7 p17).vec,(C7 p17).cloud,o16++[{ sku:=rs[i1.toNat]!.sku,past:=C7 p17:Record }])) (show((↑rs.length:Int)-j13).toNat <((↑rs.length:Int)-i1).toNat from(by have:=(A2k hh6 h12 h22 h23 h27 h24).1;omega)) (show B0w rs j13 (C7 p17).vec (C7 p17).cloud (o16++[{ sku:=rs[i1.toNat]!.sku,past:=C7 p17:Record }])from ?g12);rotate_left
 refine sK<|sn<|rG cx [0,4,5,6] [4,1005] z0<|bN<|sn<|nX ((j13,(C7 p17).vec,(C7 p17).cloud,o16)) (show((↑rs.length:Int)-j13).toNat <((↑rs.length:Int)-i1).toNat from(by have:=(A2k hh6 h12 h22 h23 h27 h24).1;omega)) (show B0w rs j13 (C7 p17).vec (C7 p17).cloud o16 from ?g14);rotate_left
 refine rG cx [0,4,5,7,9] [4,1005,9] (fT (con47 (C7 p17) ({ vec:=v14,cloud:=c15:Past }) (by have:=A9s p17;omega) (by subst h20;simp only;omega)) (oA 3 (.agg [.sl (List.map c3 (B6 (C7 p17) { vec:=v14,cloud:=c15:Past }).vec),.sl (List.map B5 (B6 (C7 p17) { vec:=v14,cloud:=c15:Past }).cloud)]) z0)) ?_
 refine sn<|sq<|sq<|rG cx [0,4,5,7,9,66] [4,1005,9] (fT (B83 (B6 (C7 p17) { vec:=v14,cloud:=c15:Past }) (by have:=B8e (C7 p17) ⟨v14,c15⟩;omega)) (tQ 3 (C2 (B6 (C7 p17) { vec:=v14,cloud:=c15:Past })=0) (oA 2 (.b (decide (C2 (B6 (C7 p17) { vec:=v14,cloud:=c15:Past })=0))) z0))) ?_
 refine sn<|dC (¬C2 (B6 (C7 p17) { vec:=v14,cloud:=c15:Past })=0) (fun h30=>?_) fun h30=>?_
 refine rG cx [0,4,5,7] [4,1005] (fR 83 (fR 3 (fR 3 (fX c83 [{ sku:=rs[i1.toNat]!.sku,past:=B6 (C7 p17) { vec:=v14,cloud:=c15:Past }:Record }] 3 (fP ((List.map c83 o16).length+(List.map c83 [{ sku:=rs[i1.toNat]!.sku,past:=B6 (C7 p17) { vec:=v14,cloud:=c15:Past }:Record }]).length≤maxLen) (by subst h21;simp only [List.length_map,List.length_cons,List.length_nil,Go.maxLen];omega) (fP (((List.map c83 o16).length+(List.map c83 [{ sku:=rs[i1.toNat]!.sku,past:=B6 (C7 p17) { vec:=v14,cloud:=c15:Past }:Record }]).length)*(64:Nat)≤(140737488355328:Nat)) (by subst h21;simp only [List.length_map,List.length_cons,List.length_nil];omega) (fM c83 o16 [{ sku:=rs[i1.toNat]!.sku,past:=B6 (C7 p17) { vec:=v14,cloud:=c15:Past }:Record }] (oV 3 { rows:=some (List.map c83 (o16++[{ sku:=rs[i1.toNat]!.sku,past:=B6 (C7 p17) { vec:=v14,cloud:=c15:Past }:Record }])) } z0)))))))) ?_
 refine sn<|rG cx [0,4,5,6] [4,1005] z0<|bN<|sn<|nX ((j13,v14,c15,o16++[{ sku:=rs[i1.toNat]!.sku,past:=B6 (C7 p17) { vec:=v14,cloud:=c15:Past }:Record }])) (show((↑rs.length:Int)-j13).toNat <((↑rs.length:Int)-i1).toNat from(by have:=(A2k hh6 h12 h22 h23 h27 h24).1;omega)) (show B0w rs j13 v14 c15 (o16++[{ sku:=rs[i1.toNat]!.sku,past:=B6 (C7 p17) { vec:=v14,cloud:=c15:Past }:Record }])from ?g21);rotate_left
 refine sK<|sn<|rG cx [0,4,5,6] [4,1005] z0<|bN<|sn<|nX ((j13,v14,c15,o16)) (show((↑rs.length:Int)-j13).toNat <((↑rs.length:Int)-i1).toNat from(by have:=(A2k hh6 h12 h22 h23 h27 h24).1;omega)) (show B0w rs j13 v14 c15 o16 from ?g23);rotate_left
 refine eX 0<|nE<|nE<|bH<|sn<|sq<|sq<|B3 (σ':=⟨[(5,.own 1005 0),(81,.b (decide ((0:Int) <(↑o4.length:Int)∧o4[0]!.sku={ data:=#[]:ByteArray })))],[(1005,⟨0,83,.row 3 (List.map c83 o4)⟩)]⟩) ?_ ?_
 refine A4 ((0:Int) <(↑o4.length:Int)) (fun h32=>?_) (fun h32=>?_)
 refine rG cx [5,81] [1005] (tL 1 c83 o4 (tT 2 (A3 h32) (fO ((0:Int)≤(0:Int)) (fP (Int.toNat (0:Int) <(List.map c83 o4).length) (by(first | omega | (simp only [List.length_map];omega))) (fR 3 (fP (E.rowAt { ver:=0,ty:=83,k:=BK.row (3) (List.map c83 o4):Blk } (0) (c83 o4[0]!)) (by exact Aw3 rfl h32 rfl) (tT 8 (A4f:AV.b (o4[0]!.sku.toList == { data:=#[]:ByteArray }.toList)=AV.b (decide (o4[0]!.sku={ data:=#[]:ByteArray }))) (tD 9 (decide (o4[0]!.sku={ data:=#[]:ByteArray })) ((0:Int) <(↑o4.length:Int)∧o4[0]!.sku={ data:=#[]:ByteArray }) (by simp only [eq_true h32,tsl]) (oR 7 (c83 o4[0]!) z0))))))))) ?_
 exact⟨rfl,by kernel_rfl⟩
 refine rG cx [5,81] [1005] (tL 1 c83 o4 (tT 2 (A0 h32) (tD 9 false ((0:Int) <(↑o4.length:Int)∧o4[0]!.sku={ data:=#[]:ByteArray }) (by simp only [eq_false h32,tsl]) z0))) ?_
 exact⟨rfl,by kernel_rfl⟩
 refine sn<|dC ((0:Int) <(↑o4.length:Int)∧o4[0]!.sku={ data:=#[]:ByteArray }) (fun h33=>?_) fun h33=>?_
 refine rG cx [5] [1005] (fO ((0:Int)≤(0:Int)) (fP (Int.toNat (0:Int) <(List.map c83 o4).length) (by(first | omega | (simp only [List.length_map];omega))) (fR 3 (fP (E.rowAt { ver:=0,ty:=83,k:=BK.row (3) (List.map c83 o4):Blk } (0) (c83 o4[0]!)) (by exact Aw3 rfl h33.1 rfl) (fP (0+(3:Nat)≤(c83 o4[0]!).length) (by exact Nat.le_refl 3) (fT (Bl6 (o4[0]!) ?g27) (fO ((0:Int)≤(0:Int)) (fP (Int.toNat (0:Int) <(List.map c83 o4).length) (by(first | omega | (simp only [List.length_map];omega))) (fR 3 (fP ((List.map c83 o4)[0]?=some (c83 o4[0]!)) (by((try simp only [Nat.mul_one,Nat.add_zero,Nat.zero_add]);with_reducible refine F7 ?_;omega)) (fR 3 (fP (0+(3:Nat)≤3) (by(first | omega | (simp only [List.length_map];omega))) (fP ((List.map c83 o4).set (0) (List.take (0) (c83 o4[0]!)++E0 (AV.agg [AV.s { sku:=o4[0]!.sku,past:=A5 o4[0]!.past:Record }.sku,AV.sl (List.map c3 { sku:=o4[0]!.sku,past:=A5 o4[0]!.past:Record }.past.vec),AV.sl (List.map B5 { sku:=o4[0]!.sku,past:=A5 o4[0]!.past:Record }.past.cloud)])++List.drop (0+(3:Nat)) (c83 o4[0]!))=List.map c83 (o4.set (0) { sku:=o4[0]!.sku,past:=A5 o4[0]!.past:Record })) (by(with_reducible refine A3d ?_;kernel_rfl)) (oR 3 (c83 o4[0]!) (oA 4 (.agg [.s ({ sku:=o4[0]!.sku,past:=A5 o4[0]!.past:Record }.sku),.sl (List.map c3 { sku:=o4[0]!.sku,past:=A5 o4[0]!.past:Record }.past.vec),.sl (List.map B5 { sku:=o4[0]!.sku,past:=A5 o4[0]!.past:Record }.past.cloud)]) (oV 6 { row:=(c83 o4[0]!),rows:=some (List.map c83 (o4.set (0) { sku:=o4[0]!.sku,past:=A5 o4[0]!.past:Record })) } z0)))))))))))))))) ?_;rotate_left
 refine sn<|sq<|rG cx [2,3] [1005] z0<|sn<|rT<|qR (.tup [.sl (List.map c83 (o4.set (0) { sku:=o4[0]!.sku,past:=A5 o4[0]!.past:Record })),.i .i64 ((0:Int))]) (B9.tup (ZLe.cons (B9.eq (show AV.sl (List.map c83 (o4.set (0) { sku:=o4[0]!.sku,past:=A5 o4[0]!.past:Record }))=AV.sl (List.map c83 (R0 rs).1)from ?g29)) (ZLe.cons (B9.eq (show AV.i .i64 0=AV.i .i64 (R0 rs).2 from(by unfold R0;rw[if_pos (Classical.not_not.1 hh0)]))) ZLe.nil)));rotate_left
 refine sK<|sn<|sq<|rG cx [2,3] [1005] z0<|sn<|rT<|qR (.tup [.sl (List.map c83 o4),.i .i64 ((0:Int))]) (B9.tup (ZLe.cons (B9.eq (show AV.sl (List.map c83 o4)=AV.sl (List.map c83 (R0 rs).1)from ?g31)) (ZLe.cons (B9.eq (show AV.i .i64 0=AV.i .i64 (R0 rs).2 from(by unfold R0;rw[if_pos (Classical.not_not.1 hh0)]))) ZLe.nil)));rotate_left
 case g12 =>
  have k4':rs[i1.toNat]!.sku=noneS:=h28
  have g:=A9q hh6 h12 h22 h23 h27 h24 h10
  have g2:=(A2k hh6 h12 h22 h23 h27 h24).1
  rw[if_pos k4',if_neg (by rw[if_pos k4'];exact h29),if_pos k4']at g
  subst h21
  refine⟨by omega,by omega,by rw[List.length_append,List.length_singleton];omega,A9s p17,g,fun r hr=>?_⟩
  rcases List.mem_append.1 hr with hr | hr
  ·exact h11 r hr
  ·have:r=⟨rs[i1.toNat]!.sku,C7 p17⟩:=by simpa using hr
   subst this
   exact A2c p17
 case g14 =>
  have k4':rs[i1.toNat]!.sku=noneS:=h28
  have g:=A9q hh6 h12 h22 h23 h27 h24 h10
  have g2:=(A2k hh6 h12 h22 h23 h27 h24).1
  rw[if_pos k4',if_pos (by rw[if_pos k4'];exact Classical.not_not.1 h29)]at g
  subst h21
  exact⟨by omega,by omega,by omega,A9s p17,g,h11⟩
 case g21 =>
  have k4':¬ rs[i1.toNat]!.sku=noneS:=h28
  have g:=A9q hh6 h12 h22 h23 h27 h24 h10
  have g2:=(A2k hh6 h12 h22 h23 h27 h24).1
  subst h19 h20 h21
  rw[if_neg k4',if_neg (by rw[if_neg k4'];exact h30),if_neg k4']at g
  refine⟨by omega,by omega,by rw[List.length_append,List.length_singleton];omega,h9,g,fun r hr=>?_⟩
  rcases List.mem_append.1 hr with hr | hr
  ·exact h11 r hr
  ·have:r=⟨rs[i1.toNat]!.sku,B6 (C7 p17) ⟨v14,c15⟩⟩:=by simpa using hr
   subst this
   exact A7y _ _
 case g23 =>
  have k4':¬ rs[i1.toNat]!.sku=noneS:=h28
  have g:=A9q hh6 h12 h22 h23 h27 h24 h10
  have g2:=(A2k hh6 h12 h22 h23 h27 h24).1
  subst h19 h20 h21
  rw[if_neg k4',if_pos (by rw[if_neg k4'];exact Classical.not_not.1 h30)]at g
  exact⟨by omega,by omega,by omega,h9,g,h11⟩
 case g27 =>
  have:=Y6 (h11 o4[0]! (E2 (by omega)))
  unfold szR
  omega
 case g29 =>
  have e:(⟨o4[0]!.sku,A5 o4[0]!.past⟩:Record)=o4[0]!:=by
   have:=h11 o4[0]! (E2 (by omega))
   generalize o4[0]! = r at *
   cases r
   simp only at this
   rw[← this]
  have e2:o4.set 0 o4[0]! = o4:=by
   cases o4 with
   | nil=>rfl
   | cons x l=>rfl
  unfold R0
  rw[if_pos (Classical.not_not.1 hh0),← Bd6 h12 h10]
  show AV.sl (List.map c83 (o4.set 0 ⟨o4[0]!.sku,A5 o4[0]!.past⟩))=_
  rw[e,e2]
 case g31 =>
  unfold R0
  rw[if_pos (Classical.not_not.1 hh0),← Bd6 h12 h10]
theorem con62(es:List Entry)(rs:List Record)(hb:B0t rs)(ht:tokR rs):Con Tryz.prog 62 [.sl (es.map c67),.sl (rs.map c83)] (.tup [.sl ((I0 es rs).1.map c67),.i .i64 (I0 es rs).2]) :=
 by
 have hl:D2 es=0→es.length≤16000000000:=fun h=>A0a (N9 h)
 have hf:D9 rs=0→(R0 rs).1=Y5 ⟨[],[]⟩ [] rs:=fun h=>by unfold R0;rw[if_pos h]
 have no:¬D2 es=0∨¬D9 rs=0→¬(D2 es=0∧D9 rs=0):=fun h k=>by rcases h with h | h;exact h k.1;exact h k.2
 have yes:¬(¬D2 es=0∨¬D9 rs=0)→D2 es=0∧D9 rs=0:=fun h=>⟨Classical.not_not.1 fun k=>h (.inl k),Classical.not_not.1 fun k=>h (.inr k)⟩
 refine lN 0 c67 (es) Tryz.func62 fun hl_0=>lN 1 c83 (rs) Tryz.func62 fun hl_1=>sC A9 [.tmp 4,.tmp 5] 40 Tryz.func62 ?_
 intro e0 cx
 refine sq<|rG cx [0,1] [] z0<|sn<|sq<|sq<|B3 (σ':=⟨[(0,.sl (List.map c67 es)),(1,.sl (List.map c83 rs)),(18,.b (decide (¬D2 es=0∨¬D9 rs=0)))],[]⟩) ?_ ?_
 refine A4 (¬D2 es=0) (fun h_1=>?_) (fun h_1=>?_)
 refine rG cx [0,1,18] [] (fT (A2j (es)) (tT 2 (D1 h_1:AV.b (D2 es !=0)=AV.b true) (tD 7 true (¬D2 es=0∨¬D9 rs=0) (by simp only [eq_false h_1,tsl]) (oA 1 (.i .i64 (D2 es)) z0)))) ?_
 exact⟨rfl,by kernel_rfl⟩
 refine rG cx [0,1,18] [] (fT (A2j (es)) (tN 2 (D2 es) (0:Int) (tT 3 (A0 h_1) (fT (A9m (rs) (by(with_reducible assumption))) (tN 6 (D9 rs) (0:Int) (tT 7 (by first | (simp only [eq_false h_1,tsl];done) | simp_all:AV.b (decide ¬D9 rs=0)=AV.b (decide (¬D2 es=0∨¬D9 rs=0))) (oA 1 (.i .i64 (D2 es)) (oA 5 (.i .i64 (D9 rs)) z0)))))))) ?_
 exact⟨rfl,by kernel_rfl⟩
 refine sn<|dC (¬D2 es=0∨¬D9 rs=0) (fun hh2=>?_) fun hh2=>?_
 refine sq<|rG cx [4,5] [] z0<|sn<|rT<|nR<|qR (.tup [.nl,.i .i64 ((1:Int))]) (B9.tup (ZLe.cons (B9.nl' (show List.map c67 (I0 es rs).1=[]from(by unfold I0;rw[if_neg (no hh2)];rfl))) (ZLe.cons (B9.eq (show AV.i .i64 1=AV.i .i64 (I0 es rs).2 from(by unfold I0;rw[if_neg (no hh2)]))) ZLe.nil)))
 refine sK<|sn<|sq<|rG cx [0,6] [] (fT (con112 (rs) (by(with_reducible assumption)) (by(with_reducible assumption))) (oA 1 (.tup [.sl (List.map c83 (R0 rs).1),.i .i64 ((R0 rs).2)]) z0))<|sn<|sq<|rG cx [0,6,8] [] z0<|sn<|sq<|sq<|rG cx [6,8,24,25,26] [] (tL 1 c67 es z0)<|sn<|bL 0<|G0 8 1008 67 4 (σ':=⟨[(6,.sl (List.map c83 (R0 rs).1)),(8,.own 1008 0),(24,.sl (List.map c67 es)),(25,.i .i64 ((↑es.length:Int))),(26,.i .i64 ((0:Int)))],[(1008,⟨0,67,.row 4 (List.map c67 [])⟩)]⟩) (by kernel_rfl)<|sL (X:=Int×List Entry) (fun x=>⟨[(6,.sl (List.map c83 (R0 rs).1)),(8,.own 1008 0),(24,.sl (List.map c67 es)),(25,.i .i64 ((↑es.length:Int))),(26,.i .i64 (x.1))],[(1008,⟨0,67,.row 4 (List.map c67 x.2)⟩)]⟩) (fun x ↦ decAp es x.1 x.2) (fun x ↦ B8c es (Y5 { vec:=[],cloud:=[]:Past } [] rs) x.1 x.2) [6,8,24,25,26] [1008] (((0:Int),[])) (show B8c es (Y5 { vec:=[],cloud:=[]:Past } [] rs) (0:Int) []from(by exact⟨by omega,by omega,by simp,by simp⟩)) ?_
 rintro⟨i3,o4⟩ h_5
 obtain⟨h6,h7,h8,h9⟩:0≤i3∧i3≤(↑es.length:Int)∧(↑o4.length:Int)≤i3∧o4=List.filter (fun e ↦ decide (E5 (Y5 { vec:=[],cloud:=[]:Past } [] rs) e=0)) (List.take i3.toNat es):=h_5
 refine rE cx [6,8,24,25,26,27] [1008] (zB 0 (i3 <(↑es.length:Int))) (fun h10=>?_) fun h10=>?_
 refine sK<|sn<|sq<|bL 1<|sq<|rG cx [6,8,24,25,26,10] [1008,10] (fA (0≤i3) (fG c67 es i3.toNat (fR 4 (fN 4 4 (oR 0 (c67 es[i3.toNat]!) z0)))))<|sn<|rD cx [6,8,24,25,26,10,33] [1008,10] (fT (con113 ((R0 rs).1) (es[i3.toNat]!)) (oA 2 (.i .i64 (E5 (R0 rs).1 es[i3.toNat]!)) (zB 3 (E5 (R0 rs).1 es[i3.toNat]! =(0:Int))))) (fun h11=>?_) fun h11=>?_
 refine rG cx [6,8,24,25,26] [1008] (fR 67 (fR 4 (fR 4 (fX c67 [es[i3.toNat]!] 4 (fS c67 o4 c67 [es[i3.toNat]!] (fP (((List.map c67 o4).length+(List.map c67 [es[i3.toNat]!]).length)*(40:Nat)≤(140737488355328:Nat)) (by have:=hl (yes hh2).1;simp only [List.length_map,List.length_cons,List.length_nil];omega) (fM c67 o4 [es[i3.toNat]!] (oV 3 { rows:=some (List.map c67 (o4++[es[i3.toNat]!])) } z0)))))))) ?_
 refine bN<|sn<|rG cx [6,8,24,25,26] [1008] (tW 0 (i3+1) z0)<|sn<|nX ((i3+1,o4++[es[i3.toNat]!])) (show((↑es.length:Int)-(i3+1)).toNat <((↑es.length:Int)-i3).toNat from(by omega)) (show B8c es (Y5 { vec:=[],cloud:=[]:Past } [] rs) (i3+1) (o4++[es[i3.toNat]!])from ?g4);rotate_left
 refine sK<|bN<|sn<|rG cx [6,8,24,25,26] [1008] (tW 0 (i3+1) z0)<|sn<|nX ((i3+1,o4)) (show((↑es.length:Int)-(i3+1)).toNat <((↑es.length:Int)-i3).toNat from(by omega)) (show B8c es (Y5 { vec:=[],cloud:=[]:Past } [] rs) (i3+1) o4 from ?g5);rotate_left
 refine eX 0<|nE<|nE<|bH<|sn<|sq<|rG cx [4,5] [1008] z0<|sn<|rT<|qR (.tup [.sl (List.map c67 o4),.i .i64 ((0:Int))]) (B9.tup (ZLe.cons (B9.eq (show AV.sl (List.map c67 o4)=AV.sl (List.map c67 (I0 es rs).1)from ?g7)) (ZLe.cons (B9.eq (show AV.i .i64 0=AV.i .i64 (I0 es rs).2 from(by unfold I0;rw[if_pos (yes hh2)]))) ZLe.nil)));rotate_left
 case g4 =>
  rw[hf (yes hh2).2]at h11
  refine⟨by omega,by omega,by rw[List.length_append,List.length_singleton];omega,?_⟩
  rw[B47 h6 h10 h9,if_pos h11]
 case g5 =>
  rw[hf (yes hh2).2]at h11
  refine⟨by omega,by omega,by omega,?_⟩
  rw[B47 h6 h10 h9,if_neg h11,List.append_nil]
 case g7 =>
  unfold I0
  rw[if_pos (yes hh2),h9,List.take_of_length_le (by omega),Bl5]
end Go.Proofs.YtokhjapfekbobaaGreat
namespace Go.Proofs.YtokhjapfekbobaaGreat
open Go.E
set_option maxRecDepth 100000
set_option maxHeartbeats 4000000
def B48(p:Past)(d:Dot)(i:Int)(v:List Int)(c:List Span)(r n:Int):Prop:=v=p.vec∧c=p.cloud∧r=d.rep∧n=d.num∧0≤i∧i≤p.cloud.length∧∀ j:Nat,(j:Int) < i→A75 p.cloud[j]! d=false
def decHas(p:Past)(i:Int)(v:List Int)(c:List Span)(r n:Int):Nat:=(p.cloud.length-i).toNat
def Bl7(a b:Past)(i:Int)(v:List Int)(c:List Span)(w:List Int)(e:List Span):Prop:=v=a.vec∧c=a.cloud∧w=b.vec∧e=b.cloud∧0≤i∧i≤a.vec.length∧∀ j:Nat,(j:Int) < i→a.vec[j]! = b.vec[j]!
def decSV(a:Past)(i:Int)(v:List Int)(c:List Span)(w:List Int)(e:List Span):Nat:=(a.vec.length-i).toNat
def Bl8(a b:Past)(i:Int)(v:List Int)(c:List Span)(w:List Int)(e:List Span):Prop:=v=a.vec∧c=a.cloud∧w=b.vec∧e=b.cloud∧0≤i∧i≤a.cloud.length∧∀ j:Nat,(j:Int) < i→a.cloud[j]! = b.cloud[j]!
def decSC(a:Past)(i:Int)(v:List Int)(c:List Span)(w:List Int)(e:List Span):Nat:=(a.cloud.length-i).toNat
theorem B49(d:Dot):Con Tryz.prog 77 [.agg (c65 d)] (.b (M3 d)) :=
 by
 refine sC A9 [.tmp 2] 21 Tryz.func77 ?_
 intro e0 cx
 refine sq<|rG cx [1] [1] z0<|sn<|sq<|B3 (σ':=⟨[(2,.b (decide (0≤d.rep∧d.rep <(16:Int)∧1≤d.num∧d.num≤1000000000)))],[]⟩) ?_ ?_
 refine A4 (0≤d.rep) (fun h_1=>?_) (fun h_1=>?_)
 refine A4 (d.rep <(16:Int)) (fun h_2=>?_) (fun h_2=>?_)
 refine A4 (1≤d.num) (fun h_3=>?_) (fun h_3=>?_)
 refine rG cx [2] [] (tT 2 (A3 h_1) (tT 6 (A3 h_2) (tT 11 (A3 h_3) (tB 16 (d.num≤1000000000) (tD 18 (decide (d.num≤1000000000)) (0≤d.rep∧d.rep <(16:Int)∧1≤d.num∧d.num≤1000000000) (by simp only [eq_true h_1,eq_true h_2,eq_true h_3,tsl]) z0))))) ?_
 exact⟨rfl,by kernel_rfl⟩
 refine rG cx [2] [] (tT 2 (A3 h_1) (tT 6 (A3 h_2) (tT 11 (A0 h_3) (tD 18 false (0≤d.rep∧d.rep <(16:Int)∧1≤d.num∧d.num≤1000000000) (by simp only [eq_true h_1,eq_true h_2,eq_false h_3,tsl]) z0)))) ?_
 exact⟨rfl,by kernel_rfl⟩
 refine rG cx [2] [] (tT 2 (A3 h_1) (tT 6 (A0 h_2) (tD 18 false (0≤d.rep∧d.rep <(16:Int)∧1≤d.num∧d.num≤1000000000) (by simp only [eq_true h_1,eq_false h_2,tsl]) z0))) ?_
 exact⟨rfl,by kernel_rfl⟩
 refine rG cx [2] [] (tT 2 (A0 h_1) (tD 18 false (0≤d.rep∧d.rep <(16:Int)∧1≤d.num∧d.num≤1000000000) (by simp only [eq_false h_1,tsl]) z0)) ?_
 exact⟨rfl,by kernel_rfl⟩
 refine sn<|rT<|qR (.b (decide (0≤d.rep∧d.rep <(16:Int)∧1≤d.num∧d.num≤1000000000))) (.eq ?g0);rotate_left
 case g0=>exact rfl
theorem B8f(p:Past)(d:Dot)(hl:p.cloud.length≤9223372036854775807):Con Tryz.prog 41 [.agg (c26 p),.agg (c65 d)] (.b (D0 p d)) :=
 by
 refine sC A9 [.tmp 4] 58 Tryz.func41 ?_
 intro e0 cx
 refine sq<|rG cx [2,3] [2,3] z0<|sn<|sq<|sq<|rG cx [2,3,9] [2,3] (fT (B49 (d)) (tT 2 (C9:(AV.b !M3 d)=AV.b (decide ¬M3 d=true)) (oA 1 (.b (M3 d)) z0)))<|sn<|dC (¬M3 d=true) (fun h0=>?_) fun h0=>?_
 refine sq<|rG cx [4] [] z0<|sn<|rT<|nR<|qR (.b (false)) (.eq (by unfold D0;rw[Bool.eq_false_iff.2 h0];rfl))
 refine sK<|sn<|sq<|sq<|B3 (σ':=⟨[(2,.ptr (2) (0) (0) (0)),(3,.ptr (3) (0) (0) (0)),(26,.b (decide (d.rep <(↑p.vec.length:Int)∧d.num≤p.vec[d.rep.toNat]!)))],[(2,⟨0,26,.var [.sl (List.map c3 p.vec),.sl (List.map B5 p.cloud)]⟩),(3,⟨0,65,.var [.i .i64 (d.rep),.i .i64 (d.num)]⟩)]⟩) ?_ ?_
 refine A4 (d.rep <(↑p.vec.length:Int)) (fun h2=>?_) (fun h2=>?_)
 refine rA cx [2,3,26] [2,3] (tL 4 c3 p.vec (tT 5 (A3 h2) (fP (0≤d.rep) (by exact(H4 (Classical.not_not.1 h0)).1) (fP ((List.map c3 p.vec)[d.rep.toNat]?=some (c3 p.vec[d.rep.toNat]!)) (by have:=(H4 (Classical.not_not.1 h0)).1;exact F7 (by omega)) (fR 1 (tB 15 (d.num≤p.vec[d.rep.toNat]!) (tD 16 (decide (d.num≤p.vec[d.rep.toNat]!)) (d.rep <(↑p.vec.length:Int)∧d.num≤p.vec[d.rep.toNat]!) (by simp only [eq_true h2,tsl]) (oR 13 (c3 p.vec[d.rep.toNat]!) z0)))))))) ?_
 exact⟨rfl,by kernel_rfl⟩
 refine rA cx [2,3,26] [2,3] (tL 4 c3 p.vec (tT 5 (A0 h2) (tD 16 false (d.rep <(↑p.vec.length:Int)∧d.num≤p.vec[d.rep.toNat]!) (by simp only [eq_false h2,tsl]) z0))) ?_
 exact⟨rfl,by kernel_rfl⟩
 refine sn<|dC (d.rep <(↑p.vec.length:Int)∧d.num≤p.vec[d.rep.toNat]!) (fun h3=>?_) fun h3=>?_
 refine sq<|rG cx [4] [] z0<|sn<|rT<|nR<|qR (.b (true)) (.eq (by unfold D0;rw[Classical.not_not.1 h0,decide_eq_true h3];rfl))
 refine sK<|sn<|sq<|sq<|rG cx [2,3,5] [2,3] z0<|sn<|bL 0<|sL (X:=Int×List Int×List Span×Int×Int) (fun x=>⟨[(2,.ptr (2) (0) (0) (0)),(3,.ptr (3) (0) (0) (0)),(5,.i .i64 (x.1))],[(2,⟨0,26,.var [.sl (List.map c3 x.2.1),.sl (List.map B5 x.2.2.1)]⟩),(3,⟨0,65,.var [.i .i64 (x.2.2.2.1),.i .i64 (x.2.2.2.2)]⟩)]⟩) (fun x ↦ decHas p x.1 x.2.1 x.2.2.1 x.2.2.2.1 x.2.2.2.2) (fun x ↦ B48 p d x.1 x.2.1 x.2.2.1 x.2.2.2.1 x.2.2.2.2) [2,3,5] [2,3] (((0:Int),p.vec,p.cloud,d.rep,d.num)) (show B48 p d (0:Int) p.vec p.cloud d.rep d.num from(by exact⟨rfl,rfl,rfl,rfl,by omega,by omega,fun j hj=>by omega⟩)) ?_
 rintro⟨i4,v5,c6,r7,n8⟩ h_9
 obtain⟨h10,h11,h12,h13,h14,h15,h16⟩:v5=p.vec∧c6=p.cloud∧r7=d.rep∧n8=d.num∧0≤i4∧i4≤(↑p.cloud.length:Int)∧∀(j:Nat),(↑j:Int) < i4→A75 p.cloud[j]! d=false:=h_9
 refine sq<|rD cx [2,3,5,31] [2,3] (tL 3 B5 c6 (zB 4 (i4 <(↑c6.length:Int)))) (fun h17=>?_) fun h17=>?_
 refine sK<|sn<|sq<|bL 1<|sq<|rG cx [2,3,5,6] [2,3,6] (fA (0≤i4) (fG B5 c6 i4.toNat (fR 3 (fN 3 3 (oR 3 (B5 c6[i4.toNat]!) z0)))))<|sn<|sq<|B3 (σ':=⟨[(2,.ptr (2) (0) (0) (0)),(3,.ptr (3) (0) (0) (0)),(5,.i .i64 (i4)),(57,.b (decide (c6[i4.toNat]!.rep=r7∧c6[i4.toNat]!.lo≤n8∧n8≤c6[i4.toNat]!.hi)))],[(2,⟨0,26,.var [.sl (List.map c3 v5),.sl (List.map B5 c6)]⟩),(3,⟨0,65,.var [.i .i64 (r7),.i .i64 (n8)]⟩)]⟩) ?_ ?_
 refine A4 (c6[i4.toNat]!.rep=r7) (fun h_19=>?_) (fun h_19=>?_)
 refine A4 (c6[i4.toNat]!.lo≤n8) (fun h_20=>?_) (fun h_20=>?_)
 refine rG cx [2,3,5,57] [2,3] (tT 4 (A3 h_19) (tT 10 (A3 h_20) (tB 17 (n8≤c6[i4.toNat]!.hi) (tD 18 (decide (n8≤c6[i4.toNat]!.hi)) (c6[i4.toNat]!.rep=r7∧c6[i4.toNat]!.lo≤n8∧n8≤c6[i4.toNat]!.hi) (by simp only [eq_true h_19,eq_true h_20,tsl]) z0)))) ?_
 exact⟨rfl,by kernel_rfl⟩
 refine rG cx [2,3,5,57] [2,3] (tT 4 (A3 h_19) (tT 10 (A0 h_20) (tD 18 false (c6[i4.toNat]!.rep=r7∧c6[i4.toNat]!.lo≤n8∧n8≤c6[i4.toNat]!.hi) (by simp only [eq_true h_19,eq_false h_20,tsl]) z0))) ?_
 exact⟨rfl,by kernel_rfl⟩
 refine rG cx [2,3,5,57] [2,3] (tT 4 (A0 h_19) (tD 18 false (c6[i4.toNat]!.rep=r7∧c6[i4.toNat]!.lo≤n8∧n8≤c6[i4.toNat]!.hi) (by simp only [eq_false h_19,tsl]) z0)) ?_
 exact⟨rfl,by kernel_rfl⟩
 refine sn<|dC (c6[i4.toNat]!.rep=r7∧c6[i4.toNat]!.lo≤n8∧n8≤c6[i4.toNat]!.hi) (fun h21=>?_) fun h21=>?_
 refine sq<|rG cx [4] [] z0<|sn<|rT<|bR<|nR<|nR<|bR<|nR<|qR (.b (true)) (.eq ?g5);rotate_left
 refine sK<|bN<|sn<|rG cx [2,3,5] [2,3] (tT 1 (B7 (by omega) (by subst h10 h11 h12 h13;omega):AV.i .i64 (IntKind.i64.wrap (i4+1))=AV.i .i64 (i4+1)) z0) ?_
 refine sn<|nX ((i4+1,v5,c6,r7,n8)) (show((↑p.cloud.length:Int)-(i4+1)).toNat <((↑p.cloud.length:Int)-i4).toNat from(by subst h10 h11 h12 h13;omega)) (show B48 p d (i4+1) v5 c6 r7 n8 from ?g8);rotate_left
 refine eX 0<|nE<|nE<|bH<|sn<|sq<|rG cx [4] [] z0<|sn<|rT<|qR (.b (false)) (.eq ?g9);rotate_left
 case g5 =>
  revert h0 h3 i4 v5 c6 r7 n8 h10 h11 h12 h13 h14 h15 h16 h17 h21
  intro h h1 i v c r n k0 k1 k2 k3 k4 k5 k6 k7 k8
  subst k0 k1 k2 k3
  have:(p.cloud.any fun s=>A75 s d)=true:=List.any_eq_true.2 ⟨_,E2 (l:=p.cloud) (i:=i.toNat) (by omega),decide_eq_true k8⟩
  unfold D0
  rw[Classical.not_not.1 h,this]
  simp
 case g8 =>
  subst h10 h11 h12 h13
  refine⟨rfl,rfl,rfl,rfl,by omega,by omega,fun j hj=>?_⟩
  by_cases e:j=i4.toNat
  ·rw[e];exact decide_eq_false h21
  ·exact h16 j (by omega)
 case g9 =>
  subst h10 h11 h12 h13
  have e:=B3a p.cloud d
  rw[Bc1 fun j hj=>h16 j (by omega)]at e
  unfold D0
  rw[decide_eq_false h3,← e]
  simp
theorem Ap4(a b:Past)(h1:a.vec.length≤9223372036854775807)(h2:a.cloud.length≤9223372036854775807):Con Tryz.prog 25 [.agg (c26 a),.agg (c26 b)] (.b (decide (a=b))) :=
 by
 refine sC A9 [.tmp 4] 59 Tryz.func25 ?_
 intro e0 cx
 refine sq<|rG cx [2,3] [2,3] z0<|sn<|sq<|sq<|B3 (σ':=⟨[(2,.ptr (2) (0) (0) (0)),(3,.ptr (3) (0) (0) (0)),(22,.b (decide (¬(↑a.vec.length:Int)=(↑b.vec.length:Int)∨¬(↑a.cloud.length:Int)=(↑b.cloud.length:Int))))],[(2,⟨0,26,.var [.sl (List.map c3 a.vec),.sl (List.map B5 a.cloud)]⟩),(3,⟨0,26,.var [.sl (List.map c3 b.vec),.sl (List.map B5 b.cloud)]⟩)]⟩) ?_ ?_
 refine A4 (¬(↑a.vec.length:Int)=(↑b.vec.length:Int)) (fun h_1=>?_) (fun h_1=>?_)
 refine rG cx [2,3,22] [2,3] (tL 2 c3 a.vec (tL 5 c3 b.vec (tT 6 (D1 h_1:AV.b ((↑a.vec.length:Int) !=(↑b.vec.length:Int))=AV.b true) (tD 15 true (¬(↑a.vec.length:Int)=(↑b.vec.length:Int)∨¬(↑a.cloud.length:Int)=(↑b.cloud.length:Int)) (by simp only [eq_false h_1,tsl]) z0)))) ?_
 exact⟨rfl,by kernel_rfl⟩
 refine rG cx [2,3,22] [2,3] (tL 2 c3 a.vec (tL 5 c3 b.vec (tN 6 (↑a.vec.length:Int) (↑b.vec.length:Int) (tT 7 (A0 h_1) (tL 10 B5 a.cloud (tL 13 B5 b.cloud (tN 14 (↑a.cloud.length:Int) (↑b.cloud.length:Int) (tT 15 (by first | (simp only [eq_false h_1,tsl];done) | simp_all:AV.b (decide ¬(↑a.cloud.length:Int)=(↑b.cloud.length:Int))=AV.b (decide (¬(↑a.vec.length:Int)=(↑b.vec.length:Int)∨¬(↑a.cloud.length:Int)=(↑b.cloud.length:Int)))) z0)))))))) ?_
 exact⟨rfl,by kernel_rfl⟩
 refine sn<|dC (¬(↑a.vec.length:Int)=(↑b.vec.length:Int)∨¬(↑a.cloud.length:Int)=(↑b.cloud.length:Int)) (fun hh2=>?_) fun hh2=>?_
 refine sq<|rG cx [4] [] z0<|sn<|rT<|nR<|qR (.b (false)) (.eq (by rw[decide_eq_false];rintro rfl;exact hh2.elim (fun k=>k rfl) (fun k=>k rfl)))
 refine sK<|sn<|sq<|sq<|rG cx [2,3,5] [2,3] z0<|sn<|bL 0<|sL (X:=Int×List Int×List Span×List Int×List Span) (fun x=>⟨[(2,.ptr (2) (0) (0) (0)),(3,.ptr (3) (0) (0) (0)),(5,.i .i64 (x.1))],[(2,⟨0,26,.var [.sl (List.map c3 x.2.1),.sl (List.map B5 x.2.2.1)]⟩),(3,⟨0,26,.var [.sl (List.map c3 x.2.2.2.1),.sl (List.map B5 x.2.2.2.2)]⟩)]⟩) (fun x ↦ decSV a x.1 x.2.1 x.2.2.1 x.2.2.2.1 x.2.2.2.2) (fun x ↦ Bl7 a b x.1 x.2.1 x.2.2.1 x.2.2.2.1 x.2.2.2.2) [2,3,5] [2,3] (((0:Int),a.vec,a.cloud,b.vec,b.cloud)) (show Bl7 a b (0:Int) a.vec a.cloud b.vec b.cloud from(by exact⟨rfl,rfl,rfl,rfl,by omega,by omega,fun j hj=>by omega⟩)) ?_
 rintro⟨i3,v4,c5,w6,e7⟩ h_8
 obtain⟨h9,h10,h11,h12,h13,h14,h15⟩:v4=a.vec∧c5=a.cloud∧w6=b.vec∧e7=b.cloud∧0≤i3∧i3≤(↑a.vec.length:Int)∧∀(j:Nat),(↑j:Int) < i3→a.vec[j]! = b.vec[j]!:=h_8
 refine sq<|rD cx [2,3,5,27] [2,3] (tL 3 c3 v4 (zB 4 (i3 <(↑v4.length:Int)))) (fun h16=>?_) fun h16=>?_
 refine sK<|sn<|sq<|bL 1<|sq<|rA cx [2,3,5,40] [2,3] (fA (0≤i3) (fG c3 v4 i3.toNat (fR 1 (fA (0≤i3) (fP ((List.map c3 w6)[i3.toNat]?=some (c3 w6[i3.toNat]!)) (by subst h9 h10 h11 h12;exact F7 (by omega)) (fR 1 (tN 10 v4[i3.toNat]! w6[i3.toNat]! (oR 3 (c3 v4[i3.toNat]!) (oR 8 (c3 w6[i3.toNat]!) z0))))))))) ?_
 refine sn<|dC (¬v4[i3.toNat]! = w6[i3.toNat]!) (fun h17=>?_) fun h17=>?_
 refine sq<|rG cx [4] [] z0<|sn<|rT<|bR<|nR<|nR<|bR<|nR<|qR (.b (false)) (.eq (by subst h9 h10 h11 h12;rw[decide_eq_false];rintro rfl;exact h17 rfl))
 refine sK<|bN<|sn<|rG cx [2,3,5] [2,3] (tT 1 (B7 (by omega) (by subst h9 h10 h11 h12;omega):AV.i .i64 (IntKind.i64.wrap (i3+1))=AV.i .i64 (i3+1)) z0) ?_
 refine sn<|nX ((i3+1,v4,c5,w6,e7)) (show((↑a.vec.length:Int)-(i3+1)).toNat <((↑a.vec.length:Int)-i3).toNat from(by subst h9 h10 h11 h12;omega)) (show Bl7 a b (i3+1) v4 c5 w6 e7 from ?g6);rotate_left
 refine eX 0<|nE<|nE<|bH<|sn<|sq<|sq<|rG cx [2,3,6] [2,3] z0<|sn<|bL 2<|sL (X:=Int×List Int×List Span×List Int×List Span) (fun x=>⟨[(2,.ptr (2) (0) (0) (0)),(3,.ptr (3) (0) (0) (0)),(6,.i .i64 (x.1))],[(2,⟨0,26,.var [.sl (List.map c3 x.2.1),.sl (List.map B5 x.2.2.1)]⟩),(3,⟨0,26,.var [.sl (List.map c3 x.2.2.2.1),.sl (List.map B5 x.2.2.2.2)]⟩)]⟩) (fun x ↦ decSC a x.1 x.2.1 x.2.2.1 x.2.2.2.1 x.2.2.2.2) (fun x ↦ Bl8 a b x.1 x.2.1 x.2.2.1 x.2.2.2.1 x.2.2.2.2) [2,3,6] [2,3] (((0:Int),v4,c5,w6,e7)) (show Bl8 a b (0:Int) v4 c5 w6 e7 from(by exact⟨h9,h10,h11,h12,by omega,by omega,fun j hj=>by omega⟩)) ?_
 rintro⟨i18,v19,c20,w21,e22⟩ h_23
 obtain⟨h24,h25,h26,h27,h28,h29,h30⟩:v19=a.vec∧c20=a.cloud∧w21=b.vec∧e22=b.cloud∧0≤i18∧i18≤(↑a.cloud.length:Int)∧∀(j:Nat),(↑j:Int) < i18→a.cloud[j]! = b.cloud[j]!:=h_23
 refine sq<|rD cx [2,3,6,45] [2,3] (tL 3 B5 c20 (zB 4 (i18 <(↑c20.length:Int)))) (fun h31=>?_) fun h31=>?_
 refine sK<|sn<|sq<|bL 3<|sq<|rA cx [2,3,6,58] [2,3] (fA (0≤i18) (fG B5 c20 i18.toNat (fR 3 (fN 3 3 (fA (0≤i18) (fP ((List.map B5 e22)[i18.toNat]?=some (B5 e22[i18.toNat]!)) (by subst h24 h25 h26 h27;exact F7 (by omega)) (fR 3 (fN 3 3 (fT (V5 (eq109 c20[i18.toNat]! e22[i18.toNat]!)) (oR 3 (B5 c20[i18.toNat]!) (oR 8 (B5 e22[i18.toNat]!) (oA 10 (.b (decide ¬c20[i18.toNat]! = e22[i18.toNat]!)) z0)))))))))))) ?_
 refine sn<|dC (¬c20[i18.toNat]! = e22[i18.toNat]!) (fun h32=>?_) fun h32=>?_
 refine sq<|rG cx [4] [] z0<|sn<|rT<|bR<|nR<|nR<|bR<|nR<|qR (.b (false)) (.eq (by subst h24 h25 h26 h27;rw[decide_eq_false];rintro rfl;exact h32 rfl))
 refine sK<|bN<|sn<|rG cx [2,3,6] [2,3] (tT 1 (B7 (by omega) (by subst h24 h25 h26 h27;omega):AV.i .i64 (IntKind.i64.wrap (i18+1))=AV.i .i64 (i18+1)) z0) ?_
 refine sn<|nX ((i18+1,v19,c20,w21,e22)) (show((↑a.cloud.length:Int)-(i18+1)).toNat <((↑a.cloud.length:Int)-i18).toNat from(by subst h24 h25 h26 h27;omega)) (show Bl8 a b (i18+1) v19 c20 w21 e22 from ?g12);rotate_left
 refine eX 2<|nE<|nE<|bH<|sn<|sq<|rG cx [4] [] z0<|sn<|rT<|qR (.b (true)) (.eq ?g13);rotate_left
 case g6 =>
  subst h9 h10 h11 h12
  refine⟨rfl,rfl,rfl,rfl,by omega,by omega,fun j hj=>?_⟩
  by_cases e7:j=i3.toNat
  ·rw[e7];exact Classical.not_not.1 h17
  ·exact h15 j (by omega)
 case g12 =>
  subst h24 h25 h26 h27
  refine⟨rfl,rfl,rfl,rfl,by omega,by omega,fun l hl=>?_⟩
  by_cases e7:l=i18.toNat
  ·rw[e7];exact Classical.not_not.1 h32
  ·exact h30 l (by omega)
 case g13 =>
  subst h9 h25
  have e1:a.vec=b.vec:=L8 (by omega) fun i18 hj=>h15 i18 (by omega)
  have e2:a.cloud=b.cloud:=L8 (by omega) fun i18 hj=>h30 i18 (by omega)
  rw[decide_eq_true]
  cases a;cases b
  simp only at e1 e2
  rw[e1,e2]
end Go.Proofs.YtokhjapfekbobaaGreat
namespace Go.Proofs.YtokhjapfekbobaaGreat
open Go.E
set_option maxRecDepth 100000
set_option maxHeartbeats 4000000
def leI(a b:Int):Bool:=decide (a≤b)
def A78(A B:List Int)(i j:Int)(s:List Int):Prop:=s++List.merge (A.drop i.toNat) (B.drop j.toNat) leI=List.merge A B leI
def B8g(A B:List Int)(i j:Int)(s:List Int):Prop:=0≤i∧i≤A.length∧0≤j∧j≤B.length∧(s.length:Int)=i+j∧A78 A B i j s
def dec37(A B:List Int)(i j:Int)(s:List Int):Nat:=(A.length+B.length-i-j).toNat
def hA(l:List Int):List Int:=(List.take ((l.length:Int).tdiv 2).toNat l).mergeSort leI
def hB(l:List Int):List Int:=(List.drop ((l.length:Int).tdiv 2).toNat l).mergeSort leI
theorem hA_len(l:List Int):(hA l).length=((l.length:Int).tdiv 2).toNat:=by
 unfold hA
 rw[List.length_mergeSort,List.length_take,Int.tdiv_eq_ediv_of_nonneg (by omega)]
 omega
theorem hB_len(l:List Int):(hB l).length=l.length-((l.length:Int).tdiv 2).toNat:=by
 unfold hB
 rw[List.length_mergeSort,List.length_drop]
theorem Bl9(l:List Int):0≤(l.length:Int).tdiv 2∧2*(l.length:Int).tdiv 2≤l.length∧(l.length:Int)≤2*(l.length:Int).tdiv 2+1:=by
 rw[Int.tdiv_eq_ediv_of_nonneg (by omega)]
 omega
theorem Ah8(a b c:Int)(h1:leI a b=true)(h2:leI b c=true):leI a c=true:=by simp only [leI,decide_eq_true_eq]at *;omega
theorem Ah9(a b:Int):(leI a b || leI b a)=true:=by simp only [leI,Bool.or_eq_true,decide_eq_true_eq];omega
theorem B8h(l:List Int):List.merge (hA l) (hB l) leI=l.mergeSort leI:=by
 refine List.Perm.eq_of_pairwise (le:=fun x y=>leI x y=true) (fun a b _ _ h1 h2=>by simp only [leI,decide_eq_true_eq]at *;omega) ?_ (List.pairwise_mergeSort Ah8 Ah9 l) ?_
 ·exact List.pairwise_merge Ah8 Ah9 _ _ (List.pairwise_mergeSort Ah8 Ah9 _) (List.pairwise_mergeSort Ah8 Ah9 _)
 ·refine(List.merge_perm_append leI).trans (((List.mergeSort_perm _ _).append (List.mergeSort_perm _ _)).trans ?_)
  rw[List.take_append_drop]
  exact(List.mergeSort_perm _ _).symm
theorem O7{α:Type}[Inhabited α]{l:List α}{i:Int}(h0:0≤i)(h:i < l.length):l.drop i.toNat=l[i.toNat]! :: l.drop (i+1).toNat:=by
 rw[show(i+1).toNat=i.toNat+1 by omega,getElem!_pos l i.toNat (by omega),← List.drop_eq_getElem_cons]
theorem mrgL{A B:List Int}{i j:Int}{s:List Int}(h0:0≤i)(hi:i < A.length)(j0:0≤j)(hj:j=B.length∨(j < B.length∧A[i.toNat]!≤B[j.toNat]!))(h:A78 A B i j s):A78 A B (i+1) j (s++[A[i.toNat]!]):=by
 unfold A78 at *
 rw[← h,List.append_assoc]
 congr 1
 rw[O7 h0 hi]
 rcases hj with hj | ⟨hj,hle⟩
 ·rw[List.drop_of_length_le (l:=B) (by omega)];simp
 ·rw[O7 j0 hj,List.cons_merge_cons,if_pos (by simpa [leI]using hle)];simp
theorem mrgR{A B:List Int}{i j:Int}{s:List Int}(h0:0≤i)(j0:0≤j)(hj:j < B.length)(hi:¬ i < A.length∨(i < A.length∧¬ A[i.toNat]!≤B[j.toNat]!))(h:A78 A B i j s):A78 A B i (j+1) (s++[B[j.toNat]!]):=by
 unfold A78 at *
 rw[← h,List.append_assoc]
 congr 1
 rw[O7 j0 hj]
 rcases hi with hi | ⟨hi,hle⟩
 ·rw[List.drop_of_length_le (l:=A) (by omega)];simp
 ·rw[O7 h0 hi,List.cons_merge_cons,if_neg (by simpa [leI]using hle)];simp
theorem mrgE{l:List Int}{i j:Int}{s:List Int}(hi:¬ i <(hA l).length)(hj:¬ j <(hB l).length)(h:A78 (hA l) (hB l) i j s):s=l.mergeSort leI:=by
 unfold A78 at h
 rw[List.drop_of_length_le (by omega),List.drop_of_length_le (by omega)]at h
 rw[← B8h,← h]
 simp
theorem B4a{l:List Int}(h:(l.length:Int) < 2):l.mergeSort leI=l:=by
 match l with
 | []=>simp
 | [a]=>simp
 | a :: b :: l=>simp only [List.length_cons]at h;omega
theorem Aw4(l:List Int)(n:Nat)(hn:l.length≤n)(ih:∀ m:List Int,m.length < n→m.length*8≤140737488351232→Con Tryz.prog 216 [.sl (m.map c3)] (.sl ((m.mergeSort leI).map c3)))(hb:l.length*8≤140737488351232):Con Tryz.prog 216 [.sl (l.map c3)] (.sl ((l.mergeSort leI).map c3)) :=
 by
 have b1:=Bl9 l
 have b2:=hA_len l
 have b3:=hB_len l
 refine lN 0 c3 (l) Tryz.func216 fun hl_0=>sC A9 [.tmp 2] 79 Tryz.func216 ?_
 intro e0 cx
 refine sq<|rG cx [0] [] z0<|sn<|sq<|rD cx [0,10] [] (tL 1 c3 l (zB 2 ((↑l.length:Int) <(2:Int)))) (fun h0=>?_) fun h0=>?_
 refine sq<|rG cx [2] [11] (fR 3 (fR 1 (fR 1 (fX c3 l 1 (fS c3 [] c3 l (fP (((List.map c3 []).length+(List.map c3 l).length)*(8:Nat)≤(140737488355328:Nat)) (by(simp only [Go.maxLen,List.length_map,List.length_append,List.length_cons,List.length_nil];omega)) (fM c3 [] l (oV 2 { rows:=some (List.map c3 ([]++l)) } z0))))))))<|sn<|rT<|nR<|qR (.sl (List.map c3 ([]++l))) (.eq (by rw[B4a h0];rfl))
 refine sK<|sn<|sq<|rG cx [0,3] [] (tL 2 c3 l (tT 3 (B7 (by omega) (by omega):AV.i .i64 (IntKind.i64.wrap ((↑l.length:Int).tdiv (2:Int)))=AV.i .i64 ((↑l.length:Int).tdiv (2:Int))) (tT 4 (B7f c3 l ((↑l.length:Int).tdiv (2:Int)).toNat:AV.sl (List.drop (Int.toNat (0:Int)) (List.take ((↑l.length:Int).tdiv (2:Int)).toNat (List.map c3 l)))=AV.sl (List.map c3 (List.take ((↑l.length:Int).tdiv (2:Int)).toNat l))) (fO ((0:Int)≤(0:Int)) (fP (0≤(↑l.length:Int).tdiv (2:Int)) (by omega) (fP ((↑l.length:Int).tdiv 2≤(↑(List.map c3 l).length:Int)) (by rw[List.length_map];omega) (fX c3 l 1 (fP (Con Tryz.prog (216:FuncId) [AV.sl (List.map c3 (List.take ((↑l.length:Int).tdiv (2:Int)).toNat l))] (AV.sl (List.map c3 ((List.take ((↑l.length:Int).tdiv (2:Int)).toNat l).mergeSort leI)))) (ih (List.take ((↑l.length:Int).tdiv (2:Int)).toNat l) (by show(List.take ((l.length:Int).tdiv 2).toNat l).length < n;rw[List.length_take];omega) (by show(List.take ((l.length:Int).tdiv 2).toNat l).length*8≤140737488351232;rw[List.length_take];omega)) (oA 5 (.sl (List.map c3 ((List.take ((↑l.length:Int).tdiv (2:Int)).toNat l).mergeSort leI))) z0))))))))) ?_
 refine sn<|sq<|rG cx [0,3,4] [] (tL 2 c3 l (tT 3 (B7 (by omega) (by omega):AV.i .i64 (IntKind.i64.wrap ((↑l.length:Int).tdiv (2:Int)))=AV.i .i64 ((↑l.length:Int).tdiv (2:Int))) (tT 4 (At7 c3 l ((↑l.length:Int).tdiv (2:Int)).toNat:AV.sl (List.drop ((↑l.length:Int).tdiv (2:Int)).toNat (List.take (none.getD (↑(List.map c3 l).length:Int)).toNat (List.map c3 l)))=AV.sl (List.map c3 (List.drop ((↑l.length:Int).tdiv (2:Int)).toNat l))) (fP (0≤(↑l.length:Int).tdiv (2:Int)) (by omega) (fP ((↑l.length:Int).tdiv 2≤none.getD (↑(List.map c3 l).length:Int)) (by show _≤((List.map c3 l).length:Int);rw[List.length_map];omega) (fP (none.getD (↑(List.map c3 l).length:Int)≤(↑(List.map c3 l).length:Int)) (by exact Int.le_refl _) (fX c3 l 1 (fP (Con Tryz.prog (216:FuncId) [AV.sl (List.map c3 (List.drop ((↑l.length:Int).tdiv (2:Int)).toNat l))] (AV.sl (List.map c3 ((List.drop ((↑l.length:Int).tdiv (2:Int)).toNat l).mergeSort leI)))) (ih (List.drop ((↑l.length:Int).tdiv (2:Int)).toNat l) (by rw[List.length_drop];omega) (by rw[List.length_drop];omega)) (oA 5 (.sl (List.map c3 ((List.drop ((↑l.length:Int).tdiv (2:Int)).toNat l).mergeSort leI))) z0))))))))) ?_
 refine sn<|sq<|rG cx [3,4,5] [28] (tL 1 c3 l (fR (0:Int) (fR (↑l.length:Int) (fO ((8:Nat)*l.length≤(281474976710656:Nat)) (fP (l.length≤maxLen) (by(simp only [Go.maxLen];omega)) (oV 2 { n:=l.length,flat:=true } z0))))))<|sn<|sq<|rG cx [3,4,5,6,7] [28] z0<|sn<|sq<|bL 0<|sL (X:=Int×Int×List Int) (fun x=>⟨[(3,.sl (List.map c3 ((List.take ((↑l.length:Int).tdiv (2:Int)).toNat l).mergeSort leI))),(4,.sl (List.map c3 ((List.drop ((↑l.length:Int).tdiv (2:Int)).toNat l).mergeSort leI))),(5,.own 28 0),(6,.i .i64 (x.1)),(7,.i .i64 (x.2.1))],[(28,⟨0,3,.row 1 (List.map c3 x.2.2)⟩)]⟩) (fun x ↦ dec37 (hA l) (hB l) x.1 x.2.1 x.2.2) (fun x ↦ B8g (hA l) (hB l) x.1 x.2.1 x.2.2) [3,4,5,6,7] [28] (((0:Int),(0:Int),[])) (show B8g (hA l) (hB l) (0:Int) (0:Int) []from(by exact⟨by omega,by omega,by omega,by omega,rfl,rfl⟩)) ?_
 rintro⟨i1,j2,s3⟩ h_4
 obtain⟨h5,h6,h7,h8,h9,h10⟩:0≤i1∧i1≤(↑(hA l).length:Int)∧0≤j2∧j2≤(↑(hB l).length:Int)∧(↑s3.length:Int)=i1+j2∧A78 (hA l) (hB l) i1 j2 s3:=h_4
 refine sq<|sq<|B3 (σ':=⟨[(3,.sl (List.map c3 ((List.take ((↑l.length:Int).tdiv (2:Int)).toNat l).mergeSort leI))),(4,.sl (List.map c3 ((List.drop ((↑l.length:Int).tdiv (2:Int)).toNat l).mergeSort leI))),(5,.own 28 0),(6,.i .i64 (i1)),(7,.i .i64 (j2)),(38,.b (decide (i1 <(↑((List.take ((↑l.length:Int).tdiv (2:Int)).toNat l).mergeSort leI).length:Int)∨j2 <(↑((List.drop ((↑l.length:Int).tdiv (2:Int)).toNat l).mergeSort leI).length:Int))))],[(28,⟨0,3,.row 1 (List.map c3 s3)⟩)]⟩) ?_ ?_
 refine A4 (i1 <(↑((List.take ((↑l.length:Int).tdiv (2:Int)).toNat l).mergeSort leI).length:Int)) (fun h_12=>?_) (fun h_12=>?_)
 refine rG cx [3,4,5,6,7,38] [28] (tL 2 c3 ((List.take ((↑l.length:Int).tdiv (2:Int)).toNat l).mergeSort leI) (tT 3 (A3 h_12) (tD 9 true (i1 <(↑((List.take ((↑l.length:Int).tdiv (2:Int)).toNat l).mergeSort leI).length:Int)∨j2 <(↑((List.drop ((↑l.length:Int).tdiv (2:Int)).toNat l).mergeSort leI).length:Int)) (by simp only [eq_true h_12,tsl]) z0))) ?_
 exact⟨rfl,by kernel_rfl⟩
 refine rG cx [3,4,5,6,7,38] [28] (tL 2 c3 ((List.take ((↑l.length:Int).tdiv (2:Int)).toNat l).mergeSort leI) (tT 3 (A0 h_12) (tL 7 c3 ((List.drop ((↑l.length:Int).tdiv (2:Int)).toNat l).mergeSort leI) (tB 8 (j2 <(↑((List.drop ((↑l.length:Int).tdiv (2:Int)).toNat l).mergeSort leI).length:Int)) (tD 9 (decide (j2 <(↑((List.drop ((↑l.length:Int).tdiv (2:Int)).toNat l).mergeSort leI).length:Int))) (i1 <(↑((List.take ((↑l.length:Int).tdiv (2:Int)).toNat l).mergeSort leI).length:Int)∨j2 <(↑((List.drop ((↑l.length:Int).tdiv (2:Int)).toNat l).mergeSort leI).length:Int)) (by simp only [eq_false h_12,tsl]) z0))))) ?_
 exact⟨rfl,by kernel_rfl⟩
 refine sn<|dC (i1 <(↑((List.take ((↑l.length:Int).tdiv (2:Int)).toNat l).mergeSort leI).length:Int)∨j2 <(↑((List.drop ((↑l.length:Int).tdiv (2:Int)).toNat l).mergeSort leI).length:Int)) (fun h13=>?_) fun h13=>?_
 refine sK<|sn<|bL 1<|sq<|B3 (σ':=⟨[(3,.sl (List.map c3 ((List.take ((↑l.length:Int).tdiv (2:Int)).toNat l).mergeSort leI))),(4,.sl (List.map c3 ((List.drop ((↑l.length:Int).tdiv (2:Int)).toNat l).mergeSort leI))),(5,.own 28 0),(6,.i .i64 (i1)),(7,.i .i64 (j2)),(59,.b (decide (j2=(↑((List.drop ((↑l.length:Int).tdiv (2:Int)).toNat l).mergeSort leI).length:Int)∨i1 <(↑((List.take ((↑l.length:Int).tdiv (2:Int)).toNat l).mergeSort leI).length:Int)∧((List.take ((↑l.length:Int).tdiv (2:Int)).toNat l).mergeSort leI)[i1.toNat]!≤((List.drop ((↑l.length:Int).tdiv (2:Int)).toNat l).mergeSort leI)[j2.toNat]!)))],[(28,⟨0,3,.row 1 (List.map c3 s3)⟩)]⟩) ?_ ?_
 refine A4 (j2=(↑((List.drop ((↑l.length:Int).tdiv (2:Int)).toNat l).mergeSort leI).length:Int)) (fun h15=>?_) (fun h15=>?_)
 refine rA cx [3,4,5,6,7,59] [28] (tL 2 c3 ((List.drop ((↑l.length:Int).tdiv (2:Int)).toNat l).mergeSort leI) (tT 3 (A3 h15) (tD 20 true (j2=(↑((List.drop ((↑l.length:Int).tdiv (2:Int)).toNat l).mergeSort leI).length:Int)∨i1 <(↑((List.take ((↑l.length:Int).tdiv (2:Int)).toNat l).mergeSort leI).length:Int)∧((List.take ((↑l.length:Int).tdiv (2:Int)).toNat l).mergeSort leI)[i1.toNat]!≤((List.drop ((↑l.length:Int).tdiv (2:Int)).toNat l).mergeSort leI)[j2.toNat]!) (by simp only [eq_true h15,tsl]) z0))) ?_
 exact⟨rfl,by kernel_rfl⟩
 refine A4 (i1 <(↑((List.take ((↑l.length:Int).tdiv (2:Int)).toNat l).mergeSort leI).length:Int)) (fun h16=>?_) (fun h16=>?_)
 refine rA cx [3,4,5,6,7,59] [28] (tL 2 c3 ((List.drop ((↑l.length:Int).tdiv (2:Int)).toNat l).mergeSort leI) (tT 3 (A0 h15) (tL 7 c3 ((List.take ((↑l.length:Int).tdiv (2:Int)).toNat l).mergeSort leI) (tT 8 (A3 h16) (fA (0≤i1) (fG c3 ((List.take ((↑l.length:Int).tdiv (2:Int)).toNat l).mergeSort leI) i1.toNat (fR 1 (fA (0≤j2) (fP ((List.map c3 ((List.drop ((↑l.length:Int).tdiv (2:Int)).toNat l).mergeSort leI))[j2.toNat]?=some (c3 ((List.drop ((↑l.length:Int).tdiv (2:Int)).toNat l).mergeSort leI)[j2.toNat]!)) (by exact F7 (xs:=hB l) (by have:¬ j2=(hB l).length:=h15;omega)) (fR 1 (tB 18 (((List.take ((↑l.length:Int).tdiv (2:Int)).toNat l).mergeSort leI)[i1.toNat]!≤((List.drop ((↑l.length:Int).tdiv (2:Int)).toNat l).mergeSort leI)[j2.toNat]!) (tD 20 (decide (((List.take ((↑l.length:Int).tdiv (2:Int)).toNat l).mergeSort leI)[i1.toNat]!≤((List.drop ((↑l.length:Int).tdiv (2:Int)).toNat l).mergeSort leI)[j2.toNat]!)) (j2=(↑((List.drop ((↑l.length:Int).tdiv (2:Int)).toNat l).mergeSort leI).length:Int)∨i1 <(↑((List.take ((↑l.length:Int).tdiv (2:Int)).toNat l).mergeSort leI).length:Int)∧((List.take ((↑l.length:Int).tdiv (2:Int)).toNat l).mergeSort leI)[i1.toNat]!≤((List.drop ((↑l.length:Int).tdiv (2:Int)).toNat l).mergeSort leI)[j2.toNat]!) (by simp only [eq_false h15,eq_true h16,tsl]) (oR 12 (c3 ((List.take ((↑l.length:Int).tdiv (2:Int)).toNat l).mergeSort leI)[i1.toNat]!) (oR 16 (c3 ((List.drop ((↑l.length:Int).tdiv (2:Int)).toNat l).mergeSort leI)[j2.toNat]!) z0)))))))))))))) ?_
 exact⟨rfl,by kernel_rfl⟩
 refine rA cx [3,4,5,6,7,59] [28] (tL 2 c3 ((List.drop ((↑l.length:Int).tdiv (2:Int)).toNat l).mergeSort leI) (tT 3 (A0 h15) (tL 7 c3 ((List.take ((↑l.length:Int).tdiv (2:Int)).toNat l).mergeSort leI) (tT 8 (A0 h16) (tD 20 false (j2=(↑((List.drop ((↑l.length:Int).tdiv (2:Int)).toNat l).mergeSort leI).length:Int)∨i1 <(↑((List.take ((↑l.length:Int).tdiv (2:Int)).toNat l).mergeSort leI).length:Int)∧((List.take ((↑l.length:Int).tdiv (2:Int)).toNat l).mergeSort leI)[i1.toNat]!≤((List.drop ((↑l.length:Int).tdiv (2:Int)).toNat l).mergeSort leI)[j2.toNat]!) (by simp only [eq_false h15,eq_false h16,tsl]) z0))))) ?_
 exact⟨rfl,by kernel_rfl⟩
 refine sn<|dC (j2=(↑((List.drop ((↑l.length:Int).tdiv (2:Int)).toNat l).mergeSort leI).length:Int)∨i1 <(↑((List.take ((↑l.length:Int).tdiv (2:Int)).toNat l).mergeSort leI).length:Int)∧((List.take ((↑l.length:Int).tdiv (2:Int)).toNat l).mergeSort leI)[i1.toNat]!≤((List.drop ((↑l.length:Int).tdiv (2:Int)).toNat l).mergeSort leI)[j2.toNat]!) (fun h17=>?_) fun h17=>?_
 refine sq<|rG cx [3,4,5,6,7] [28] (fA (0≤i1) (fG c3 ((List.take ((↑l.length:Int).tdiv (2:Int)).toNat l).mergeSort leI) i1.toNat (fR 1 (fR 3 (fR 1 (fR 1 (fX c3 [((List.take ((↑l.length:Int).tdiv (2:Int)).toNat l).mergeSort leI)[i1.toNat]!] 1 (fP ((List.map c3 s3).length+(List.map c3 [((List.take ((↑l.length:Int).tdiv (2:Int)).toNat l).mergeSort leI)[i1.toNat]!]).length≤maxLen) (by simp only [List.length_map,List.length_cons,List.length_nil,Go.maxLen];omega) (fP (((List.map c3 s3).length+(List.map c3 [((List.take ((↑l.length:Int).tdiv (2:Int)).toNat l).mergeSort leI)[i1.toNat]!]).length)*(8:Nat)≤(140737488355328:Nat)) (by simp only [List.length_map,List.length_cons,List.length_nil];omega) (fM c3 s3 [((List.take ((↑l.length:Int).tdiv (2:Int)).toNat l).mergeSort leI)[i1.toNat]!] (oR 3 (c3 ((List.take ((↑l.length:Int).tdiv (2:Int)).toNat l).mergeSort leI)[i1.toNat]!) (oV 6 { rows:=some (List.map c3 (s3++[((List.take ((↑l.length:Int).tdiv (2:Int)).toNat l).mergeSort leI)[i1.toNat]!])) } z0)))))))))))) ?_
 refine sn<|rG cx [3,4,5,6,7] [28] (tT 1 (B7 (by omega) (by omega):AV.i .i64 (IntKind.i64.wrap (i1+1))=AV.i .i64 (i1+1)) z0) ?_
 refine bN<|sn<|nX ((i1+1,j2,s3++[((List.take ((↑l.length:Int).tdiv (2:Int)).toNat l).mergeSort leI)[i1.toNat]!])) (show((↑(hA l).length:Int)+(↑(hB l).length:Int)-(i1+1)-j2).toNat <((↑(hA l).length:Int)+(↑(hB l).length:Int)-i1-j2).toNat from(by have k6':i1 <(hA l).length∨j2 <(hB l).length:=h13;have k7':j2=(hB l).length∨i1 <(hA l).length∧(hA l)[i1.toNat]!≤(hB l)[j2.toNat]!:=h17;omega)) (show B8g (hA l) (hB l) (i1+1) j2 (s3++[((List.take ((↑l.length:Int).tdiv (2:Int)).toNat l).mergeSort leI)[i1.toNat]!])from ?g20);rotate_left
 refine sq<|rG cx [3,4,5,6,7] [28] (fA (0≤j2) (fP ((List.map c3 ((List.drop ((↑l.length:Int).tdiv (2:Int)).toNat l).mergeSort leI))[j2.toNat]?=some (c3 ((List.drop ((↑l.length:Int).tdiv (2:Int)).toNat l).mergeSort leI)[j2.toNat]!)) (by have k6':i1 <(hA l).length∨j2 <(hB l).length:=h13;have k7':¬(j2=(hB l).length∨i1 <(hA l).length∧(hA l)[i1.toNat]!≤(hB l)[j2.toNat]!):=h17;exact F7 (xs:=hB l) (by omega)) (fR 1 (fR 3 (fR 1 (fR 1 (fX c3 [((List.drop ((↑l.length:Int).tdiv (2:Int)).toNat l).mergeSort leI)[j2.toNat]!] 1 (fP ((List.map c3 s3).length+(List.map c3 [((List.drop ((↑l.length:Int).tdiv (2:Int)).toNat l).mergeSort leI)[j2.toNat]!]).length≤maxLen) (by simp only [List.length_map,List.length_cons,List.length_nil,Go.maxLen];omega) (fP (((List.map c3 s3).length+(List.map c3 [((List.drop ((↑l.length:Int).tdiv (2:Int)).toNat l).mergeSort leI)[j2.toNat]!]).length)*(8:Nat)≤(140737488355328:Nat)) (by simp only [List.length_map,List.length_cons,List.length_nil];omega) (fM c3 s3 [((List.drop ((↑l.length:Int).tdiv (2:Int)).toNat l).mergeSort leI)[j2.toNat]!] (oR 3 (c3 ((List.drop ((↑l.length:Int).tdiv (2:Int)).toNat l).mergeSort leI)[j2.toNat]!) (oV 6 { rows:=some (List.map c3 (s3++[((List.drop ((↑l.length:Int).tdiv (2:Int)).toNat l).mergeSort leI)[j2.toNat]!])) } z0)))))))))))) ?_
 refine sn<|rG cx [3,4,5,6,7] [28] (tT 1 (B7 (by omega) (by omega):AV.i .i64 (IntKind.i64.wrap (j2+1))=AV.i .i64 (j2+1)) z0) ?_
 refine bN<|sn<|nX ((i1,j2+1,s3++[((List.drop ((↑l.length:Int).tdiv (2:Int)).toNat l).mergeSort leI)[j2.toNat]!])) (show((↑(hA l).length:Int)+(↑(hB l).length:Int)-i1-(j2+1)).toNat <((↑(hA l).length:Int)+(↑(hB l).length:Int)-i1-j2).toNat from(by have k6':i1 <(hA l).length∨j2 <(hB l).length:=h13;have k7':¬(j2=(hB l).length∨i1 <(hA l).length∧(hA l)[i1.toNat]!≤(hB l)[j2.toNat]!):=h17;omega)) (show B8g (hA l) (hB l) i1 (j2+1) (s3++[((List.drop ((↑l.length:Int).tdiv (2:Int)).toNat l).mergeSort leI)[j2.toNat]!])from ?g26);rotate_left
 refine eX 0<|nE<|nE<|bH<|sn<|sq<|rG cx [2] [28] z0<|sn<|rT<|qR (.sl (List.map c3 s3)) (.eq ?g27);rotate_left
 case g20 =>
  have k6':i1 <(hA l).length∨j2 <(hB l).length:=h13
  have k7':j2=(hB l).length∨i1 <(hA l).length∧(hA l)[i1.toNat]!≤(hB l)[j2.toNat]!:=h17
  have hi:i1 <(hA l).length:=by omega
  refine⟨by omega,by omega,by omega,by omega,by rw[List.length_append];simp only [List.length_cons,List.length_nil];omega,mrgL h5 hi h7 ?_ h10⟩
  by_cases e:j2=(hB l).length
  ·exact .inl e
  ·exact .inr ⟨by omega,(k7'.resolve_left e).2⟩
 case g26 =>
  have k6':i1 <(hA l).length∨j2 <(hB l).length:=h13
  have k7':¬(j2=(hB l).length∨i1 <(hA l).length∧(hA l)[i1.toNat]!≤(hB l)[j2.toNat]!):=h17
  have hj:j2 <(hB l).length:=by omega
  refine⟨by omega,by omega,by omega,by omega,by rw[List.length_append];simp only [List.length_cons,List.length_nil];omega,mrgR h5 h7 hj ?_ h10⟩
  by_cases e:i1 <(hA l).length
  ·exact .inr ⟨e,fun k=>k7' (.inr ⟨e,k⟩)⟩
  ·exact .inl e
 case g27 =>
  have k6':¬(i1 <(hA l).length∨j2 <(hB l).length):=h13
  rw[mrgE (fun k=>k6' (.inl k)) (fun k=>k6' (.inr k)) h10]
theorem B4b:∀(n:Nat) (l:List Int),l.length≤n→l.length*8≤140737488351232→Con Tryz.prog 216 [.sl (l.map c3)] (.sl ((l.mergeSort leI).map c3))
 | 0,l,h,hb=>Aw4 l 0 h (fun m hm=>by omega) hb
 | n+1,l,h,hb=>Aw4 l (n+1) h (fun m hm hb'=>B4b n m (by omega) hb') hb
theorem Bd7(l:List Int)(hb:l.length*8≤140737488351232):Con Tryz.prog 216 [.sl (l.map c3)] (.sl ((l.mergeSort leI).map c3)):=B4b l.length l (Nat.le_refl _) hb
end Go.Proofs.YtokhjapfekbobaaGreat
namespace Go.Proofs.YtokhjapfekbobaaGreat
open Go.E
set_option maxRecDepth 100000
set_option maxHeartbeats 4000000
def cntI(l:List Int)(n:Int):Nat:=l.countP (fun x=>decide (x≤n))
def D3(l:List Run):List Int:=l.flatMap fun r=>[r.lo,r.hi+1]
def sw:List Int→List Int→Nat→List Int
 | [],[],_=>[]
 | [],b :: B,d=>(if d=1 then[b]else[])++sw [] B (d-1)
 | a :: A,[],d=>(if d=0 then[a]else[])++sw A [] (d+1)
 | a :: A,b :: B,d=>if a≤b then(if d=0 then[a]else[])++sw A (b :: B) (d+1)else(if d=1 then[b]else[])++sw (a :: A) B (d-1)
termination_by A B _=>A.length+B.length
theorem Ap5(n:Int):cntI [] n=0:=rfl
theorem J6(a:Int)(l:List Int)(n:Int):cntI (a :: l) n=cntI l n+if a≤n then 1 else 0:=by
 unfold cntI
 rw[List.countP_cons]
 by_cases h:a≤n <;> simp [h]
theorem cnt_zero{l:List Int}{n:Int}(h:∀ x∈l,n < x):cntI l n=0:=by
 unfold cntI
 rw[List.countP_eq_zero]
 intro x hx
 have:=h x hx
 simp
 omega
theorem Bm0(l:List Int)(n:Int):cntI l n≤l.length:=List.countP_le_length
structure VW (A B:List Int) (d:Nat):Prop where
 sA:A.Pairwise (fun x y=>x≤y)
 sB:B.Pairwise (fun x y=>x≤y)
 len:d+A.length=B.length
 cov:∀ n:Int,cntI B (n+1)≤d+cntI A n
theorem VW.in_{a b:Int}{A B:List Int}{d:Nat}(h:VW (a :: A) (b :: B) d)(hab:a≤b):VW A (b :: B) (d+1):=by
 refine⟨(List.pairwise_cons.1 h.sA).2,h.sB,by have:=h.len;simp only [List.length_cons]at *;omega,fun n=>?_⟩
 have:=h.cov n
 rw[J6 a A]at this
 split at this <;> omega
theorem VW.pos{a b:Int}{A B:List Int}{d:Nat}(h:VW (a :: A) (b :: B) d)(hab:b < a):1≤d:=by
 have h1:=h.cov (b-1)
 have h2:=(List.pairwise_cons.1 h.sA).1
 rw[show b-1+1=b by omega,J6 b B,if_pos (Int.le_refl b)]at h1
 rw[cnt_zero (l:=a :: A) fun x hx=>by
  rcases List.mem_cons.1 hx with rfl | hx
  ·omega
  ·have:=h2 x hx;omega]at h1
 omega
theorem VW.out{a b:Int}{A B:List Int}{d:Nat}(h:VW (a :: A) (b :: B) d)(hab:b < a):VW (a :: A) B (d-1):=by
 have hp:=h.pos hab
 have hB:=List.pairwise_cons.1 h.sB
 refine⟨h.sA,hB.2,by have:=h.len;simp only [List.length_cons]at *;omega,fun n=>?_⟩
 have:=h.cov n
 rw[J6 b B]at this
 by_cases e:b≤n+1
 ·rw[if_pos e]at this;omega
 ·rw[cnt_zero (l:=B) fun x hx=>by have:=hB.1 x hx;omega]
  omega
theorem VW.end_{b:Int}{B:List Int}{d:Nat}(h:VW [] (b :: B) d):1≤d∧VW [] B (d-1):=by
 have hl:=h.len
 simp only [List.length_cons,List.length_nil]at hl
 have hB:=List.pairwise_cons.1 h.sB
 exact⟨by omega,h.sA,hB.2,by simp only [List.length_nil];omega,fun n=>by have:=Bm0 B (n+1);omega⟩
theorem VW.strict{a b:Int}{A B:List Int}(h:VW (a :: A) (b :: B) 0):a < b:=by
 have h1:=h.cov (a-1)
 have h2:=(List.pairwise_cons.1 h.sA).1
 rw[show a-1+1=a by omega,cnt_zero (l:=a :: A) fun x hx=>by
  rcases List.mem_cons.1 hx with rfl | hx
  ·omega
  ·have:=h2 x hx;omega,J6 b B]at h1
 by_cases e:b≤a
 ·rw[if_pos e]at h1;omega
 ·omega
def SwZ(A B:List Int):Prop:=∃ R:List Run,sw A B 0=D3 R∧R.Pairwise (fun x y=>x.hi+1 < y.lo)∧(∀ r∈R,r.lo≤r.hi∧r.lo∈A∧r.hi+1∈B)∧∀ n,inR R n↔cntI B n < cntI A n
def SwP(A B:List Int)(d:Nat):Prop:=∃(x:Int) (R:List Run),sw A B d=x :: D3 R∧x∈B∧R.Pairwise (fun x y=>x.hi+1 < y.lo)∧(∀ r∈R,x < r.lo∧r.lo≤r.hi∧r.lo∈A∧r.hi+1∈B)∧∀ n,(n < x∨inR R n)↔cntI B n < d+cntI A n
theorem A9t:∀(k:Nat) (A B:List Int) (d:Nat),A.length+B.length=k→VW A B d→(d=0→SwZ A B)∧(0 < d→SwP A B d)
 | k,[],[],d,_,h=>by
  have hd:=h.len
  simp only [List.length_nil]at hd
  refine⟨fun _=>⟨[],?_,List.Pairwise.nil,fun r hr=>(by cases hr),fun n=>?_⟩,fun h0=>by omega⟩
  ·rw[sw];try rfl
  ·rw[Ap5];simp [inR]
 | k,a :: A,[],d,_,h=>by have:=h.len;simp only [List.length_cons,List.length_nil]at this;omega
 | 0,[],b :: B,d,hk,h=>by simp only [List.length_cons]at hk;omega
 | 0,a :: A,b :: B,d,hk,h=>by simp only [List.length_cons]at hk;omega
 | k+1,[],b :: B,d,hk,h=>by
  obtain⟨hd,h'⟩:=h.end_
  have ih:=A9t k [] B (d-1) (by simp only [List.length_cons,List.length_nil]at *;omega) h'
  have hB:=List.pairwise_cons.1 h.sB
  have low:∀ n:Int,n < b→cntI (b :: B) n=0∧cntI B n=0:=fun n hn=>by
   have:cntI B n=0:=cnt_zero fun x hx=>by have:=hB.1 x hx;omega
   rw[J6,if_neg (by omega)];omega
  refine⟨fun h0=>by omega,fun _=>?_⟩
  by_cases e:d=1
  ·obtain⟨R,r1,r2,r3,r4⟩:=ih.1 (by omega)
   refine⟨b,R,?_,by simp,r2,fun r hr=>absurd (r3 r hr).2.1 (by simp),fun n=>?_⟩
   ·rw[sw,if_pos e,show d-1=0 by omega,r1];rfl
   ·rw[r4 n,J6,Ap5]
    by_cases hn:b≤n
    ·rw[if_pos hn];omega
    ·have:=low n (by omega);rw[if_neg hn];omega
  ·obtain⟨x,R,r1,r2,r3,r4,r5⟩:=ih.2 (by omega)
   refine⟨x,R,?_,by simp [r2],r3,fun r hr=>absurd (r4 r hr).2.2.1 (by simp),fun n=>?_⟩
   ·rw[sw,if_neg e,r1];rfl
   ·rw[r5 n,J6,Ap5]
    by_cases hn:b≤n
    ·rw[if_pos hn];omega
    ·have:=low n (by omega);rw[if_neg hn];omega
 | k+1,a :: A,b :: B,d,hk,h=>by
  have hA:=List.pairwise_cons.1 h.sA
  have hB:=List.pairwise_cons.1 h.sB
  have lowA:∀ n:Int,n < a→cntI (a :: A) n=0∧cntI A n=0:=fun n hn=>by
   have:cntI A n=0:=cnt_zero fun x hx=>by have:=hA.1 x hx;omega
   rw[J6,if_neg (by omega)];omega
  have lowB:∀ n:Int,n < b→cntI (b :: B) n=0∧cntI B n=0:=fun n hn=>by
   have:cntI B n=0:=cnt_zero fun x hx=>by have:=hB.1 x hx;omega
   rw[J6,if_neg (by omega)];omega
  by_cases hab:a≤b
  ·obtain⟨x,R,r1,r2,r3,r4,r5⟩:=(A9t k A (b :: B) (d+1) (by simp only [List.length_cons]at *;omega) (h.in_ hab)).2 (by omega)
   have hx:b≤x:=by
    rcases List.mem_cons.1 r2 with rfl | r2
    ·omega
    ·exact hB.1 x r2
   constructor
   ·rintro rfl
    have hs:=h.strict
    refine⟨⟨a,x-1⟩ :: R,?_,List.pairwise_cons.2 ⟨fun r hr=>?_,r3⟩,fun r hr=>?_,fun n=>?_⟩
    ·rw[sw,if_pos hab,if_pos rfl,r1];simp [D3]
    ·have:=(r4 r hr).1;simp only;omega
    ·rcases List.mem_cons.1 hr with rfl | hr
     ·simp only;exact⟨by omega,by simp,by rw[show x-1+1=x by omega];exact r2⟩
     ·have:=r4 r hr;exact⟨this.2.1,by simp [this.2.2.1],this.2.2.2⟩
    ·have h5:=r5 n
     rw[P6,J6 a A]
     simp only
     by_cases hn:a≤n
     ·rw[if_pos hn]
      constructor
      ·rintro(g | g)
       ·have:=h5.1 (.inl (by omega));omega
       ·have:=h5.1 (.inr g);omega
      ·intro g
       rcases h5.2 (by omega)with g | g
       ·exact .inl ⟨hn,by omega⟩
       ·exact .inr g
     ·rw[if_neg hn]
      have l1:=lowA n (by omega)
      constructor
      ·rintro(g | ⟨r,hr,g1,g2⟩)
       ·omega
       ·have:=hA.1 _ (r4 r hr).2.2.1;omega
      ·intro g;omega
   ·intro h0
    refine⟨x,R,?_,r2,r3,fun r hr=>?_,fun n=>?_⟩
    ·rw[sw,if_pos hab,if_neg (by omega),r1];rfl
    ·have:=r4 r hr;exact⟨this.1,this.2.1,by simp [this.2.2.1],this.2.2.2⟩
    ·rw[r5 n,J6 a A]
     by_cases hn:a≤n
     ·rw[if_pos hn];omega
     ·have l1:=lowA n (by omega)
      have l2:=lowB n (by omega)
      rw[if_neg hn];omega
  ·have hd:=h.pos (by omega)
   have ih:=A9t k (a :: A) B (d-1) (by simp only [List.length_cons]at *;omega) (h.out (by omega))
   refine⟨fun h0=>by omega,fun _=>?_⟩
   by_cases e:d=1
   ·obtain⟨R,r1,r2,r3,r4⟩:=ih.1 (by omega)
    refine⟨b,R,?_,by simp,r2,fun r hr=>?_,fun n=>?_⟩
    ·rw[sw,if_neg hab,if_pos e,show d-1=0 by omega,r1];rfl
    ·have:=r3 r hr
     refine⟨?_,this.1,this.2.1,by simp [this.2.2]⟩
     rcases List.mem_cons.1 this.2.1 with g | g
     ·omega
     ·have:=hA.1 _ g;omega
    ·rw[r4 n,J6 b B]
     by_cases hn:b≤n
     ·rw[if_pos hn];omega
     ·have:=lowB n (by omega);rw[if_neg hn];omega
   ·obtain⟨x,R,r1,r2,r3,r4,r5⟩:=ih.2 (by omega)
    refine⟨x,R,?_,by simp [r2],r3,fun r hr=>?_,fun n=>?_⟩
    ·rw[sw,if_neg hab,if_neg e,r1];rfl
    ·have:=r4 r hr;exact⟨this.1,this.2.1,this.2.2.1,by simp [this.2.2.2]⟩
    ·rw[r5 n,J6 b B]
     by_cases hn:b≤n
     ·rw[if_pos hn];omega
     ·have:=lowB n (by omega);have:=lowA n (by omega);rw[if_neg hn];omega
def Bd8(l:List Run):List Int:=(L5 l).map fun r=>r.lo
def Ai0(l:List Run):List Int:=(L5 l).map fun r=>r.hi+1
def Bm1(l:List Run):List Int:=(Bd8 l).mergeSort leI
def Ap6(l:List Run):List Int:=(Ai0 l).mergeSort leI
theorem A85(l:List Int):(l.mergeSort leI).Pairwise (fun x y=>x≤y):=by
 have:=List.pairwise_mergeSort Ah8 Ah9 l
 exact this.imp fun h=>by simpa [leI]using h
theorem Aw5(l:List Int)(n:Int):cntI (l.mergeSort leI) n=cntI l n:=(List.mergeSort_perm l leI).countP_eq _
theorem Ai1{α:Type}{p q:α→Bool}:∀ {l:List α},(∀ x∈l,p x=true→q x=true)→(l.countP p < l.countP q↔∃ x∈l,q x=true∧¬ p x=true)
 | [],_=>by simp
 | x :: l,h=>by
  have ih:=Ai1 (p:=p) (q:=q) (l:=l) fun y hy=>h y (by simp [hy])
  have hle:=List.countP_mono_left (l:=l) (p:=p) (q:=q) fun y hy=>h y (by simp [hy])
  have hx:=h x (by simp)
  rw[List.countP_cons,List.countP_cons]
  have ex:(∃ y∈x :: l,q y=true∧¬ p y=true)↔(q x=true∧¬ p x=true)∨∃ y∈l,q y=true∧¬ p y=true:=by simp
  rw[ex,← ih]
  by_cases h1:p x=true
  ·have h2:=hx h1
   rw[if_pos h1,if_pos h2]
   constructor
   ·intro g;exact .inr (by omega)
   ·rintro(g | g)
    ·exact absurd h1 g.2
    ·omega
  ·by_cases h2:q x=true
   ·rw[if_neg h1,if_pos h2]
    constructor
    ·intro _;exact .inl ⟨h2,h1⟩
    ·intro _;omega
   ·rw[if_neg h1,if_neg h2]
    constructor
    ·intro g;exact .inr (by omega)
    ·rintro(g | g)
     ·exact absurd g.1 h2
     ·omega
theorem Bm2(l:List Run)(n:Int):inR (L5 l) n↔1≤n∧n≤1000000000∧inR l n:=by
 constructor
 ·rintro⟨r,hr,h1,h2⟩
  unfold L5 at hr
  obtain⟨hr,_⟩:=List.mem_filter.1 hr
  obtain⟨x,hx,rfl⟩:=List.mem_map.1 hr
  simp only [F3]at h1 h2
  exact⟨by omega,by omega,x,hx,by omega,by omega⟩
 ·rintro⟨h1,h2,x,hx,h3,h4⟩
  refine⟨F3 x,?_,?_,?_⟩
  ·unfold L5
   refine List.mem_filter.2 ⟨List.mem_map.2 ⟨x,hx,rfl⟩,?_⟩
   show decide ((F3 x).lo≤(F3 x).hi)=true
   rw[decide_eq_true_iff]
   show max x.lo 1≤min x.hi 1000000000
   omega
  ·simp only [F3];omega
  ·simp only [F3];omega
theorem B4c(l:List Run)(n:Int):cntI (Bm1 l) n=(L5 l).countP fun r=>decide (r.lo≤n):=by
 unfold Bm1 Bd8
 rw[Aw5,cntI,List.countP_map]
 rfl
theorem Aw6(l:List Run)(n:Int):cntI (Ap6 l) n=(L5 l).countP fun r=>decide (r.hi+1≤n):=by
 unfold Ap6 Ai0
 rw[Aw5,cntI,List.countP_map]
 rfl
theorem Aw7(l:List Run):VW (Bm1 l) (Ap6 l) 0:=by
 refine⟨A85 _,A85 _,?_,fun n=>?_⟩
 ·unfold Bm1 Ap6 Bd8 Ai0
  rw[List.length_mergeSort,List.length_mergeSort]
  simp
 ·rw[B4c,Aw6,Nat.zero_add]
  refine List.countP_mono_left fun r hr h=>?_
  have:=I8 r hr
  unfold A27 at this
  simp only [decide_eq_true_eq]at *
  omega
theorem B4d(l:List Run):sw (Bm1 l) (Ap6 l) 0=D3 (nrm l):=by
 obtain⟨R,r1,r2,r3,r4⟩:=(A9t _ _ _ _ rfl (Aw7 l)).1 rfl
 rw[r1]
 congr 1
 have bd:∀ r∈R,1≤r.lo∧r.hi≤1000000000:=fun r hr=>by
  obtain⟨_,h1,h2⟩:=r3 r hr
  have h1:=(List.mergeSort_perm _ _).subset h1
  have h2:=(List.mergeSort_perm _ _).subset h2
  obtain⟨x,hx,ex⟩:=List.mem_map.1 h1
  obtain⟨y,hy,ey⟩:=List.mem_map.1 h2
  have gx:=I8 x hx
  have gy:=I8 y hy
  unfold A27 okR at gx gy
  omega
 refine V7 ⟨r2,fun r hr=>?_⟩ (F1 l) fun n=>?_
 ·have:=bd r hr;have:=(r3 r hr).1;omega
 ·rw[r4 n,Z6,B4c,Aw6,← Bm2,Ai1 fun r hr h=>by
   have:=I8 r hr
   unfold A27 at this
   simp only [decide_eq_true_eq]at *
   omega]
  unfold inR
  constructor
  ·rintro⟨r,hr,h1,h2⟩
   simp only [decide_eq_true_eq]at h1 h2
   exact⟨r,hr,h1,by omega⟩
  ·rintro⟨r,hr,h1,h2⟩
   exact⟨r,hr,by simp only [decide_eq_true_eq];exact h1,by simp only [decide_eq_true_eq];omega⟩
end Go.Proofs.YtokhjapfekbobaaGreat
namespace Go.Proofs.YtokhjapfekbobaaGreat
open Go.E
set_option maxRecDepth 100000
set_option maxHeartbeats 4000000
theorem A86(l:List Run):(D3 l).length=2*l.length:=by
 unfold D3
 induction l with
 | nil=>rfl
 | cons r l ih=>simp only [List.flatMap_cons,List.length_append,List.length_cons,List.length_nil,ih];omega
end Go.Proofs.YtokhjapfekbobaaGreat
namespace Go.Proofs.YtokhjapfekbobaaGreat
open Go.E
set_option maxRecDepth 100000
set_option maxHeartbeats 4000000
def I5(f:Bool→Bool→Bool):List Int→List Int→Bool→Bool→Bool→List Int
 | p :: a,q :: b,x,y,w =>
  if p < q then(if f (!x) y=w then[]else[p])++I5 f a (q :: b) (!x) y (f (!x) y)
  else if p=q then(if f (!x) (!y)=w then[]else[p])++I5 f a b (!x) (!y) (f (!x) (!y))
  else(if f x (!y)=w then[]else[q])++I5 f (p :: a) b x (!y) (f x (!y))
 | p :: a,[],x,y,w=>(if f (!x) y=w then[]else[p])++I5 f a [] (!x) y (f (!x) y)
 | [],q :: b,x,y,w=>(if f x (!y)=w then[]else[q])++I5 f [] b x (!y) (f x (!y))
 | [],[],_,_,_=>[]
termination_by a b=>a.length+b.length
theorem W2(f:Bool→Bool→Bool)(x y w:Bool):I5 f [] [] x y w=[]:=by rw[I5]
theorem A9u(f:Bool→Bool→Bool)(p:Int)(a:List Int)(x y w:Bool):I5 f (p :: a) [] x y w=(if f (!x) y=w then[]else[p])++I5 f a [] (!x) y (f (!x) y):=by rw[I5]
theorem A9v(f:Bool→Bool→Bool)(q:Int)(b:List Int)(x y w:Bool):I5 f [] (q :: b) x y w=(if f x (!y)=w then[]else[q])++I5 f [] b x (!y) (f x (!y)):=by rw[I5]
theorem A4j(f:Bool→Bool→Bool)(p q:Int)(a b:List Int)(x y w:Bool):I5 f (p :: a) (q :: b) x y w =
  if p < q then(if f (!x) y=w then[]else[p])++I5 f a (q :: b) (!x) y (f (!x) y)
  else if p=q then(if f (!x) (!y)=w then[]else[p])++I5 f a b (!x) (!y) (f (!x) (!y))
  else(if f x (!y)=w then[]else[q])++I5 f (p :: a) b x (!y) (f x (!y)):=by rw[I5]
def A79:List Int→Int→Bool
 | [],_=>false
 | p :: a,n=>decide (p≤n) ^^ A79 a n
def A9w(a:List Int):Prop:=a.Pairwise fun x y=>x < y
theorem Aw8{n:Int}:∀ {a:List Int},(∀ p∈a,n < p)→A79 a n=false
 | [],_=>rfl
 | p :: a,h=>by
  have h1:=h p (by simp)
  rw[A79,Aw8 (a:=a) fun q hq=>h q (by simp [hq])]
  simp
  omega
theorem A9x{n:Int}:∀ {a:List Int},(∀ p∈a,p≤n)→A79 a n=decide (a.length % 2=1)
 | [],_=>rfl
 | p :: a,h=>by
  have h1:=h p (by simp)
  rw[A79,A9x (a:=a) fun q hq=>h q (by simp [hq]),decide_eq_true h1,List.length_cons]
  by_cases k:a.length % 2=1
  ·have k2:¬(a.length+1) % 2=1:=by omega
   rw[decide_eq_true k,decide_eq_false k2];rfl
  ·have k2:(a.length+1) % 2=1:=by omega
   rw[decide_eq_false k,decide_eq_true k2];rfl
theorem A5s(c w w':Bool)(p n:Int)(r:List Int)(hp:p≤n)(hc:(w' ^^ A79 r n)=c):(w ^^ A79 ((if w'=w then[]else[p])++r) n)=c:=by
 rw[← hc]
 split
 ·rename_i e;rw[e];rfl
 ·rename_i e
  show(w ^^ (decide (p≤n) ^^ A79 r n))=_
  rw[decide_eq_true hp]
  cases w <;> cases w' <;> simp_all
theorem Y7(f:Bool→Bool→Bool):∀(k:Nat) (a b:List Int),a.length+b.length≤k→∀(x y w:Bool),∀ e∈I5 f a b x y w,e∈a∨e∈b:=by
 intro k
 induction k with
 | zero =>
  intro a b hk x y w e he
  have h1:a=[]:=List.eq_nil_of_length_eq_zero (by omega)
  have h2:b=[]:=List.eq_nil_of_length_eq_zero (by omega)
  subst h1 h2
  rw[W2]at he
  cases he
 | succ k ih =>
  have hd:∀(c:Prop) [Decidable c] (p e:Int) (m:List Int),e∈(if c then[]else[p])++m→e=p∨e∈m:=by
   intro c _ p e m h
   rcases List.mem_append.1 h with h | h
   ·split at h
    ·cases h
    ·exact .inl (by simpa using h)
   ·exact .inr h
  intro a b hk x y w e he
  cases a with
  | nil =>
   cases b with
   | nil=>rw[W2]at he;cases he
   | cons q b =>
    rw[A9v]at he
    rcases hd _ _ _ _ he with rfl | he
    ·exact .inr (by simp)
    ·rcases ih _ _ (by simp only [List.length_cons,List.length_nil]at hk ⊢;omega) _ _ _ e he with h | h
     ·exact .inl h
     ·exact .inr (by simp [h])
  | cons p a =>
   cases b with
   | nil =>
    rw[A9u]at he
    rcases hd _ _ _ _ he with rfl | he
    ·exact .inl (by simp)
    ·rcases ih _ _ (by simp only [List.length_cons,List.length_nil]at hk ⊢;omega) _ _ _ e he with h | h
     ·exact .inl (by simp [h])
     ·exact .inr h
   | cons q b =>
    simp only [List.length_cons]at hk
    rw[A4j]at he
    split at he
    ·rcases hd _ _ _ _ he with rfl | he
     ·exact .inl (by simp)
     ·rcases ih _ _ (by simp only [List.length_cons];omega) _ _ _ e he with h | h
      ·exact .inl (by simp [h])
      ·exact .inr h
    ·split at he
     ·rcases hd _ _ _ _ he with rfl | he
      ·exact .inl (by simp)
      ·rcases ih _ _ (by omega) _ _ _ e he with h | h
       ·exact .inl (by simp [h])
       ·exact .inr (by simp [h])
     ·rcases hd _ _ _ _ he with rfl | he
      ·exact .inr (by simp)
      ·rcases ih _ _ (by simp only [List.length_cons];omega) _ _ _ e he with h | h
       ·exact .inl h
       ·exact .inr (by simp [h])
theorem B4e(f:Bool→Bool→Bool):∀(k:Nat) (a b:List Int),a.length+b.length≤k→A9w a→A9w b→∀(x y w:Bool),A9w (I5 f a b x y w):=by
 intro k
 induction k with
 | zero =>
  intro a b hk _ _ x y w
  have h1:a=[]:=List.eq_nil_of_length_eq_zero (by omega)
  have h2:b=[]:=List.eq_nil_of_length_eq_zero (by omega)
  subst h1 h2
  rw[W2]
  exact List.Pairwise.nil
 | succ k ih =>
  have hd:∀(c:Prop) [Decidable c] (p:Int) (m:List Int),A9w m→(∀ e∈m,p < e)→A9w ((if c then[]else[p])++m):=by
   intro c _ p m hm hp
   split
   ·exact hm
   ·exact List.pairwise_cons.2 ⟨hp,hm⟩
  intro a b hk ha hb x y w
  cases a with
  | nil =>
   cases b with
   | nil=>rw[W2];exact List.Pairwise.nil
   | cons q b =>
    have pb:=List.pairwise_cons.1 hb
    rw[A9v]
    refine hd _ _ _ (ih _ _ (by simp only [List.length_cons,List.length_nil]at hk ⊢;omega) ha pb.2 _ _ _) fun e he=>?_
    rcases Y7 f _ _ _ (Nat.le_refl _) _ _ _ e he with h | h
    ·cases h
    ·exact pb.1 e h
  | cons p a =>
   have pa:=List.pairwise_cons.1 ha
   cases b with
   | nil =>
    rw[A9u]
    refine hd _ _ _ (ih _ _ (by simp only [List.length_cons,List.length_nil]at hk ⊢;omega) pa.2 hb _ _ _) fun e he=>?_
    rcases Y7 f _ _ _ (Nat.le_refl _) _ _ _ e he with h | h
    ·exact pa.1 e h
    ·cases h
   | cons q b =>
    have pb:=List.pairwise_cons.1 hb
    simp only [List.length_cons]at hk
    rw[A4j]
    split
    ·refine hd _ _ _ (ih _ _ (by simp only [List.length_cons];omega) pa.2 hb _ _ _) fun e he=>?_
     rcases Y7 f _ _ _ (Nat.le_refl _) _ _ _ e he with h | h
     ·exact pa.1 e h
     ·rcases List.mem_cons.1 h with rfl | h
      ·assumption
      ·have:=pb.1 e h;omega
    ·split
     ·rename_i e0
      refine hd _ _ _ (ih _ _ (by omega) pa.2 pb.2 _ _ _) fun e he=>?_
      rcases Y7 f _ _ _ (Nat.le_refl _) _ _ _ e he with h | h
      ·exact pa.1 e h
      ·have:=pb.1 e h;omega
     ·refine hd _ _ _ (ih _ _ (by simp only [List.length_cons];omega) ha pb.2 _ _ _) fun e he=>?_
      rcases Y7 f _ _ _ (Nat.le_refl _) _ _ _ e he with h | h
      ·rcases List.mem_cons.1 h with rfl | h
       ·omega
       ·have:=pa.1 e h;omega
      ·exact pb.1 e h
theorem B8i(f:Bool→Bool→Bool):∀(k:Nat) (a b:List Int),a.length+b.length≤k→A9w a→A9w b→∀(x y:Bool) (n:Int),(f x y ^^ A79 (I5 f a b x y (f x y)) n)=f (x ^^ A79 a n) (y ^^ A79 b n):=by
 intro k
 induction k with
 | zero =>
  intro a b hk _ _ x y n
  have h1:a=[]:=List.eq_nil_of_length_eq_zero (by omega)
  have h2:b=[]:=List.eq_nil_of_length_eq_zero (by omega)
  subst h1 h2
  rw[W2]
  simp [A79]
 | succ k ih =>
  intro a b hk ha hb x y n
  -- below everything nothing turns
  by_cases hlow:(∀ e∈a,n < e)∧∀ e∈b,n < e
  ·rw[Aw8 hlow.1,Aw8 hlow.2,Aw8 fun e he=>by
    rcases Y7 f _ _ _ (Nat.le_refl _) _ _ _ e he with h | h
    ·exact hlow.1 e h
    ·exact hlow.2 e h]
   simp
  ·have flip:∀(p:Int) (m:List Int) (z:Bool),p≤n→(z ^^ A79 (p :: m) n)=((!z) ^^ A79 m n):=by
    intro p m z hp
    rw[A79,decide_eq_true hp]
    cases z <;> simp
   cases a with
   | nil =>
    cases b with
    | nil=>exact absurd ⟨fun e he=>(by cases he),fun e he=>(by cases he)⟩ hlow
    | cons q b =>
     have pb:=List.pairwise_cons.1 hb
     have hq:q≤n:=Int.not_lt.1 fun h=>hlow ⟨fun e he=>(by cases he),fun e he=>by
      rcases List.mem_cons.1 he with rfl | he
      ·exact h
      ·have:=pb.1 e he;omega⟩
     rw[A9v,flip q b y hq]
     exact A5s _ _ _ _ _ _ hq (ih _ _ (by simp only [List.length_cons,List.length_nil]at hk ⊢;omega) ha pb.2 _ _ n)
   | cons p a =>
    have pa:=List.pairwise_cons.1 ha
    cases b with
    | nil =>
     have hp:p≤n:=Int.not_lt.1 fun h=>hlow ⟨fun e he=>by
      rcases List.mem_cons.1 he with rfl | he
      ·exact h
      ·have:=pa.1 e he;omega,fun e he=>(by cases he)⟩
     rw[A9u,flip p a x hp]
     exact A5s _ _ _ _ _ _ hp (ih _ _ (by simp only [List.length_cons,List.length_nil]at hk ⊢;omega) pa.2 hb _ _ n)
    | cons q b =>
     have pb:=List.pairwise_cons.1 hb
     simp only [List.length_cons]at hk
     have hm:p≤n∨q≤n:=by
      apply Classical.byContradiction
      intro h
      refine hlow ⟨fun e he=>?_,fun e he=>?_⟩
      ·rcases List.mem_cons.1 he with rfl | he
       ·omega
       ·have:=pa.1 e he;omega
      ·rcases List.mem_cons.1 he with rfl | he
       ·omega
       ·have:=pb.1 e he;omega
     rw[A4j]
     split
     ·have hp:p≤n:=by omega
      rw[flip p a x hp]
      exact A5s _ _ _ _ _ _ hp (ih _ _ (by simp only [List.length_cons];omega) pa.2 hb _ _ n)
     ·split
      ·rename_i e0
       have hp:p≤n:=by omega
       rw[flip p a x hp,flip q b y (by omega)]
       exact A5s _ _ _ _ _ _ hp (ih _ _ (by omega) pa.2 pb.2 _ _ n)
      ·have hq:q≤n:=by omega
       rw[flip q b y hq]
       exact A5s _ _ _ _ _ _ hq (ih _ _ (by simp only [List.length_cons];omega) ha pb.2 _ _ n)
def A5t:List Int→List Run
 | p :: q :: t=>⟨p,q-1⟩ :: A5t t
 | _=>[]
theorem A0q(r:Run)(l:List Run):D3 (r :: l)=r.lo ::(r.hi+1) :: D3 l:=rfl
theorem A1n:∀ t:List Int,t.length % 2=0→D3 (A5t t)=t
 | [],_=>rfl
 | [p],h=>by simp at h
 | p :: q :: t,h=>by
  rw[A5t,A0q,A1n t (by simp only [List.length_cons]at h;omega)]
  simp only
  rw[show q-1+1=q by omega]
theorem Ai2:∀ t:List Int,∀ r∈A5t t,r.lo∈t∧r.hi+1∈t
 | [],r,hr=>by cases hr
 | [p],r,hr=>by cases hr
 | p :: q :: t,r,hr=>by
  rw[A5t]at hr
  rcases List.mem_cons.1 hr with rfl | hr
  ·simp
  ·have:=Ai2 t r hr
   exact⟨by simp [this.1],by simp [this.2]⟩
theorem Ai3:∀ t:List Int,A9w t→(∀ e∈t,1≤e∧e≤1000000001)→N7 (A5t t)
 | [],_,_=>S9
 | [p],_,_=>S9
 | p :: q :: t,h,hb=>by
  have h1:=List.pairwise_cons.1 h
  have h2:=List.pairwise_cons.1 h1.2
  have ih:=Ai3 t h2.2 fun e he=>hb e (by simp [he])
  have hp:=hb p (by simp)
  have hq:=hb q (by simp)
  have hpq:=h1.1 q (by simp)
  rw[A5t]
  refine⟨List.pairwise_cons.2 ⟨fun r hr=>?_,ih.1⟩,fun r hr=>?_⟩
  ·have:=h2.1 _ (Ai2 t r hr).1
   simp only
   omega
  ·rcases List.mem_cons.1 hr with rfl | hr
   ·simp only;omega
   ·exact ih.2 r hr
theorem A5u:∀ {l:List Run} {e:Int},e∈D3 l→∃ r∈l,e=r.lo∨e=r.hi+1
 | [],e,h=>by cases h
 | r :: l,e,h=>by
  rw[A0q]at h
  rcases List.mem_cons.1 h with rfl | h
  ·exact⟨r,by simp,.inl rfl⟩
  ·rcases List.mem_cons.1 h with rfl | h
   ·exact⟨r,by simp,.inr rfl⟩
   ·obtain⟨x,hx,k⟩:=A5u h
    exact⟨x,by simp [hx],k⟩
theorem W3:∀ {l:List Run},N7 l→A9w (D3 l)
 | [],_=>List.Pairwise.nil
 | r :: l,h=>by
  have hr:=h.2 r (by simp)
  have pa:=(List.pairwise_cons.1 h.1).1
  rw[A0q]
  have big:∀ e∈D3 l,r.hi+1 < e:=by
   intro e he
   obtain⟨x,hx,k⟩:=A5u he
   have h1:=pa x hx
   have h2:=h.2 x (by simp [hx])
   omega
  refine List.pairwise_cons.2 ⟨fun e he=>?_,List.pairwise_cons.2 ⟨big,W3 (H9 h)⟩⟩
  rcases List.mem_cons.1 he with rfl | he
  ·omega
  ·have:=big e he;omega
theorem A5v:∀ {l:List Run},N7 l→∀ n,A79 (D3 l) n=true↔inR l n
 | [],_,n=>by simp [D3,A79,inR]
 | r :: l,h,n=>by
  have hr:=h.2 r (by simp)
  have ih:=A5v (H9 h) n
  have lt:inR l n→r.hi+1 < n:=A9f h
  rw[A0q,P6,← ih]
  rw[← ih]at lt
  simp only [A79]
  by_cases h1:r.lo≤n
  ·by_cases h2:r.hi+1≤n
   ·rw[decide_eq_true h1,decide_eq_true h2]
    simp only [Bool.true_bne,Bool.not_not,Bool.true_xor]
    constructor
    ·exact fun k=>.inr k
    ·rintro(k | k)
     ·omega
     ·exact k
   ·rw[decide_eq_true h1,decide_eq_false h2]
    cases e:A79 (D3 l) n with
    | true=>have:=lt e;omega
    | false=>simp;omega
  ·have h2:¬ r.hi+1≤n:=by omega
   rw[decide_eq_false h1,decide_eq_false h2]
   cases e:A79 (D3 l) n with
   | true=>have:=lt e;omega
   | false=>simp;omega
theorem Y8{l:List Run}(h:N7 l):∀ e∈D3 l,1≤e∧e≤1000000001:=by
 intro e he
 obtain⟨r,hr,k⟩:=A5u he
 have:=h.2 r hr
 omega
def hasL(l:List Run)(n:Int):Bool:=l.any fun r=>decide (r.lo≤n∧n≤r.hi)
theorem A9y{l:List Run}{n:Int}:hasL l n=true↔inR l n:=by
 unfold hasL inR
 rw[List.any_eq_true]
 simp only [decide_eq_true_eq]
theorem B0x(f:Bool→Bool→Bool)(hf:f false false=false){A B C:List Run}(hA:N7 A)(hB:N7 B)(hC:N7 C)(h:∀ n,inR C n↔f (hasL A n) (hasL B n)=true) :
  I5 f (D3 A) (D3 B) false false false=D3 C:=by
 have hp:=fun n=>B8i f _ (D3 A) (D3 B) (Nat.le_refl _) (W3 hA) (W3 hB) false false n
 rw[hf]at hp
 have hr:=B4e f _ (D3 A) (D3 B) (Nat.le_refl _) (W3 hA) (W3 hB) false false false
 have hm:=Y7 f _ (D3 A) (D3 B) (Nat.le_refl _) false false false
 generalize I5 f (D3 A) (D3 B) false false false=t at hp hr hm ⊢
 have hb:∀ e∈t,1≤e∧e≤1000000001:=fun e he=>by
  rcases hm e he with k | k
  ·exact Y8 hA e k
  ·exact Y8 hB e k
 simp only [Bool.false_xor,Bool.false_bne]at hp
 have he:t.length % 2=0:=by
  have h1:=hp 1000000001
  rw[A9x fun e he=>(hb e he).2,A9x fun e he=>(Y8 hA e he).2,A9x fun e he=>(Y8 hB e he).2,A86,A86,decide_eq_false (by omega:¬ 2*A.length % 2=1),decide_eq_false (by omega:¬ 2*B.length % 2=1),hf,decide_eq_false_iff_not]at h1
  omega
 have hs:=Ai3 t hr hb
 rw[← A1n t he]
 congr 1
 refine V7 hs hC fun n=>?_
 rw[h,← A5v hs,A1n t he,hp]
 have d:∀ {l:List Run},N7 l→A79 (D3 l) n=hasL l n:=fun {l} hl=>by
  rw[Bool.eq_iff_iff,A9y];exact A5v hl n
 rw[d hA,d hB]
def O8(rule:Int)(x y:Bool):Bool:=decide (rule=1) && x && y || decide (rule=2) && x && !y
def B1s(i:Int):Bool:=decide (i % 2=1)
def A3x(f:Bool→Bool→Bool)(a b:List Int)(i j:Int)(w:Bool)(t:List Int):Prop:=t++I5 f (a.drop i.toNat) (b.drop j.toNat) (B1s i) (B1s j) w=I5 f a b false false false
theorem A0r{i:Int}(h:0≤i):B1s (i+1)=!B1s i:=by
 unfold B1s
 by_cases k:i % 2=1
 ·rw[decide_eq_true k,decide_eq_false (by omega)];rfl
 ·rw[decide_eq_false k,decide_eq_true (by omega)];rfl
theorem B0y{a:List Int}{i:Int}(h0:0≤i)(h:i < a.length):a.drop i.toNat=a[i.toNat]! :: a.drop (i+1).toNat:=by
 rw[show(i+1).toNat=i.toNat+1 by omega,getElem!_pos a i.toNat (by omega)]
 exact List.drop_eq_getElem_cons (by omega)
theorem A87{a:List Int}{i:Int}(h:¬ i < a.length):a.drop i.toNat=[]:=List.drop_of_length_le (by omega)
theorem B4f{f:Bool→Bool→Bool}{a b:List Int}{i j i' j' u:Int}{w w':Bool}{t t':List Int}(h0:0≤i)(j0:0≤j)(ho:i < a.length∨j < b.length)
  (hu:u=if ¬ j < b.length∨(i < a.length∧a[i.toNat]! < b[j.toNat]!)then a[i.toNat]! else b[j.toNat]!)
  (hi:i'=if i < a.length∧a[i.toNat]! = u then i+1 else i) (hj:j'=if j < b.length∧b[j.toNat]! = u then j+1 else j)
  (hw:w'=f (B1s i') (B1s j')) (ht:t'=if w'=w then t else t++[u]) (h:A3x f a b i j w t):A3x f a b i' j' w' t':=by
 have fin:∀ r:List Int,t'++r=t++((if w'=w then[]else[u])++r):=by
  intro r
  rw[ht]
  split <;> simp
 unfold A3x at *
 rw[fin,← h]
 congr 1
 by_cases hi1:i < a.length
 ·by_cases hj1:j < b.length
  ·rw[B0y h0 hi1,B0y j0 hj1,A4j]
   by_cases k:a[i.toNat]! < b[j.toNat]!
   ·rw[if_pos (.inr ⟨hi1,k⟩)]at hu
    rw[hu,if_pos ⟨hi1,rfl⟩]at hi
    rw[hu,if_neg (fun c=>by omega)]at hj
    rw[if_pos k,hi,hj,hw,hi,hj,A0r h0,hu,B0y j0 hj1]
   ·rw[if_neg (fun c=>by omega)]at hu
    rw[if_neg k]
    by_cases e:a[i.toNat]! = b[j.toNat]!
    ·rw[hu,if_pos ⟨hi1,e⟩]at hi
     rw[hu,if_pos ⟨hj1,rfl⟩]at hj
     rw[if_pos e,hi,hj,hw,hi,hj,A0r h0,A0r j0,hu,e]
    ·rw[hu,if_neg (fun c=>e c.2)]at hi
     rw[hu,if_pos ⟨hj1,rfl⟩]at hj
     rw[if_neg e,hi,hj,hw,hi,hj,A0r j0,hu,B0y h0 hi1]
  ·rw[B0y h0 hi1,A87 hj1,A9u]
   rw[if_pos (.inl hj1)]at hu
   rw[hu,if_pos ⟨hi1,rfl⟩]at hi
   rw[hu,if_neg (fun c=>hj1 c.1)]at hj
   rw[hi,hj,hw,hi,hj,A0r h0,hu,A87 hj1]
 ·have hj1:j < b.length:=by omega
  rw[A87 hi1,B0y j0 hj1,A9v]
  rw[if_neg (fun c=>by omega)]at hu
  rw[if_neg (fun c=>hi1 c.1)]at hi
  rw[hu,if_pos ⟨hj1,rfl⟩]at hj
  rw[hi,hj,hw,hi,hj,A0r j0,hu,A87 hi1]
theorem B8j{f:Bool→Bool→Bool}{a b:List Int}{i j:Int}{w:Bool}{t:List Int}(h1:¬ i < a.length)(h2:¬ j < b.length)(h:A3x f a b i j w t):t=I5 f a b false false false:=by
 unfold A3x at h
 rw[A87 h1,A87 h2,W2,List.append_nil]at h
 exact h
end Go.Proofs.YtokhjapfekbobaaGreat
namespace Go.Proofs.YtokhjapfekbobaaGreat
open Go.E
set_option maxRecDepth 100000
set_option maxHeartbeats 4000000
def A6v(lo hi:List Int):List Run:=List.zipWith (fun a b=>⟨a,b⟩) lo hi
def A5w(lo hi:List Int)(i:Int)(l:List Int):Prop:=l=Bd8 ((A6v lo hi).take i.toNat)
def A0c(lo hi:List Int)(i:Int)(l:List Int):Prop:=l=Ai0 ((A6v lo hi).take i.toNat)
def B8k(lo hi:List Int)(i:Int)(a b:List Int):Prop:=0≤i∧i≤lo.length∧(a.length:Int)≤i∧(b.length:Int)=a.length∧A5w lo hi i a∧A0c lo hi i b
def decTa(lo:List Int)(i:Int)(a b:List Int):Nat:=(lo.length-i).toNat
def B8l(A B:List Int)(i j:Int)(t:List Int):Prop:=VW (A.drop i.toNat) (B.drop j.toNat) (i-j).toNat∧j≤i∧t++sw (A.drop i.toNat) (B.drop j.toNat) (i-j).toNat=sw A B 0
def B0z(A B:List Int)(d j i:Int)(t:List Int):Prop:=0≤i∧i≤A.length∧0≤j∧j≤B.length∧d=i-j∧(t.length:Int)≤i+j∧B8l A B i j t
def decTb(A B:List Int)(d j i:Int)(t:List Int):Nat:=(A.length+B.length-i-j).toNat
theorem A9z{A B:List Int}{i j:Int}{t:List Int}(h0:0≤i)(hi:i≤A.length)(j0:0≤j)(jl:j≤B.length)(h:B8l A B i j t):A.length=B.length:=by
 have:=h.1.len
 have:=h.2.1
 simp only [List.length_drop]at *
 omega
theorem B4g{A B:List Int}{i j:Int}{t:List Int}(h0:0≤i)(hi:i < A.length)(j0:0≤j)(jl:j≤B.length)(hle:A[i.toNat]!≤B[j.toNat]!)(h:B8l A B i j t) :
  B8l A B (i+1) j (if i-j=0 then t++[A[i.toNat]!]else t):=by
 have hl:=A9z h0 (by omega) j0 jl h
 obtain⟨v,hji,e⟩:=h
 have hj:j < B.length:=by omega
 rw[O7 h0 hi,O7 j0 hj]at v e
 rw[sw,if_pos hle]at e
 refine⟨?_,by omega,?_⟩
 ·rw[O7 j0 hj,show(i+1-j).toNat=(i-j).toNat+1 by omega];exact v.in_ hle
 ·rw[← e,O7 j0 hj,show(i+1-j).toNat=(i-j).toNat+1 by omega]
  by_cases z:i-j=0
  ·rw[if_pos z,if_pos (show(i-j).toNat=0 by omega),List.append_assoc]
  ·rw[if_neg z,if_neg (show ¬(i-j).toNat=0 by omega)];rfl
theorem Aa0{A B:List Int}{i j:Int}{t:List Int}(h0:0≤i)(hi:i≤A.length)(j0:0≤j)(jl:j≤B.length)(ho:i < A.length∨j < B.length)(hn:¬(i < A.length∧A[i.toNat]!≤B[j.toNat]!))(h:B8l A B i j t) :
  j < B.length∧j < i∧B8l A B i (j+1) (if i-j-1=0 then t++[B[j.toNat]!]else t):=by
 have hl:=A9z h0 hi j0 jl h
 obtain⟨v,hji,e⟩:=h
 have hj:j < B.length:=by omega
 rw[O7 j0 hj]at v e
 by_cases hA:i < A.length
 ·have hba:B[j.toNat]! < A[i.toNat]!:=by have:¬ A[i.toNat]!≤B[j.toNat]!:=fun k=>hn ⟨hA,k⟩;omega
  rw[O7 h0 hA]at v e
  have hp:=v.pos hba
  rw[sw,if_neg (by omega)]at e
  refine⟨hj,by omega,?_,by omega,?_⟩
  ·rw[O7 h0 hA,show(i-(j+1)).toNat=(i-j).toNat-1 by omega];exact v.out hba
  ·rw[← e,O7 h0 hA,show(i-(j+1)).toNat=(i-j).toNat-1 by omega]
   by_cases z:i-j-1=0
   ·rw[if_pos z,if_pos (show(i-j).toNat=1 by omega),List.append_assoc]
   ·rw[if_neg z,if_neg (show ¬(i-j).toNat=1 by omega)];rfl
 ·rw[List.drop_of_length_le (l:=A) (by omega)]at v e
  have hp:=v.end_
  rw[sw]at e
  refine⟨hj,by omega,?_,by omega,?_⟩
  ·rw[List.drop_of_length_le (l:=A) (by omega),show(i-(j+1)).toNat=(i-j).toNat-1 by omega];exact hp.2
  ·rw[← e,List.drop_of_length_le (l:=A) (by omega),show(i-(j+1)).toNat=(i-j).toNat-1 by omega]
   by_cases z:i-j-1=0
   ·rw[if_pos z,if_pos (show(i-j).toNat=1 by omega),List.append_assoc]
   ·rw[if_neg z,if_neg (show ¬(i-j).toNat=1 by omega)];rfl
theorem B8m{A B:List Int}{i j:Int}{t:List Int}(ho:¬(i < A.length∨j < B.length))(h:B8l A B i j t):t=sw A B 0:=by
 have e:=h.2.2
 rw[List.drop_of_length_le (by omega),List.drop_of_length_le (by omega),sw,List.append_nil]at e
 exact e
theorem Ap7{lo hi:List Int}(h:lo.length=hi.length):(A6v lo hi).length=lo.length:=by
 unfold A6v;rw[List.length_zipWith];omega
theorem Aw9{lo hi:List Int}{i:Int}(h:lo.length=hi.length)(h0:0≤i)(hi':i < lo.length):(A6v lo hi).take (i+1).toNat=(A6v lo hi).take i.toNat++[⟨lo[i.toNat]!,hi[i.toNat]!⟩]:=by
 rw[← E1 h0 (by rw[Ap7 h];exact hi')]
 congr 2
 have:=Ap7 h
 rw[getElem!_pos (A6v lo hi) i.toNat (by omega),getElem!_pos lo i.toNat (by omega),getElem!_pos hi i.toNat (by omega)]
 simp [A6v]
theorem B4h(a:List Run)(r:Run):Bd8 (a++[r])=Bd8 a++if(F3 r).lo≤(F3 r).hi then[(F3 r).lo]else[]:=by
 unfold Bd8
 rw[A58,A28,List.map_append]
 split <;> rfl
theorem Ax0(a:List Run)(r:Run):Ai0 (a++[r])=Ai0 a++if(F3 r).lo≤(F3 r).hi then[(F3 r).hi+1]else[]:=by
 unfold Ai0
 rw[A58,A28,List.map_append]
 split <;> rfl
theorem B8n{lo hi:List Int}{i:Int}{a b:List Int}(h:lo.length=hi.length)(h0:0≤i)(hl:i < lo.length)(hc:max lo[i.toNat]! 1≤min hi[i.toNat]! 1000000000)(ha:A5w lo hi i a)(hb:A0c lo hi i b) :
  A5w lo hi (i+1) (a++[max lo[i.toNat]! 1])∧A0c lo hi (i+1) (b++[min hi[i.toNat]! 1000000000+1]):=by
 unfold A5w A0c at *
 have hc':(F3 ⟨lo[i.toNat]!,hi[i.toNat]!⟩).lo≤(F3 ⟨lo[i.toNat]!,hi[i.toNat]!⟩).hi:=hc
 rw[Aw9 h h0 hl,B4h,Ax0,← ha,← hb,if_pos hc',if_pos hc']
 exact⟨rfl,rfl⟩
theorem B4i{lo hi:List Int}{i:Int}{a b:List Int}(h:lo.length=hi.length)(h0:0≤i)(hl:i < lo.length)(hc:¬ max lo[i.toNat]! 1≤min hi[i.toNat]! 1000000000)(ha:A5w lo hi i a)(hb:A0c lo hi i b) :
  A5w lo hi (i+1) a∧A0c lo hi (i+1) b:=by
 unfold A5w A0c at *
 have hc':¬(F3 ⟨lo[i.toNat]!,hi[i.toNat]!⟩).lo≤(F3 ⟨lo[i.toNat]!,hi[i.toNat]!⟩).hi:=hc
 rw[Aw9 h h0 hl,B4h,Ax0,← ha,← hb,if_neg hc',if_neg hc',List.append_nil,List.append_nil]
 exact⟨rfl,rfl⟩
theorem Ai4{lo hi:List Int}{i:Int}{a b:List Int}(h:lo.length=hi.length)(hl:¬ i < lo.length)(ha:A5w lo hi i a)(hb:A0c lo hi i b):a.mergeSort leI=Bm1 (A6v lo hi)∧b.mergeSort leI=Ap6 (A6v lo hi):=by
 unfold A5w A0c at *
 have:=Ap7 h
 rw[ha,hb,List.take_of_length_le (by omega)]
 exact⟨rfl,rfl⟩
theorem B10(l:List Run):B8l (Bm1 l) (Ap6 l) 0 0 []:=⟨Aw7 l,by omega,by simp⟩
theorem con204(lo hi:List Int)(h:lo.length=hi.length)(hb:lo.length*16≤140737488351232):Con Tryz.prog 204 [.sl (lo.map c3),.sl (hi.map c3)] (.sl ((D3 (nrm (A6v lo hi))).map c3)) :=
 by
 refine lN 0 c3 (lo) Tryz.func204 fun hl_0=>lN 1 c3 (hi) Tryz.func204 fun hl_1=>sC A9 [.tmp 4] 98 Tryz.func204 ?_
 intro e0 cx
 refine sq<|rG cx [0,1] [] z0<|sn<|sq<|rG cx [0,1,5,6] [] z0<|sn<|sq<|sq<|rG cx [0,1,5,6,7] [] z0<|sn<|bL 0<|G0 5 1005 3 1 (σ':=⟨[(0,.sl (List.map c3 lo)),(1,.sl (List.map c3 hi)),(5,.own 1005 0),(6,.nl),(7,.i .i64 ((0:Int)))],[(1005,⟨0,3,.row 1 (List.map c3 [])⟩)]⟩) (by kernel_rfl)<|G0 6 1006 3 1 (σ':=⟨[(0,.sl (List.map c3 lo)),(1,.sl (List.map c3 hi)),(5,.own 1005 0),(6,.own 1006 0),(7,.i .i64 ((0:Int)))],[(1005,⟨0,3,.row 1 (List.map c3 [])⟩),(1006,⟨0,3,.row 1 (List.map c3 [])⟩)]⟩) (by kernel_rfl)<|sL (X:=Int×List Int×List Int) (fun x=>⟨[(0,.sl (List.map c3 lo)),(1,.sl (List.map c3 hi)),(5,.own 1005 0),(6,.own 1006 0),(7,.i .i64 (x.1))],[(1005,⟨0,3,.row 1 (List.map c3 x.2.1)⟩),(1006,⟨0,3,.row 1 (List.map c3 x.2.2)⟩)]⟩) (fun x ↦ decTa lo x.1 x.2.1 x.2.2) (fun x ↦ B8k lo hi x.1 x.2.1 x.2.2) [0,1,5,6,7] [1005,1006] (((0:Int),[],[])) (show B8k lo hi (0:Int) [] []from ?g0) ?_;rotate_left
 rintro⟨i0,a1,b2⟩ h_3
 obtain⟨hh4,hh5,hh6,hh7,h8,h9⟩:0≤i0∧i0≤(↑lo.length:Int)∧(↑a1.length:Int)≤i0∧(↑b2.length:Int)=(↑a1.length:Int)∧A5w lo hi i0 a1∧A0c lo hi i0 b2:=h_3
 refine sq<|rD cx [0,1,5,6,7,17] [1005,1006] (tL 2 c3 lo (zB 3 (i0 <(↑lo.length:Int)))) (fun h10=>?_) fun h10=>?_
 refine sK<|sn<|sq<|bL 1<|sq<|rA cx [0,1,5,6,7,8,9] [1005,1006] (fA (0≤i0) (fG c3 lo i0.toNat (fR 1 (tT 4 (A4c:AV.i .i64 (if(1:Int) > lo[i0.toNat]! then(1:Int)else lo[i0.toNat]!)=AV.i .i64 (max lo[i0.toNat]! (1:Int))) (fA (0≤i0) (fG c3 hi i0.toNat (fR 1 (tT 9 (A4d:AV.i .i64 (if(1000000000:Int) < hi[i0.toNat]! then(1000000000:Int)else hi[i0.toNat]!)=AV.i .i64 (min hi[i0.toNat]! (1000000000:Int))) (oR 2 (c3 lo[i0.toNat]!) (oR 7 (c3 hi[i0.toNat]!) z0))))))))))<|sn<|rD cx [0,1,5,6,7,8,9,32] [1005,1006] (zB 2 (max lo[i0.toNat]! 1≤min hi[i0.toNat]! (1000000000:Int))) (fun h11=>?_) fun h11=>?_
 refine sq<|rG cx [0,1,5,6,7,9] [1005,1006] (fR 3 (fR 1 (fR 1 (fX c3 [max lo[i0.toNat]! (1:Int)] 1 (fS c3 a1 c3 [max lo[i0.toNat]! (1:Int)] (fP (((List.map c3 a1).length+(List.map c3 [max lo[i0.toNat]! (1:Int)]).length)*(8:Nat)≤(140737488355328:Nat)) (by(simp only [Go.maxLen,List.length_map,List.length_append,List.length_cons,List.length_nil];omega)) (fM c3 a1 [max lo[i0.toNat]! (1:Int)] (oV 3 { rows:=some (List.map c3 (a1++[max lo[i0.toNat]! (1:Int)])) } z0))))))))<|sn<|rG cx [0,1,5,6,7] [1005,1006] (tW 2 (min hi[i0.toNat]! (1000000000:Int)+(1:Int)) (fR 3 (fR 1 (fR 1 (fX c3 [min hi[i0.toNat]! (1000000000:Int)+(1:Int)] 1 (fS c3 b2 c3 [min hi[i0.toNat]! (1000000000:Int)+(1:Int)] (fP (((List.map c3 b2).length+(List.map c3 [min hi[i0.toNat]! (1000000000:Int)+(1:Int)]).length)*(8:Nat)≤(140737488355328:Nat)) (by(simp only [Go.maxLen,List.length_map,List.length_append,List.length_cons,List.length_nil];omega)) (fM c3 b2 [min hi[i0.toNat]! (1000000000:Int)+(1:Int)] (oV 4 { rows:=some (List.map c3 (b2++[min hi[i0.toNat]! (1000000000:Int)+(1:Int)])) } z0)))))))))<|bN<|sn<|rG cx [0,1,5,6,7] [1005,1006] (tW 1 (i0+1) z0)<|sn<|nX ((i0+1,a1++[max lo[i0.toNat]! (1:Int)],b2++[min hi[i0.toNat]! (1000000000:Int)+(1:Int)])) (show((↑lo.length:Int)-(i0+1)).toNat <((↑lo.length:Int)-i0).toNat from(by omega)) (show B8k lo hi (i0+1) (a1++[max lo[i0.toNat]! (1:Int)]) (b2++[min hi[i0.toNat]! (1000000000:Int)+(1:Int)])from ?g1);rotate_left
 refine sK<|bN<|sn<|rG cx [0,1,5,6,7] [1005,1006] (tW 1 (i0+1) z0)<|sn<|nX ((i0+1,a1,b2)) (show((↑lo.length:Int)-(i0+1)).toNat <((↑lo.length:Int)-i0).toNat from(by omega)) (show B8k lo hi (i0+1) a1 b2 from ?g2);rotate_left
 refine eX 0<|nE<|nE<|bH<|sn<|sq<|rG cx [5,6] [1006] (fT (Bd7 (a1) (by omega)) (oA 1 (.sl (List.map c3 (a1.mergeSort leI))) z0))<|sn<|sq<|rG cx [5,6] [] (fT (Bd7 (b2) (by omega)) (oA 1 (.sl (List.map c3 (b2.mergeSort leI))) z0))<|sn<|sq<|rG cx [5,6,10] [] z0<|sn<|sq<|rG cx [5,6,10,11,12] [] z0<|sn<|sq<|sq<|rG cx [5,6,10,11,12,13] [] z0<|sn<|bL 2<|G0 10 1010 3 1 (σ':=⟨[(5,.sl (List.map c3 (a1.mergeSort leI))),(6,.sl (List.map c3 (b2.mergeSort leI))),(10,.own 1010 0),(11,.i .i64 ((0:Int))),(12,.i .i64 ((0:Int))),(13,.i .i64 ((0:Int)))],[(1010,⟨0,3,.row 1 (List.map c3 [])⟩)]⟩) (by kernel_rfl)<|sL (X:=Int×Int×Int×List Int) (fun x=>⟨[(5,.sl (List.map c3 (a1.mergeSort leI))),(6,.sl (List.map c3 (b2.mergeSort leI))),(10,.own 1010 0),(11,.i .i64 (x.1)),(12,.i .i64 (x.2.1)),(13,.i .i64 (x.2.2.1))],[(1010,⟨0,3,.row 1 (List.map c3 x.2.2.2)⟩)]⟩) (fun x ↦ decTb (a1.mergeSort leI) (b2.mergeSort leI) x.1 x.2.1 x.2.2.1 x.2.2.2) (fun x ↦ B0z (a1.mergeSort leI) (b2.mergeSort leI) x.1 x.2.1 x.2.2.1 x.2.2.2) [5,6,10,11,12,13] [1010] (((0:Int),(0:Int),(0:Int),[])) (show B0z (a1.mergeSort leI) (b2.mergeSort leI) (0:Int) (0:Int) (0:Int) []from ?g3) ?_;rotate_left
 rintro⟨d12,j13,i14,t15⟩ h_16
 obtain⟨h17,h18,h19,h20,h21,h22,h23⟩:0≤i14∧i14≤(↑(a1.mergeSort leI).length:Int)∧0≤j13∧j13≤(↑(b2.mergeSort leI).length:Int)∧d12=i14-j13∧(↑t15.length:Int)≤i14+j13∧B8l (a1.mergeSort leI) (b2.mergeSort leI) i14 j13 t15:=h_16
 refine sq<|sq<|B3 (σ':=⟨[(5,.sl (List.map c3 (a1.mergeSort leI))),(6,.sl (List.map c3 (b2.mergeSort leI))),(10,.own 1010 0),(11,.i .i64 (d12)),(12,.i .i64 (j13)),(13,.i .i64 (i14)),(55,.b (decide (i14 <(↑(a1.mergeSort leI).length:Int)∨j13 <(↑(b2.mergeSort leI).length:Int))))],[(1010,⟨0,3,.row 1 (List.map c3 t15)⟩)]⟩) ?_ ?_
 refine A4 (i14 <(↑(a1.mergeSort leI).length:Int)) (fun h_25=>?_) (fun h_25=>?_)
 refine rG cx [5,6,10,11,12,13,55] [1010] (tL 2 c3 (a1.mergeSort leI) (tT 3 (A3 h_25) (tD 9 true (i14 <(↑(a1.mergeSort leI).length:Int)∨j13 <(↑(b2.mergeSort leI).length:Int)) (by simp only [eq_true h_25,tsl]) z0))) ?_
 exact⟨rfl,by kernel_rfl⟩
 refine rG cx [5,6,10,11,12,13,55] [1010] (tL 2 c3 (a1.mergeSort leI) (tT 3 (A0 h_25) (tL 7 c3 (b2.mergeSort leI) (tB 8 (j13 <(↑(b2.mergeSort leI).length:Int)) (tD 9 (decide (j13 <(↑(b2.mergeSort leI).length:Int))) (i14 <(↑(a1.mergeSort leI).length:Int)∨j13 <(↑(b2.mergeSort leI).length:Int)) (by simp only [eq_false h_25,tsl]) z0))))) ?_
 exact⟨rfl,by kernel_rfl⟩
 refine sn<|dC (i14 <(↑(a1.mergeSort leI).length:Int)∨j13 <(↑(b2.mergeSort leI).length:Int)) (fun h26=>?_) fun h26=>?_
 refine sK<|sn<|bL 3<|sq<|B3 (σ':=⟨[(5,.sl (List.map c3 (a1.mergeSort leI))),(6,.sl (List.map c3 (b2.mergeSort leI))),(10,.own 1010 0),(11,.i .i64 (d12)),(12,.i .i64 (j13)),(13,.i .i64 (i14)),(70,.b (decide (i14 <(↑(a1.mergeSort leI).length:Int)∧(a1.mergeSort leI)[i14.toNat]!≤(b2.mergeSort leI)[j13.toNat]!)))],[(1010,⟨0,3,.row 1 (List.map c3 t15)⟩)]⟩) ?_ ?_
 refine A4 (i14 <(↑(a1.mergeSort leI).length:Int)) (fun h28=>?_) (fun h28=>?_)
 refine rA cx [5,6,10,11,12,13,70] [1010] (tL 2 c3 (a1.mergeSort leI) (tT 3 (A3 h28) (fA (0≤i14) (fG c3 (a1.mergeSort leI) i14.toNat (fR 1 (fA (0≤j13) (fP ((List.map c3 (b2.mergeSort leI))[j13.toNat]?=some (c3 (b2.mergeSort leI)[j13.toNat]!)) ?g4 (fR 1 (tB 13 ((a1.mergeSort leI)[i14.toNat]!≤(b2.mergeSort leI)[j13.toNat]!) (tD 14 (decide ((a1.mergeSort leI)[i14.toNat]!≤(b2.mergeSort leI)[j13.toNat]!)) (i14 <(↑(a1.mergeSort leI).length:Int)∧(a1.mergeSort leI)[i14.toNat]!≤(b2.mergeSort leI)[j13.toNat]!) (by simp only [eq_true h28,tsl]) (oR 7 (c3 (a1.mergeSort leI)[i14.toNat]!) (oR 11 (c3 (b2.mergeSort leI)[j13.toNat]!) z0)))))))))))) ?_;rotate_left
 exact⟨rfl,by kernel_rfl⟩
 refine rA cx [5,6,10,11,12,13,70] [1010] (tL 2 c3 (a1.mergeSort leI) (tT 3 (A0 h28) (tD 14 false (i14 <(↑(a1.mergeSort leI).length:Int)∧(a1.mergeSort leI)[i14.toNat]!≤(b2.mergeSort leI)[j13.toNat]!) (by simp only [eq_false h28,tsl]) z0))) ?_
 exact⟨rfl,by kernel_rfl⟩
 refine sn<|dC (i14 <(↑(a1.mergeSort leI).length:Int)∧(a1.mergeSort leI)[i14.toNat]!≤(b2.mergeSort leI)[j13.toNat]!) (fun h29=>?_) fun h29=>?_
 refine sq<|rD cx [5,6,10,11,12,13,72] [1010] (zB 1 (d12=0)) (fun h30=>?_) fun h30=>?_
 refine rG cx [5,6,10,11,12,13] [1010] (fA (0≤i14) (fG c3 (a1.mergeSort leI) i14.toNat (fR 1 (fR 3 (fR 1 (fR 1 (fX c3 [(a1.mergeSort leI)[i14.toNat]!] 1 (fP ((List.map c3 t15).length+(List.map c3 [(a1.mergeSort leI)[i14.toNat]!]).length≤maxLen) ?g5 (fP (((List.map c3 t15).length+(List.map c3 [(a1.mergeSort leI)[i14.toNat]!]).length)*(8:Nat)≤(140737488355328:Nat)) ?g6 (fM c3 t15 [(a1.mergeSort leI)[i14.toNat]!] (oR 3 (c3 (a1.mergeSort leI)[i14.toNat]!) (oV 6 { rows:=some (List.map c3 (t15++[(a1.mergeSort leI)[i14.toNat]!])) } z0)))))))))))) ?_;rotate_left 2
 refine sn<|sq<|rG cx [5,6,10,11,12,13] [1010] (tW 1 (d12+1) z0)<|sn<|rG cx [5,6,10,11,12,13] [1010] (tT 1 (B7 (by omega) ?g7:AV.i .i64 (IntKind.i64.wrap (i14+1))=AV.i .i64 (i14+1)) z0) ?_;rotate_left
 refine bN<|sn<|nX ((d12+1,j13,i14+1,t15++[(a1.mergeSort leI)[i14.toNat]!])) (show((↑(a1.mergeSort leI).length:Int)+(↑(b2.mergeSort leI).length:Int)-(i14+1)-j13).toNat <((↑(a1.mergeSort leI).length:Int)+(↑(b2.mergeSort leI).length:Int)-i14-j13).toNat from(by omega)) (show B0z (a1.mergeSort leI) (b2.mergeSort leI) (d12+1) j13 (i14+1) (t15++[(a1.mergeSort leI)[i14.toNat]!])from ?g8);rotate_left
 refine sK<|sn<|sq<|rG cx [5,6,10,11,12,13] [1010] (tT 1 (B7 ?g9 ?g10:AV.i .i64 (IntKind.i64.wrap (d12+1))=AV.i .i64 (d12+1)) z0) ?_;rotate_left 2
 refine sn<|rG cx [5,6,10,11,12,13] [1010] (tT 1 (B7 (by omega) ?g11:AV.i .i64 (IntKind.i64.wrap (i14+1))=AV.i .i64 (i14+1)) z0) ?_;rotate_left
 refine bN<|sn<|nX ((d12+1,j13,i14+1,t15)) (show((↑(a1.mergeSort leI).length:Int)+(↑(b2.mergeSort leI).length:Int)-(i14+1)-j13).toNat <((↑(a1.mergeSort leI).length:Int)+(↑(b2.mergeSort leI).length:Int)-i14-j13).toNat from(by omega)) (show B0z (a1.mergeSort leI) (b2.mergeSort leI) (d12+1) j13 (i14+1) t15 from ?g12);rotate_left
 refine sq<|rG cx [5,6,10,11,12,13] [1010] (tT 1 (B7 ?g13 ?g14:AV.i .i64 (IntKind.i64.wrap (d12-1))=AV.i .i64 (d12-1)) z0) ?_;rotate_left 2
 refine sn<|sq<|rD cx [5,6,10,11,12,13,87] [1010] (zB 1 (d12-1=(0:Int))) (fun h31=>?_) fun h31=>?_
 refine rG cx [5,6,10,11,12,13] [1010] (fA (0≤j13) (fP ((List.map c3 (b2.mergeSort leI))[j13.toNat]?=some (c3 (b2.mergeSort leI)[j13.toNat]!)) ?g15 (fR 1 (fR 3 (fR 1 (fR 1 (fX c3 [(b2.mergeSort leI)[j13.toNat]!] 1 (fP ((List.map c3 t15).length+(List.map c3 [(b2.mergeSort leI)[j13.toNat]!]).length≤maxLen) ?g16 (fP (((List.map c3 t15).length+(List.map c3 [(b2.mergeSort leI)[j13.toNat]!]).length)*(8:Nat)≤(140737488355328:Nat)) ?g17 (fM c3 t15 [(b2.mergeSort leI)[j13.toNat]!] (oR 3 (c3 (b2.mergeSort leI)[j13.toNat]!) (oV 6 { rows:=some (List.map c3 (t15++[(b2.mergeSort leI)[j13.toNat]!])) } z0)))))))))))) ?_;rotate_left 3
 refine sn<|rG cx [5,6,10,11,12,13] [1010] (tT 1 (B7 (by omega) ?g18:AV.i .i64 (IntKind.i64.wrap (j13+1))=AV.i .i64 (j13+1)) z0) ?_;rotate_left
 refine bN<|sn<|nX ((d12-1,j13+1,i14,t15++[(b2.mergeSort leI)[j13.toNat]!])) (show((↑(a1.mergeSort leI).length:Int)+(↑(b2.mergeSort leI).length:Int)-i14-(j13+1)).toNat <((↑(a1.mergeSort leI).length:Int)+(↑(b2.mergeSort leI).length:Int)-i14-j13).toNat from(by omega)) (show B0z (a1.mergeSort leI) (b2.mergeSort leI) (d12-1) (j13+1) i14 (t15++[(b2.mergeSort leI)[j13.toNat]!])from ?g19);rotate_left
 refine sK<|sn<|rG cx [5,6,10,11,12,13] [1010] (tT 1 (B7 (by omega) ?g20:AV.i .i64 (IntKind.i64.wrap (j13+1))=AV.i .i64 (j13+1)) z0) ?_;rotate_left
 refine bN<|sn<|nX ((d12-1,j13+1,i14,t15)) (show((↑(a1.mergeSort leI).length:Int)+(↑(b2.mergeSort leI).length:Int)-i14-(j13+1)).toNat <((↑(a1.mergeSort leI).length:Int)+(↑(b2.mergeSort leI).length:Int)-i14-j13).toNat from(by omega)) (show B0z (a1.mergeSort leI) (b2.mergeSort leI) (d12-1) (j13+1) i14 t15 from ?g21);rotate_left
 refine eX 2<|nE<|nE<|bH<|sn<|sq<|rG cx [4] [1010] z0<|sn<|rT<|qR (.sl (List.map c3 t15)) (.eq ?g22);rotate_left
 rotate_left
 revert i0 a1 b2 hh4 hh5 hh6 hh7 h8 h9 h10 h11;rotate_left
 revert i0 a1 b2 hh4 hh5 hh6 hh7 h8 h9 h10 h11;rotate_left
 revert i0 a1 b2 hh4 hh5 hh6 hh7 h8 h9 h10;rotate_left
 revert i0 a1 b2 hh4 hh5 hh6 hh7 h8 h9 h10 d12 j13 i14 t15 h17 h18 h19 h20 h21 h22 h23 h26 h28;rotate_left
 revert i0 a1 b2 hh4 hh5 hh6 hh7 h8 h9 h10 d12 j13 i14 t15 h17 h18 h19 h20 h21 h22 h23 h26 h29 h30;rotate_left
 revert i0 a1 b2 hh4 hh5 hh6 hh7 h8 h9 h10 d12 j13 i14 t15 h17 h18 h19 h20 h21 h22 h23 h26 h29 h30;rotate_left
 revert i0 a1 b2 hh4 hh5 hh6 hh7 h8 h9 h10 d12 j13 i14 t15 h17 h18 h19 h20 h21 h22 h23 h26 h29 h30;rotate_left
 revert i0 a1 b2 hh4 hh5 hh6 hh7 h8 h9 h10 d12 j13 i14 t15 h17 h18 h19 h20 h21 h22 h23 h26 h29 h30;rotate_left
 revert i0 a1 b2 hh4 hh5 hh6 hh7 h8 h9 h10 d12 j13 i14 t15 h17 h18 h19 h20 h21 h22 h23 h26 h29 h30;rotate_left
 revert i0 a1 b2 hh4 hh5 hh6 hh7 h8 h9 h10 d12 j13 i14 t15 h17 h18 h19 h20 h21 h22 h23 h26 h29 h30;rotate_left
 revert i0 a1 b2 hh4 hh5 hh6 hh7 h8 h9 h10 d12 j13 i14 t15 h17 h18 h19 h20 h21 h22 h23 h26 h29 h30;rotate_left
 revert i0 a1 b2 hh4 hh5 hh6 hh7 h8 h9 h10 d12 j13 i14 t15 h17 h18 h19 h20 h21 h22 h23 h26 h29 h30;rotate_left
 revert i0 a1 b2 hh4 hh5 hh6 hh7 h8 h9 h10 d12 j13 i14 t15 h17 h18 h19 h20 h21 h22 h23 h26 h29;rotate_left
 revert i0 a1 b2 hh4 hh5 hh6 hh7 h8 h9 h10 d12 j13 i14 t15 h17 h18 h19 h20 h21 h22 h23 h26 h29;rotate_left
 revert i0 a1 b2 hh4 hh5 hh6 hh7 h8 h9 h10 d12 j13 i14 t15 h17 h18 h19 h20 h21 h22 h23 h26 h29 h31;rotate_left
 revert i0 a1 b2 hh4 hh5 hh6 hh7 h8 h9 h10 d12 j13 i14 t15 h17 h18 h19 h20 h21 h22 h23 h26 h29 h31;rotate_left
 revert i0 a1 b2 hh4 hh5 hh6 hh7 h8 h9 h10 d12 j13 i14 t15 h17 h18 h19 h20 h21 h22 h23 h26 h29 h31;rotate_left
 revert i0 a1 b2 hh4 hh5 hh6 hh7 h8 h9 h10 d12 j13 i14 t15 h17 h18 h19 h20 h21 h22 h23 h26 h29 h31;rotate_left
 revert i0 a1 b2 hh4 hh5 hh6 hh7 h8 h9 h10 d12 j13 i14 t15 h17 h18 h19 h20 h21 h22 h23 h26 h29 h31;rotate_left
 revert i0 a1 b2 hh4 hh5 hh6 hh7 h8 h9 h10 d12 j13 i14 t15 h17 h18 h19 h20 h21 h22 h23 h26 h29 h31;rotate_left
 revert i0 a1 b2 hh4 hh5 hh6 hh7 h8 h9 h10 d12 j13 i14 t15 h17 h18 h19 h20 h21 h22 h23 h26 h29 h31;rotate_left
 revert i0 a1 b2 hh4 hh5 hh6 hh7 h8 h9 h10 d12 j13 i14 t15 h17 h18 h19 h20 h21 h22 h23 h26;rotate_left
 case g0=>exact⟨by omega,by omega,by simp,by simp,by simp [A5w,Bd8,L5],by simp [A0c,Ai0,L5]⟩
 case g1=>intro i a b h0 h1 h2 h3 h4 h5 h6 h7;have:=B8n h h0 h6 h7 h4 h5;exact⟨by omega,by omega,by simp only [List.length_append,List.length_cons,List.length_nil];omega,by simp only [List.length_append,List.length_cons,List.length_nil];omega,this.1,this.2⟩
 case g2=>intro i a b h0 h1 h2 h3 h4 h5 h6 h7;have:=B4i h h0 h6 h7 h4 h5;exact⟨by omega,by omega,by omega,by omega,this.1,this.2⟩
 case g3=>intro i a b h0 h1 h2 h3 h4 h5 h6;obtain⟨e1,e2⟩:=Ai4 h h6 h4 h5;rw[e1,e2];exact⟨by omega,by omega,by omega,by omega,by omega,by simp,B10 _⟩
 case g4=>intro i a b h0 h1 h2 h3 h4 h5 h6 d j k t k0 k1 k2 k3 k4 k5 k6 k7 k8;have:=A9z k0 k1 k2 k3 k6;have:=k6.2.1;exact F7 (by omega)
 case g8 =>
  intro i a b h0 h1 h2 h3 h4 h5 h6 d j k t k0 k1 k2 k3 k4 k5 k6 k7 k8 k9
  have:=B4g k0 k8.1 k2 k3 k8.2 k6
  rw[if_pos (by omega)]at this
  exact⟨by omega,by omega,by omega,by omega,by omega,by simp only [List.length_append,List.length_cons,List.length_nil];omega,this⟩
 case g12 =>
  intro i a b h0 h1 h2 h3 h4 h5 h6 d j k t k0 k1 k2 k3 k4 k5 k6 k7 k8 k9
  have:=B4g k0 k8.1 k2 k3 k8.2 k6
  rw[if_neg (by omega)]at this
  exact⟨by omega,by omega,by omega,by omega,by omega,by omega,this⟩
 case g15=>intro i a b h0 h1 h2 h3 h4 h5 h6 d j k t k0 k1 k2 k3 k4 k5 k6 k7 k8 k9;have:=Aa0 k0 k1 k2 k3 k7 k8 k6;exact F7 (by omega)
 case g19 =>
  intro i a b h0 h1 h2 h3 h4 h5 h6 d j k t k0 k1 k2 k3 k4 k5 k6 k7 k8 k9
  obtain⟨q1,q2,this⟩:=Aa0 k0 k1 k2 k3 k7 k8 k6
  rw[if_pos (by omega)]at this
  exact⟨by omega,by omega,by omega,by omega,by omega,by simp only [List.length_append,List.length_cons,List.length_nil];omega,this⟩
 case g21 =>
  intro i a b h0 h1 h2 h3 h4 h5 h6 d j k t k0 k1 k2 k3 k4 k5 k6 k7 k8 k9
  obtain⟨q1,q2,this⟩:=Aa0 k0 k1 k2 k3 k7 k8 k6
  rw[if_neg (by omega)]at this
  exact⟨by omega,by omega,by omega,by omega,by omega,by omega,this⟩
 case g22 =>
  intro i a b h0 h1 h2 h3 h4 h5 h6 d j k t k0 k1 k2 k3 k4 k5 k6 k7
  obtain⟨e1,e2⟩:=Ai4 h h6 h4 h5
  rw[e1,e2]at k6 k7
  rw[B8m k7 k6,B4d]
 all_goals
  intros
  simp only [List.length_mergeSort,List.length_map,List.length_cons,List.length_nil,Go.maxLen]at *
  omega
end Go.Proofs.YtokhjapfekbobaaGreat
namespace Go.Proofs.YtokhjapfekbobaaGreat
open Go.E
set_option maxRecDepth 100000
set_option maxHeartbeats 4000000
def Bt9(s:Nat→List Int):List AV:=E8 c3 16 s
def tnS(U:Nat→List Run)(r:Nat):List Int:=D3 (U r)
def zT(A B:Nat→List Int)(r:Nat):List Run:=A6v (A r) (B r)
def Aa1(A B:Nat→List Int):Prop:=∀ r:Nat,r < 16→(A r).length=(B r).length
def Bm3(ps:List Past)(i:Int)(A B:Nat→List Int):Prop:=0≤i∧i≤ps.length∧Aa1 A B∧A7u ps i (zT A B)
def decMa(ps:List Past)(i:Int)(A B:Nat→List Int):Nat:=(ps.length-i).toNat
def Bm4(ps:List Past)(i j:Int)(A B:Nat→List Int):Prop:=0≤j∧j≤(ps[i.toNat]!).vec.length∧j≤16∧Aa1 A B∧X9 ps i j (zT A B)
def decMb(ps:List Past)(i j:Int)(A B:Nat→List Int):Nat:=((ps[i.toNat]!).vec.length-j).toNat
def B8o(ps:List Past)(i j:Int)(A B:Nat→List Int):Prop:=0≤j∧j≤(ps[i.toNat]!).cloud.length∧Aa1 A B∧Q6 ps i j (zT A B)
def decMc(ps:List Past)(i j:Int)(A B:Nat→List Int):Nat:=((ps[i.toNat]!).cloud.length-j).toNat
def Ax1(U:Nat→List Run)(r:Int)(S:Nat→List Int):Prop:=∀ k:Nat,(k:Int) < r→S k=tnS (E4 U) k
def Bm5(A2 B2:Nat→List Int)(r:Int)(A B S:Nat→List Int):Prop:=A=A2∧B=B2∧0≤r∧r≤16∧Ax1 (zT A2 B2) r S
def decMd(r:Int)(A B S:Nat→List Int):Nat:=(16-r).toNat
theorem Bd9{A B:Nat→List Int}{k:Nat}{x y:Int}(h:(A k).length=(B k).length)(r:Nat):zT (L4 A k (A k++[x])) (L4 B k (B k++[y])) r=L4 (zT A B) k (zT A B k++[⟨x,y⟩]) r:=by
 unfold zT L4
 by_cases e:r=k
 ·rw[if_pos e,if_pos e,if_pos e]
  unfold A6v
  rw[List.zipWith_append h]
  rfl
 ·rw[if_neg e,if_neg e,if_neg e]
theorem Ai5{A B:Nat→List Int}{k:Nat}{x y:Int}(h:Aa1 A B):Aa1 (L4 A k (A k++[x])) (L4 B k (B k++[y])):=by
 intro r hr
 have:=h r hr
 unfold L4
 by_cases e:r=k
 ·rw[if_pos e,if_pos e,List.length_append,List.length_append];subst e;simp only [List.length_cons,List.length_nil];omega
 ·rw[if_neg e,if_neg e];exact this
theorem B4j{A B:Nat→List Int}(h:Aa1 A B){r:Nat}(hr:r < 16):(A r).length=(zT A B r).length∧(B r).length=(zT A B r).length:=by
 have:=h r hr
 unfold zT A6v
 rw[List.length_zipWith]
 omega
theorem Ap8{U:Nat→List Run}{r:Int}{S:Nat→List Int}(h0:0≤r)(h:Ax1 U r S):Ax1 U (r+1) (L4 S r.toNat (tnS (E4 U) r.toNat)):=by
 intro k hk
 unfold L4
 by_cases e:k=r.toNat
 ·rw[if_pos e,e]
 ·rw[if_neg e];exact h k (by omega)
theorem con178 (ps : List Past) (hb : A1k ps * 16 ≤ 140737488351232) : Con Tryz.prog 178 [.sl (ps.map c26)] (.agg (Bt9 (tnS (E4 (A8 ps))))) :=
  by
  refine lN 0 c26 (ps) Tryz.func178 fun hl_0=>sC A9 [.cell 2 177] 116 Tryz.func178 ?_
  intro e0 cx
  refine sq<|rG cx [0,2] [2] z0<|sn<|sq<|rG cx [0,2,3,4] [2,3,4] z0<|sn<|sq<|sq<|rG cx [0,2,3,4,5] [2,3,4] z0<|sn<|bL 0<|A25 3 3 1 100300 16 (σ':=⟨[(0,.sl (List.map c26 ps)),(2,.ptr (2) (0) (0) (0)),(3,.ptr (3) (0) (0) (0)),(4,.ptr (4) (0) (0) (0)),(5,.i .i64 ((0:Int)))],[(2,⟨0,177,.var [.nl,.nl,.nl,.nl,.nl,.nl,.nl,.nl,.nl,.nl,.nl,.nl,.nl,.nl,.nl,.nl]⟩),(3,⟨0,175,.var (G6 100300 16)⟩),(4,⟨0,175,.arr [.nl,.nl,.nl,.nl,.nl,.nl,.nl,.nl,.nl,.nl,.nl,.nl,.nl,.nl,.nl,.nl]⟩)]++C3 100300 3 1 16 (c3) (fun x ↦ [])⟩) (by kernel_rfl)<|A25 4 3 1 100400 16 (σ':=⟨[(0,.sl (List.map c26 ps)),(2,.ptr (2) (0) (0) (0)),(3,.ptr (3) (0) (0) (0)),(4,.ptr (4) (0) (0) (0)),(5,.i .i64 ((0:Int)))],[(2,⟨0,177,.var [.nl,.nl,.nl,.nl,.nl,.nl,.nl,.nl,.nl,.nl,.nl,.nl,.nl,.nl,.nl,.nl]⟩),(3,⟨0,175,.var (G6 100300 16)⟩),(4,⟨0,175,.var (G6 100400 16)⟩)]++C3 100300 3 1 16 (c3) (fun x ↦ [])++C3 100400 3 1 16 (c3) (fun x ↦ [])⟩) (by kernel_rfl)<|sL (X:=Int×(Nat→List Int)×(Nat→List Int)) (fun x=>⟨[(0,.sl (List.map c26 ps)),(2,.ptr (2) (0) (0) (0)),(3,.ptr (3) (0) (0) (0)),(4,.ptr (4) (0) (0) (0)),(5,.i .i64 (x.1))],[(2,⟨0,177,.var [.nl,.nl,.nl,.nl,.nl,.nl,.nl,.nl,.nl,.nl,.nl,.nl,.nl,.nl,.nl,.nl]⟩),(3,⟨0,175,.var (G6 100300 16)⟩),(4,⟨0,175,.var (G6 100400 16)⟩)]++C3 100300 3 1 16 (c3) (x.2.1)++C3 100400 3 1 16 (c3) (x.2.2)⟩) (fun x ↦ decMa ps x.1 x.2.1 x.2.2) (fun x ↦ Bm3 ps x.1 x.2.1 x.2.2) [0,2,3,4,5] ([2,3,4]++List.range' 100300 16++List.range' 100400 16) (((0:Int),fun x ↦ [],fun x ↦ [])) (show Bm3 ps (0:Int) (fun x ↦ []) fun x ↦ []from ?g0) ?_;rotate_left
  rintro⟨i0,A1,B2⟩ h_3
  obtain⟨hh4,hh5,h6,h7⟩:0≤i0∧i0≤(↑ps.length:Int)∧Aa1 A1 B2∧A7u ps i0 (zT A1 B2):=h_3
  refine sq<|rD cx [0,2,3,4,5,14] ([2,3,4]++List.range' 100300 16++List.range' 100400 16) (tL 2 c26 ps (zB 3 (i0 <(↑ps.length:Int)))) (fun h8=>?_) fun h8=>?_
  refine sK<|sn<|sq<|bL 1<|sq<|sq<|rG cx [0,2,3,4,5,6] ([2,3,4]++List.range' 100300 16++List.range' 100400 16) z0<|sn<|bL 2<|sL (X:=Int×(Nat→List Int)×(Nat→List Int)) (fun x=>⟨[(0,.sl (List.map c26 ps)),(2,.ptr (2) (0) (0) (0)),(3,.ptr (3) (0) (0) (0)),(4,.ptr (4) (0) (0) (0)),(5,.i .i64 (i0)),(6,.i .i64 (x.1))],[(2,⟨0,177,.var [.nl,.nl,.nl,.nl,.nl,.nl,.nl,.nl,.nl,.nl,.nl,.nl,.nl,.nl,.nl,.nl]⟩),(3,⟨0,175,.var (G6 100300 16)⟩),(4,⟨0,175,.var (G6 100400 16)⟩)]++C3 100300 3 1 16 (c3) (x.2.1)++C3 100400 3 1 16 (c3) (x.2.2)⟩) (fun x ↦ decMb ps i0 x.1 x.2.1 x.2.2) (fun x ↦ Bm4 ps i0 x.1 x.2.1 x.2.2) [0,2,3,4,5,6] ([2,3,4]++List.range' 100300 16++List.range' 100400 16) (((0:Int),A1,B2)) (show Bm4 ps i0 (0:Int) A1 B2 from ?g1) ?_;rotate_left
  rintro⟨j9,A10,B11⟩ h_12
  obtain⟨h13,h14,h15,h16,h17⟩:0≤j9∧j9≤(↑ps[i0.toNat]!.vec.length:Int)∧j9≤16∧Aa1 A10 B11∧X9 ps i0 j9 (zT A10 B11):=h_12
  refine sq<|sq<|B3 (σ':=⟨[(0,.sl (List.map c26 ps)),(2,.ptr (2) (0) (0) (0)),(3,.ptr (3) (0) (0) (0)),(4,.ptr (4) (0) (0) (0)),(5,.i .i64 (i0)),(6,.i .i64 (j9)),(28,.b (decide (j9 <(↑ps[i0.toNat]!.vec.length:Int)∧j9 <(16:Int))))],[(2,⟨0,177,.var [.nl,.nl,.nl,.nl,.nl,.nl,.nl,.nl,.nl,.nl,.nl,.nl,.nl,.nl,.nl,.nl]⟩),(3,⟨0,175,.var (G6 100300 16)⟩),(4,⟨0,175,.var (G6 100400 16)⟩)]++C3 100300 3 1 16 (c3) (A10)++C3 100400 3 1 16 (c3) (B11)⟩) ?_ ?_
  refine A4 (j9 <(↑ps[i0.toNat]!.vec.length:Int)) (fun h_19=>?_) (fun h_19=>?_)
  refine rG cx [0,2,3,4,5,6,28] ([2,3,4]++List.range' 100300 16++List.range' 100400 16) (fA (0≤i0) (fG c26 ps i0.toNat (fR 2 (tL 6 c3 ps[i0.toNat]!.vec (tT 7 (A3 h_19) (tB 10 (j9 <(16:Int)) (tD 11 (decide (j9 <(16:Int))) (j9 <(↑ps[i0.toNat]!.vec.length:Int)∧j9 <(16:Int)) (by simp only [eq_true h_19,tsl]) (oR 3 (c26 ps[i0.toNat]!) z0)))))))) ?_
  exact⟨rfl,by kernel_rfl⟩
  refine rG cx [0,2,3,4,5,6,28] ([2,3,4]++List.range' 100300 16++List.range' 100400 16) (fA (0≤i0) (fG c26 ps i0.toNat (fR 2 (tL 6 c3 ps[i0.toNat]!.vec (tT 7 (A0 h_19) (tD 11 false (j9 <(↑ps[i0.toNat]!.vec.length:Int)∧j9 <(16:Int)) (by simp only [eq_false h_19,tsl]) (oR 3 (c26 ps[i0.toNat]!) z0))))))) ?_
  exact⟨rfl,by kernel_rfl⟩
  refine sn<|dC (j9 <(↑ps[i0.toNat]!.vec.length:Int)∧j9 <(16:Int)) (fun h20=>?_) fun h20=>?_
  refine sK<|sn<|sq<|bL 3<|sq<|B7j (F:=fun kx=>⟨[(0,.sl (List.map c26 ps)),(2,.ptr (2) (0) (0) (0)),(3,.ptr (3) (0) (0) (0)),(4,.ptr (4) (0) (0) (0)),(5,.i .i64 (i0)),(6,.i .i64 (kx)),(28,.b (decide (kx <(↑ps[i0.toNat]!.vec.length:Int)∧kx <(16:Int))))],[(2,⟨0,177,.var [.nl,.nl,.nl,.nl,.nl,.nl,.nl,.nl,.nl,.nl,.nl,.nl,.nl,.nl,.nl,.nl]⟩),(3,⟨0,175,.var (G6 100300 16)⟩),(4,⟨0,175,.var (G6 100400 16)⟩)]++C3 100300 3 1 16 (c3) (A10)++C3 100400 3 1 16 (c3) (B11)⟩) (G:=fun kx=>⟨[(0,.sl (List.map c26 ps)),(2,.ptr (2) (0) (0) (0)),(3,.ptr (3) (0) (0) (0)),(4,.ptr (4) (0) (0) (0)),(5,.i .i64 (i0)),(6,.i .i64 (kx))],[(2,⟨0,177,.var [.nl,.nl,.nl,.nl,.nl,.nl,.nl,.nl,.nl,.nl,.nl,.nl,.nl,.nl,.nl,.nl]⟩),(3,⟨0,175,.var (G6 100300 16)⟩),(4,⟨0,175,.var (G6 100400 16)⟩)]++C3 100300 3 1 16 (c3) (L4 A10 kx.toNat (A10 kx.toNat++[(1:Int)]))++C3 100400 3 1 16 (c3) (B11)⟩) (A:=fun kx=>(0≤kx)∧(kx <(↑(16:Nat):Int))∧(3=(3:Nat))∧((1:Nat)=1)∧([AV.i .i64 (0:Int)].length=(1:Nat))∧(∀(r:List AV),r∈List.map c3 [(1:Int)]→r.length=1)∧((List.map c3 (A10 kx.toNat)).length+(List.map c3 [(1:Int)]).length≤maxLen)∧(((List.map c3 (A10 kx.toNat)).length+(List.map c3 [(1:Int)]).length)*(8:Nat)≤(140737488355328:Nat))∧(List.map c3 (A10 kx.toNat)++List.map c3 [(1:Int)]=List.map c3 (A10 kx.toNat++[(1:Int)]))∧(0≤kx)∧(kx <(↑(16:Nat):Int))) cx (fun kx=>[(5,{ rows:=some (List.map c3 (A10 kx.toNat++[(1:Int)])) })]) [0,2,3,4,5,6] ([2,3,4]++List.range' 100300 16++List.range' 100400 16) (j9) (by(with_reducible assumption)) (by omega) (by kernel_rfl) (by kernel_rfl) ⟨(by show _=_;kernel_rfl),(by show _=_;kernel_rfl),(by show _=_;kernel_rfl),(by show _=_;kernel_rfl),(by show _=_;kernel_rfl),(by show _=_;kernel_rfl),(by show _=_;kernel_rfl),(by show _=_;kernel_rfl),(by show _=_;kernel_rfl),(by show _=_;kernel_rfl),(by show _=_;kernel_rfl),(by show _=_;kernel_rfl),(by show _=_;kernel_rfl),(by show _=_;kernel_rfl),(by show _=_;kernel_rfl),(by show _=_;kernel_rfl)⟩ ⟨(by(with_reducible assumption)),(by omega),(by kernel_rfl),(by kernel_rfl),(by kernel_rfl),(by(with_reducible refine O4 (fun _=>?_) _;kernel_rfl)),?g2,?g3,(by(with_reducible refine A06 ?_;kernel_rfl)),(by(with_reducible assumption)),(by omega)⟩ ?_;rotate_left 2
  refine sn<|A0k (F:=fun kx=>⟨[(0,.sl (List.map c26 ps)),(2,.ptr (2) (0) (0) (0)),(3,.ptr (3) (0) (0) (0)),(4,.ptr (4) (0) (0) (0)),(5,.i .i64 (i0)),(6,.i .i64 (kx))],[(2,⟨0,177,.var [.nl,.nl,.nl,.nl,.nl,.nl,.nl,.nl,.nl,.nl,.nl,.nl,.nl,.nl,.nl,.nl]⟩),(3,⟨0,175,.var (G6 100300 16)⟩),(4,⟨0,175,.var (G6 100400 16)⟩)]++C3 100300 3 1 16 (c3) (L4 A10 kx.toNat (A10 kx.toNat++[(1:Int)]))++C3 100400 3 1 16 (c3) (B11)⟩) (G:=fun kx=>⟨[(0,.sl (List.map c26 ps)),(2,.ptr (2) (0) (0) (0)),(3,.ptr (3) (0) (0) (0)),(4,.ptr (4) (0) (0) (0)),(5,.i .i64 (i0)),(6,.i .i64 (kx))],[(2,⟨0,177,.var [.nl,.nl,.nl,.nl,.nl,.nl,.nl,.nl,.nl,.nl,.nl,.nl,.nl,.nl,.nl,.nl]⟩),(3,⟨0,175,.var (G6 100300 16)⟩),(4,⟨0,175,.var (G6 100400 16)⟩)]++C3 100300 3 1 16 (c3) (L4 A10 kx.toNat (A10 kx.toNat++[(1:Int)]))++C3 100400 3 1 16 (c3) (L4 B11 kx.toNat (B11 kx.toNat++[ps[i0.toNat]!.vec[kx.toNat]!]))⟩) (A:=fun kx=>(0≤kx)∧(kx <(↑(16:Nat):Int))∧(0≤i0)∧((List.map c26 ps)[i0.toNat]?=some (c26 ps[i0.toNat]!))∧((c26 ps[i0.toNat]!).length=(2:Nat))∧(0≤kx)∧((List.map c3 ps[i0.toNat]!.vec)[kx.toNat]?=some (c3 ps[i0.toNat]!.vec[kx.toNat]!))∧((c3 ps[i0.toNat]!.vec[kx.toNat]!).length=(1:Nat))∧(3=(3:Nat))∧((1:Nat)=1)∧([AV.i .i64 (0:Int)].length=(1:Nat))∧(∀(r:List AV),r∈List.map c3 [ps[i0.toNat]!.vec[kx.toNat]!]→r.length=1)∧((List.map c3 (B11 kx.toNat)).length+(List.map c3 [ps[i0.toNat]!.vec[kx.toNat]!]).length≤maxLen)∧(((List.map c3 (B11 kx.toNat)).length+(List.map c3 [ps[i0.toNat]!.vec[kx.toNat]!]).length)*(8:Nat)≤(140737488355328:Nat))∧(List.map c3 (B11 kx.toNat)++List.map c3 [ps[i0.toNat]!.vec[kx.toNat]!]=List.map c3 (B11 kx.toNat++[ps[i0.toNat]!.vec[kx.toNat]!]))∧(0≤kx)∧(kx <(↑(16:Nat):Int))) cx (fun kx=>[(6,{ row:=(c26 ps[i0.toNat]!) }),(10,{ row:=(c3 ps[i0.toNat]!.vec[kx.toNat]!) }),(13,{ rows:=some (List.map c3 (B11 kx.toNat++[ps[i0.toNat]!.vec[kx.toNat]!])) })]) [0,2,3,4,5,6] ([2,3,4]++List.range' 100300 16++List.range' 100400 16) (j9) (by(with_reducible assumption)) (by omega) (by kernel_rfl) (by kernel_rfl) ⟨(by show _=_;kernel_rfl),(by show _=_;kernel_rfl),(by show _=_;kernel_rfl),(by show _=_;kernel_rfl),(by show _=_;kernel_rfl),(by show _=_;kernel_rfl),(by show _=_;kernel_rfl),(by show _=_;kernel_rfl),(by show _=_;kernel_rfl),(by show _=_;kernel_rfl),(by show _=_;kernel_rfl),(by show _=_;kernel_rfl),(by show _=_;kernel_rfl),(by show _=_;kernel_rfl),(by show _=_;kernel_rfl),(by show _=_;kernel_rfl)⟩ ⟨(by(with_reducible assumption)),(by omega),(by(with_reducible assumption)),(by(with_reducible refine F7 ?_;omega)),(by kernel_rfl),(by(with_reducible assumption)),(by(with_reducible refine F7 ?_;omega)),(by kernel_rfl),(by kernel_rfl),(by kernel_rfl),(by kernel_rfl),(by(with_reducible refine O4 (fun _=>?_) _;kernel_rfl)),?g4,?g5,(by(with_reducible refine A06 ?_;kernel_rfl)),(by(with_reducible assumption)),(by omega)⟩ ?_;rotate_left 2
  refine bN<|sn<|rG cx [0,2,3,4,5,6] ([2,3,4]++List.range' 100300 16++List.range' 100400 16) (tW 1 (j9+1) z0)<|sn<|nX ((j9+1,L4 A10 j9.toNat (A10 j9.toNat++[(1:Int)]),L4 B11 j9.toNat (B11 j9.toNat++[ps[i0.toNat]!.vec[j9.toNat]!]))) (show((↑ps[i0.toNat]!.vec.length:Int)-(j9+1)).toNat <((↑ps[i0.toNat]!.vec.length:Int)-j9).toNat from(by omega)) (show Bm4 ps i0 (j9+1) (L4 A10 j9.toNat (A10 j9.toNat++[(1:Int)])) (L4 B11 j9.toNat (B11 j9.toNat++[ps[i0.toNat]!.vec[j9.toNat]!]))from ?g6);rotate_left
  refine eX 2<|nE<|nE<|bH<|sn<|sq<|rG cx [0,2,3,4,5,7] ([2,3,4]++List.range' 100300 16++List.range' 100400 16) z0<|sn<|bL 4<|sL (X:=Int×(Nat→List Int)×(Nat→List Int)) (fun x=>⟨[(0,.sl (List.map c26 ps)),(2,.ptr (2) (0) (0) (0)),(3,.ptr (3) (0) (0) (0)),(4,.ptr (4) (0) (0) (0)),(5,.i .i64 (i0)),(7,.i .i64 (x.1))],[(2,⟨0,177,.var [.nl,.nl,.nl,.nl,.nl,.nl,.nl,.nl,.nl,.nl,.nl,.nl,.nl,.nl,.nl,.nl]⟩),(3,⟨0,175,.var (G6 100300 16)⟩),(4,⟨0,175,.var (G6 100400 16)⟩)]++C3 100300 3 1 16 (c3) (x.2.1)++C3 100400 3 1 16 (c3) (x.2.2)⟩) (fun x ↦ decMc ps i0 x.1 x.2.1 x.2.2) (fun x ↦ B8o ps i0 x.1 x.2.1 x.2.2) [0,2,3,4,5,7] ([2,3,4]++List.range' 100300 16++List.range' 100400 16) (((0:Int),A10,B11)) (show B8o ps i0 (0:Int) A10 B11 from ?g7) ?_;rotate_left
  rintro⟨j21,A22,B23⟩ h_24
  obtain⟨h25,h26,h27,h28⟩:0≤j21∧j21≤(↑ps[i0.toNat]!.cloud.length:Int)∧Aa1 A22 B23∧Q6 ps i0 j21 (zT A22 B23):=h_24
  refine sq<|rD cx [0,2,3,4,5,7,60] ([2,3,4]++List.range' 100300 16++List.range' 100400 16) (fA (0≤i0) (fG c26 ps i0.toNat (fR 2 (tL 6 B5 ps[i0.toNat]!.cloud (oR 3 (c26 ps[i0.toNat]!) (zB 7 (j21 <(↑ps[i0.toNat]!.cloud.length:Int)))))))) (fun h29=>?_) fun h29=>?_
  refine sK<|sn<|sq<|bL 5<|sq<|rG cx [0,2,3,4,5,7,8] ([2,3,4]++List.range' 100300 16++List.range' 100400 16++[8]) (fA (0≤i0) (fG c26 ps i0.toNat (fR 2 (fA (0≤j21) (fG B5 ps[i0.toNat]!.cloud j21.toNat (fR 3 (fN 3 3 (oR 2 (c26 ps[i0.toNat]!) (oR 6 (B5 ps[i0.toNat]!.cloud[j21.toNat]!) z0)))))))))<|sn<|sq<|B3 (σ':=⟨[(0,.sl (List.map c26 ps)),(2,.ptr (2) (0) (0) (0)),(3,.ptr (3) (0) (0) (0)),(4,.ptr (4) (0) (0) (0)),(5,.i .i64 (i0)),(7,.i .i64 (j21)),(8,.ptr (8) (0) (0) (0)),(78,.b (decide (0≤ps[i0.toNat]!.cloud[j21.toNat]!.rep∧ps[i0.toNat]!.cloud[j21.toNat]!.rep <(16:Int))))],[(2,⟨0,177,.var [.nl,.nl,.nl,.nl,.nl,.nl,.nl,.nl,.nl,.nl,.nl,.nl,.nl,.nl,.nl,.nl]⟩),(3,⟨0,175,.var (G6 100300 16)⟩),(4,⟨0,175,.var (G6 100400 16)⟩)]++C3 100300 3 1 16 (c3) (A22)++C3 100400 3 1 16 (c3) (B23)++[(8,⟨0,109,.var [.i .i64 (ps[i0.toNat]!.cloud[j21.toNat]!.rep),.i .i64 (ps[i0.toNat]!.cloud[j21.toNat]!.lo),.i .i64 (ps[i0.toNat]!.cloud[j21.toNat]!.hi)]⟩)]⟩) ?_ ?_
  refine A4 (0≤ps[i0.toNat]!.cloud[j21.toNat]!.rep) (fun h_31=>?_) (fun h_31=>?_)
  refine rG cx [0,2,3,4,5,7,8,78] ([2,3,4]++List.range' 100300 16++List.range' 100400 16++[8]) (tT 2 (A3 h_31) (tB 6 (ps[i0.toNat]!.cloud[j21.toNat]!.rep <(16:Int)) (tD 7 (decide (ps[i0.toNat]!.cloud[j21.toNat]!.rep <(16:Int))) (0≤ps[i0.toNat]!.cloud[j21.toNat]!.rep∧ps[i0.toNat]!.cloud[j21.toNat]!.rep <(16:Int)) (by simp only [eq_true h_31,tsl]) z0))) ?_
  exact⟨rfl,by kernel_rfl⟩
  refine rG cx [0,2,3,4,5,7,8,78] ([2,3,4]++List.range' 100300 16++List.range' 100400 16++[8]) (tT 2 (A0 h_31) (tD 7 false (0≤ps[i0.toNat]!.cloud[j21.toNat]!.rep∧ps[i0.toNat]!.cloud[j21.toNat]!.rep <(16:Int)) (by simp only [eq_false h_31,tsl]) z0)) ?_
  exact⟨rfl,by kernel_rfl⟩
  refine sn<|dC (0≤ps[i0.toNat]!.cloud[j21.toNat]!.rep∧ps[i0.toNat]!.cloud[j21.toNat]!.rep <(16:Int)) (fun h32=>?_) fun h32=>?_
  refine sq<|A0k (F:=fun kx=>⟨[(0,.sl (List.map c26 ps)),(2,.ptr (2) (0) (0) (0)),(3,.ptr (3) (0) (0) (0)),(4,.ptr (4) (0) (0) (0)),(5,.i .i64 (i0)),(7,.i .i64 (j21)),(8,.ptr (8) (0) (0) (0)),(78,.b (decide (0≤kx∧kx <(16:Int))))],[(2,⟨0,177,.var [.nl,.nl,.nl,.nl,.nl,.nl,.nl,.nl,.nl,.nl,.nl,.nl,.nl,.nl,.nl,.nl]⟩),(3,⟨0,175,.var (G6 100300 16)⟩),(4,⟨0,175,.var (G6 100400 16)⟩)]++C3 100300 3 1 16 (c3) (A22)++C3 100400 3 1 16 (c3) (B23)++[(8,⟨0,109,.var [.i .i64 (kx),.i .i64 (ps[i0.toNat]!.cloud[j21.toNat]!.lo),.i .i64 (ps[i0.toNat]!.cloud[j21.toNat]!.hi)]⟩)]⟩) (G:=fun kx=>⟨[(0,.sl (List.map c26 ps)),(2,.ptr (2) (0) (0) (0)),(3,.ptr (3) (0) (0) (0)),(4,.ptr (4) (0) (0) (0)),(5,.i .i64 (i0)),(7,.i .i64 (j21)),(8,.ptr (8) (0) (0) (0))],[(2,⟨0,177,.var [.nl,.nl,.nl,.nl,.nl,.nl,.nl,.nl,.nl,.nl,.nl,.nl,.nl,.nl,.nl,.nl]⟩),(3,⟨0,175,.var (G6 100300 16)⟩),(4,⟨0,175,.var (G6 100400 16)⟩)]++C3 100300 3 1 16 (c3) (L4 A22 kx.toNat (A22 kx.toNat++[ps[i0.toNat]!.cloud[j21.toNat]!.lo]))++C3 100400 3 1 16 (c3) (B23)++[(8,⟨0,109,.var [.i .i64 (kx),.i .i64 (ps[i0.toNat]!.cloud[j21.toNat]!.lo),.i .i64 (ps[i0.toNat]!.cloud[j21.toNat]!.hi)]⟩)]⟩) (A:=fun kx=>(0≤kx)∧(kx <(↑(16:Nat):Int))∧(3=(3:Nat))∧((1:Nat)=1)∧([AV.i .i64 (0:Int)].length=(1:Nat))∧(∀(r:List AV),r∈List.map c3 [ps[i0.toNat]!.cloud[j21.toNat]!.lo]→r.length=1)∧((List.map c3 (A22 kx.toNat)).length+(List.map c3 [ps[i0.toNat]!.cloud[j21.toNat]!.lo]).length≤maxLen)∧(((List.map c3 (A22 kx.toNat)).length+(List.map c3 [ps[i0.toNat]!.cloud[j21.toNat]!.lo]).length)*(8:Nat)≤(140737488355328:Nat))∧(List.map c3 (A22 kx.toNat)++List.map c3 [ps[i0.toNat]!.cloud[j21.toNat]!.lo]=List.map c3 (A22 kx.toNat++[ps[i0.toNat]!.cloud[j21.toNat]!.lo]))∧(0≤kx)∧(kx <(↑(16:Nat):Int))) cx (fun kx=>[(9,{ rows:=some (List.map c3 (A22 kx.toNat++[ps[i0.toNat]!.cloud[j21.toNat]!.lo])) })]) [0,2,3,4,5,7,8] ([2,3,4]++List.range' 100300 16++List.range' 100400 16++[8]) (ps[i0.toNat]!.cloud[j21.toNat]!.rep) (by omega) (by omega) (by kernel_rfl) (by kernel_rfl) ⟨(by show _=_;kernel_rfl),(by show _=_;kernel_rfl),(by show _=_;kernel_rfl),(by show _=_;kernel_rfl),(by show _=_;kernel_rfl),(by show _=_;kernel_rfl),(by show _=_;kernel_rfl),(by show _=_;kernel_rfl),(by show _=_;kernel_rfl),(by show _=_;kernel_rfl),(by show _=_;kernel_rfl),(by show _=_;kernel_rfl),(by show _=_;kernel_rfl),(by show _=_;kernel_rfl),(by show _=_;kernel_rfl),(by show _=_;kernel_rfl)⟩ ⟨(by omega),(by omega),(by kernel_rfl),(by kernel_rfl),(by kernel_rfl),(by(with_reducible refine O4 (fun _=>?_) _;kernel_rfl)),?g8,?g9,(by(with_reducible refine A06 ?_;kernel_rfl)),(by omega),(by omega)⟩ ?_;rotate_left 2
  refine sn<|A0k (F:=fun kx=>⟨[(0,.sl (List.map c26 ps)),(2,.ptr (2) (0) (0) (0)),(3,.ptr (3) (0) (0) (0)),(4,.ptr (4) (0) (0) (0)),(5,.i .i64 (i0)),(7,.i .i64 (j21)),(8,.ptr (8) (0) (0) (0))],[(2,⟨0,177,.var [.nl,.nl,.nl,.nl,.nl,.nl,.nl,.nl,.nl,.nl,.nl,.nl,.nl,.nl,.nl,.nl]⟩),(3,⟨0,175,.var (G6 100300 16)⟩),(4,⟨0,175,.var (G6 100400 16)⟩)]++C3 100300 3 1 16 (c3) (L4 A22 kx.toNat (A22 kx.toNat++[ps[i0.toNat]!.cloud[j21.toNat]!.lo]))++C3 100400 3 1 16 (c3) (B23)++[(8,⟨0,109,.var [.i .i64 (kx),.i .i64 (ps[i0.toNat]!.cloud[j21.toNat]!.lo),.i .i64 (ps[i0.toNat]!.cloud[j21.toNat]!.hi)]⟩)]⟩) (G:=fun kx=>⟨[(0,.sl (List.map c26 ps)),(2,.ptr (2) (0) (0) (0)),(3,.ptr (3) (0) (0) (0)),(4,.ptr (4) (0) (0) (0)),(5,.i .i64 (i0)),(7,.i .i64 (j21))],[(2,⟨0,177,.var [.nl,.nl,.nl,.nl,.nl,.nl,.nl,.nl,.nl,.nl,.nl,.nl,.nl,.nl,.nl,.nl]⟩),(3,⟨0,175,.var (G6 100300 16)⟩),(4,⟨0,175,.var (G6 100400 16)⟩)]++C3 100300 3 1 16 (c3) (L4 A22 kx.toNat (A22 kx.toNat++[ps[i0.toNat]!.cloud[j21.toNat]!.lo]))++C3 100400 3 1 16 (c3) (L4 B23 kx.toNat (B23 kx.toNat++[ps[i0.toNat]!.cloud[j21.toNat]!.hi]))⟩) (A:=fun kx=>(0≤kx)∧(kx <(↑(16:Nat):Int))∧(3=(3:Nat))∧((1:Nat)=1)∧([AV.i .i64 (0:Int)].length=(1:Nat))∧(∀(r:List AV),r∈List.map c3 [ps[i0.toNat]!.cloud[j21.toNat]!.hi]→r.length=1)∧((List.map c3 (B23 kx.toNat)).length+(List.map c3 [ps[i0.toNat]!.cloud[j21.toNat]!.hi]).length≤maxLen)∧(((List.map c3 (B23 kx.toNat)).length+(List.map c3 [ps[i0.toNat]!.cloud[j21.toNat]!.hi]).length)*(8:Nat)≤(140737488355328:Nat))∧(List.map c3 (B23 kx.toNat)++List.map c3 [ps[i0.toNat]!.cloud[j21.toNat]!.hi]=List.map c3 (B23 kx.toNat++[ps[i0.toNat]!.cloud[j21.toNat]!.hi]))∧(0≤kx)∧(kx <(↑(16:Nat):Int))) cx (fun kx=>[(9,{ rows:=some (List.map c3 (B23 kx.toNat++[ps[i0.toNat]!.cloud[j21.toNat]!.hi])) })]) [0,2,3,4,5,7] ([2,3,4]++List.range' 100300 16++List.range' 100400 16) (ps[i0.toNat]!.cloud[j21.toNat]!.rep) (by omega) (by omega) (by kernel_rfl) (by kernel_rfl) ⟨(by show _=_;kernel_rfl),(by show _=_;kernel_rfl),(by show _=_;kernel_rfl),(by show _=_;kernel_rfl),(by show _=_;kernel_rfl),(by show _=_;kernel_rfl),(by show _=_;kernel_rfl),(by show _=_;kernel_rfl),(by show _=_;kernel_rfl),(by show _=_;kernel_rfl),(by show _=_;kernel_rfl),(by show _=_;kernel_rfl),(by show _=_;kernel_rfl),(by show _=_;kernel_rfl),(by show _=_;kernel_rfl),(by show _=_;kernel_rfl)⟩ ⟨(by omega),(by omega),(by kernel_rfl),(by kernel_rfl),(by kernel_rfl),(by(with_reducible refine O4 (fun _=>?_) _;kernel_rfl)),?g10,?g11,(by(with_reducible refine A06 ?_;kernel_rfl)),(by omega),(by omega)⟩ ?_;rotate_left 2
  refine bN<|sn<|rG cx [0,2,3,4,5,7] ([2,3,4]++List.range' 100300 16++List.range' 100400 16) (tT 1 (B7 (by omega) ?g12:AV.i .i64 (IntKind.i64.wrap (j21+1))=AV.i .i64 (j21+1)) z0) ?_;rotate_left
  refine sn<|nX ((j21+1,L4 A22 ps[i0.toNat]!.cloud[j21.toNat]!.rep.toNat (A22 ps[i0.toNat]!.cloud[j21.toNat]!.rep.toNat++[ps[i0.toNat]!.cloud[j21.toNat]!.lo]),L4 B23 ps[i0.toNat]!.cloud[j21.toNat]!.rep.toNat (B23 ps[i0.toNat]!.cloud[j21.toNat]!.rep.toNat++[ps[i0.toNat]!.cloud[j21.toNat]!.hi]))) (show((↑ps[i0.toNat]!.cloud.length:Int)-(j21+1)).toNat <((↑ps[i0.toNat]!.cloud.length:Int)-j21).toNat from(by omega)) (show B8o ps i0 (j21+1) (L4 A22 ps[i0.toNat]!.cloud[j21.toNat]!.rep.toNat (A22 ps[i0.toNat]!.cloud[j21.toNat]!.rep.toNat++[ps[i0.toNat]!.cloud[j21.toNat]!.lo])) (L4 B23 ps[i0.toNat]!.cloud[j21.toNat]!.rep.toNat (B23 ps[i0.toNat]!.cloud[j21.toNat]!.rep.toNat++[ps[i0.toNat]!.cloud[j21.toNat]!.hi]))from ?g13);rotate_left
  refine sK<|bN<|sn<|rG cx [0,2,3,4,5,7] ([2,3,4]++List.range' 100300 16++List.range' 100400 16) (tT 1 (B7 (by omega) ?g14:AV.i .i64 (IntKind.i64.wrap (j21+1))=AV.i .i64 (j21+1)) z0) ?_;rotate_left
  refine sn<|nX ((j21+1,A22,B23)) (show((↑ps[i0.toNat]!.cloud.length:Int)-(j21+1)).toNat <((↑ps[i0.toNat]!.cloud.length:Int)-j21).toNat from(by omega)) (show B8o ps i0 (j21+1) A22 B23 from ?g15);rotate_left
  refine eX 4<|nE<|nE<|bH<|bN<|sn<|rG cx [0,2,3,4,5] ([2,3,4]++List.range' 100300 16++List.range' 100400 16) (tW 1 (i0+1) z0)<|sn<|nX ((i0+1,A22,B23)) (show((↑ps.length:Int)-(i0+1)).toNat <((↑ps.length:Int)-i0).toNat from(by omega)) (show Bm3 ps (i0+1) A22 B23 from ?g16);rotate_left
  refine eX 0<|nE<|nE<|bH<|sn<|sq<|S5 (List.range' 100300 16) [0,2,3,4,5,14] ([2,3,4]++List.range' 100400 16) (σ':=⟨[(0,.sl (List.map c26 ps)),(2,.ptr (2) (0) (0) (0)),(3,.ptr (3) (0) (0) (0)),(4,.ptr (4) (0) (0) (0)),(5,.i .i64 (i0)),(14,.b (decide (i0 <(↑ps.length:Int))))],[(2,⟨0,177,.var [.nl,.nl,.nl,.nl,.nl,.nl,.nl,.nl,.nl,.nl,.nl,.nl,.nl,.nl,.nl,.nl]⟩),(3,⟨0,175,.var [.sl (List.map c3 (A1 (0))),.sl (List.map c3 (A1 (1))),.sl (List.map c3 (A1 (2))),.sl (List.map c3 (A1 (3))),.sl (List.map c3 (A1 (4))),.sl (List.map c3 (A1 (5))),.sl (List.map c3 (A1 (6))),.sl (List.map c3 (A1 (7))),.sl (List.map c3 (A1 (8))),.sl (List.map c3 (A1 (9))),.sl (List.map c3 (A1 (10))),.sl (List.map c3 (A1 (11))),.sl (List.map c3 (A1 (12))),.sl (List.map c3 (A1 (13))),.sl (List.map c3 (A1 (14))),.sl (List.map c3 (A1 (15)))]⟩),(4,⟨0,175,.var (G6 100400 16)⟩)]++C3 100400 3 1 16 (c3) (B2)⟩) (by kernel_rfl)<|I2 3 ⟨0,175,.var [.sl (List.map c3 (A1 (0))),.sl (List.map c3 (A1 (1))),.sl (List.map c3 (A1 (2))),.sl (List.map c3 (A1 (3))),.sl (List.map c3 (A1 (4))),.sl (List.map c3 (A1 (5))),.sl (List.map c3 (A1 (6))),.sl (List.map c3 (A1 (7))),.sl (List.map c3 (A1 (8))),.sl (List.map c3 (A1 (9))),.sl (List.map c3 (A1 (10))),.sl (List.map c3 (A1 (11))),.sl (List.map c3 (A1 (12))),.sl (List.map c3 (A1 (13))),.sl (List.map c3 (A1 (14))),.sl (List.map c3 (A1 (15)))]⟩ [.sl (List.map c3 (A1 (0))),.sl (List.map c3 (A1 (1))),.sl (List.map c3 (A1 (2))),.sl (List.map c3 (A1 (3))),.sl (List.map c3 (A1 (4))),.sl (List.map c3 (A1 (5))),.sl (List.map c3 (A1 (6))),.sl (List.map c3 (A1 (7))),.sl (List.map c3 (A1 (8))),.sl (List.map c3 (A1 (9))),.sl (List.map c3 (A1 (10))),.sl (List.map c3 (A1 (11))),.sl (List.map c3 (A1 (12))),.sl (List.map c3 (A1 (13))),.sl (List.map c3 (A1 (14))),.sl (List.map c3 (A1 (15)))] (E8 c3 16 A1) (σ':=⟨[(0,.sl (List.map c26 ps)),(2,.ptr (2) (0) (0) (0)),(3,.ptr (3) (0) (0) (0)),(4,.ptr (4) (0) (0) (0)),(5,.i .i64 (i0)),(14,.b (decide (i0 <(↑ps.length:Int))))],[(2,⟨0,177,.var [.nl,.nl,.nl,.nl,.nl,.nl,.nl,.nl,.nl,.nl,.nl,.nl,.nl,.nl,.nl,.nl]⟩),(3,⟨0,175,.arr (E8 c3 16 A1)⟩),(4,⟨0,175,.var (G6 100400 16)⟩)]++C3 100400 3 1 16 (c3) (B2)⟩) (by kernel_rfl) (by kernel_rfl) (by kernel_rfl) (by kernel_rfl) (ZLe.of_eq (by kernel_rfl)) (by kernel_rfl)<|S5 (List.range' 100400 16) [0,2,3,4,5,14] [2,3,4] (σ':=⟨[(0,.sl (List.map c26 ps)),(2,.ptr (2) (0) (0) (0)),(3,.ptr (3) (0) (0) (0)),(4,.ptr (4) (0) (0) (0)),(5,.i .i64 (i0)),(14,.b (decide (i0 <(↑ps.length:Int))))],[(2,⟨0,177,.var [.nl,.nl,.nl,.nl,.nl,.nl,.nl,.nl,.nl,.nl,.nl,.nl,.nl,.nl,.nl,.nl]⟩),(3,⟨0,175,.arr (E8 c3 16 A1)⟩),(4,⟨0,175,.var [.sl (List.map c3 (B2 (0))),.sl (List.map c3 (B2 (1))),.sl (List.map c3 (B2 (2))),.sl (List.map c3 (B2 (3))),.sl (List.map c3 (B2 (4))),.sl (List.map c3 (B2 (5))),.sl (List.map c3 (B2 (6))),.sl (List.map c3 (B2 (7))),.sl (List.map c3 (B2 (8))),.sl (List.map c3 (B2 (9))),.sl (List.map c3 (B2 (10))),.sl (List.map c3 (B2 (11))),.sl (List.map c3 (B2 (12))),.sl (List.map c3 (B2 (13))),.sl (List.map c3 (B2 (14))),.sl (List.map c3 (B2 (15)))]⟩)]⟩) (by kernel_rfl) ?_
  refine I2 4 ⟨0,175,.var [.sl (List.map c3 (B2 (0))),.sl (List.map c3 (B2 (1))),.sl (List.map c3 (B2 (2))),.sl (List.map c3 (B2 (3))),.sl (List.map c3 (B2 (4))),.sl (List.map c3 (B2 (5))),.sl (List.map c3 (B2 (6))),.sl (List.map c3 (B2 (7))),.sl (List.map c3 (B2 (8))),.sl (List.map c3 (B2 (9))),.sl (List.map c3 (B2 (10))),.sl (List.map c3 (B2 (11))),.sl (List.map c3 (B2 (12))),.sl (List.map c3 (B2 (13))),.sl (List.map c3 (B2 (14))),.sl (List.map c3 (B2 (15)))]⟩ [.sl (List.map c3 (B2 (0))),.sl (List.map c3 (B2 (1))),.sl (List.map c3 (B2 (2))),.sl (List.map c3 (B2 (3))),.sl (List.map c3 (B2 (4))),.sl (List.map c3 (B2 (5))),.sl (List.map c3 (B2 (6))),.sl (List.map c3 (B2 (7))),.sl (List.map c3 (B2 (8))),.sl (List.map c3 (B2 (9))),.sl (List.map c3 (B2 (10))),.sl (List.map c3 (B2 (11))),.sl (List.map c3 (B2 (12))),.sl (List.map c3 (B2 (13))),.sl (List.map c3 (B2 (14))),.sl (List.map c3 (B2 (15)))] (E8 c3 16 B2) (σ':=⟨[(0,.sl (List.map c26 ps)),(2,.ptr (2) (0) (0) (0)),(3,.ptr (3) (0) (0) (0)),(4,.ptr (4) (0) (0) (0)),(5,.i .i64 (i0)),(14,.b (decide (i0 <(↑ps.length:Int))))],[(2,⟨0,177,.var [.nl,.nl,.nl,.nl,.nl,.nl,.nl,.nl,.nl,.nl,.nl,.nl,.nl,.nl,.nl,.nl]⟩),(3,⟨0,175,.arr (E8 c3 16 A1)⟩),(4,⟨0,175,.arr (E8 c3 16 B2)⟩)]⟩) (by kernel_rfl) (by kernel_rfl) (by kernel_rfl) (by kernel_rfl) (ZLe.of_eq (by kernel_rfl)) (by kernel_rfl)<|rG cx [2,3,4,9] [2,3,4,9] z0<|sn<|sq<|sq<|rG cx [2,3,4,9,10] [2,3,4,9] z0<|sn<|bL 6<|I2 9 ⟨0,177,.var [.nl,.nl,.nl,.nl,.nl,.nl,.nl,.nl,.nl,.nl,.nl,.nl,.nl,.nl,.nl,.nl]⟩ [.nl,.nl,.nl,.nl,.nl,.nl,.nl,.nl,.nl,.nl,.nl,.nl,.nl,.nl,.nl,.nl] (E8 c3 16 fun x ↦ []) (σ':=⟨[(2,.ptr (2) (0) (0) (0)),(3,.ptr (3) (0) (0) (0)),(4,.ptr (4) (0) (0) (0)),(9,.ptr (9) (0) (0) (0)),(10,.i .i64 ((0:Int)))],[(2,⟨0,177,.var [.nl,.nl,.nl,.nl,.nl,.nl,.nl,.nl,.nl,.nl,.nl,.nl,.nl,.nl,.nl,.nl]⟩),(3,⟨0,175,.arr (E8 c3 16 A1)⟩),(4,⟨0,175,.arr (E8 c3 16 B2)⟩),(9,⟨0,177,.arr (E8 c3 16 fun x ↦ [])⟩)]⟩) (by kernel_rfl) (by kernel_rfl) (by kernel_rfl) (by kernel_rfl) (B2n c3 16) (by kernel_rfl)<|sL (X:=Int×(Nat→List Int)×(Nat→List Int)×(Nat→List Int)) (fun x=>⟨[(2,.ptr (2) (0) (0) (0)),(3,.ptr (3) (0) (0) (0)),(4,.ptr (4) (0) (0) (0)),(9,.ptr (9) (0) (0) (0)),(10,.i .i64 (x.1))],[(2,⟨0,177,.var [.nl,.nl,.nl,.nl,.nl,.nl,.nl,.nl,.nl,.nl,.nl,.nl,.nl,.nl,.nl,.nl]⟩),(3,⟨0,175,.arr (E8 c3 16 x.2.1)⟩),(4,⟨0,175,.arr (E8 c3 16 x.2.2.1)⟩),(9,⟨0,177,.arr (E8 c3 16 x.2.2.2)⟩)]⟩) (fun x ↦ decMd x.1 x.2.1 x.2.2.1 x.2.2.2) (fun x ↦ Bm5 A1 B2 x.1 x.2.1 x.2.2.1 x.2.2.2) [2,3,4,9,10] [2,3,4,9] (((0:Int),A1,B2,fun x ↦ [])) (show Bm5 A1 B2 (0:Int) A1 B2 fun x ↦ []from ?g17) ?_;rotate_left
  rintro⟨r33,A34,B35,S36⟩ h_37
  obtain⟨h38,h39,h40,h41,h42⟩:A34=A1∧B35=B2∧0≤r33∧r33≤16∧Ax1 (zT A1 B2) r33 S36:=h_37
  refine sq<|rD cx [2,3,4,9,10,102] [2,3,4,9] (zB 1 (r33 <(16:Int))) (fun h43=>?_) fun h43=>?_
  refine sK<|sn<|sq<|bL 7 ?_
  have hl_44:=(X7 (A6v (A34 r33.toNat) (B35 r33.toNat)))
  refine rA cx [2,3,4,9,10] [2,3,4,9] (fA (0≤r33) (fO (r33 <(↑(16:Nat):Int)) (fP ((E8 c3 16 A34)[r33.toNat*(1:Nat)+0]?=some (AV.sl (List.map c3 (A34 r33.toNat)))) (by((try simp only [Nat.mul_one,Nat.add_zero,Nat.zero_add]);with_reducible refine E7 ?_;omega)) (fA (0≤r33) (fO (r33 <(↑(16:Nat):Int)) (fP ((E8 c3 16 B35)[r33.toNat*(1:Nat)+0]?=some (AV.sl (List.map c3 (B35 r33.toNat)))) (by((try simp only [Nat.mul_one,Nat.add_zero,Nat.zero_add]);with_reducible refine E7 ?_;omega)) (fT (con204 (A34 r33.toNat) (B35 r33.toNat) ?g18 ?g19) (fA (0≤r33) (fO (r33 <(↑(16:Nat):Int)) (fP (r33.toNat*(1:Nat)+0 <(E8 c3 16 S36).length) ?g20 (fR [(E0 (AV.sl (List.map c3 (D3 (nrm (A6v (A34 r33.toNat) (B35 r33.toNat))))))).headD AV.dead] (fP ((E8 c3 16 S36).set (r33.toNat*(1:Nat)+0) ((E0 (AV.sl (List.map c3 (D3 (nrm (A6v (A34 r33.toNat) (B35 r33.toNat))))))).headD AV.dead)=E8 c3 16 (L4 S36 r33.toNat (D3 (nrm (A6v (A34 r33.toNat) (B35 r33.toNat)))))) (by((try simp only [Nat.mul_one,Nat.add_zero,Nat.zero_add]);(with_reducible refine A51 ?_);exact Eq.refl _)) (oR 3 [.sl (List.map c3 (A34 r33.toNat))] (oR 6 [.sl (List.map c3 (B35 r33.toNat))] (oA 7 (.sl (List.map c3 (D3 (nrm (A6v (A34 r33.toNat) (B35 r33.toNat)))))) (oV 10 { rows:=some [(E8 c3 16 (L4 S36 r33.toNat (D3 (nrm (A6v (A34 r33.toNat) (B35 r33.toNat))))))] } z0)))))))))))))))) ?_;rotate_left 3
  refine bN<|sn<|rG cx [2,3,4,9,10] [2,3,4,9] (tW 1 (r33+1) z0)<|sn<|nX ((r33+1,A34,B35,L4 S36 r33.toNat (D3 (nrm (A6v (A34 r33.toNat) (B35 r33.toNat)))))) (show(16-(r33+1)).toNat <(16-r33).toNat from(by omega)) (show Bm5 A1 B2 (r33+1) A34 B35 (L4 S36 r33.toNat (D3 (nrm (A6v (A34 r33.toNat) (B35 r33.toNat)))))from ?g21);rotate_left
  refine eX 6<|nE<|nE<|bH<|sn<|sq<|rG cx [2] [2] (fR 16 z0)<|sn<|rT<|qR (.agg [.sl (List.map c3 (S36 (0))),.sl (List.map c3 (S36 (1))),.sl (List.map c3 (S36 (2))),.sl (List.map c3 (S36 (3))),.sl (List.map c3 (S36 (4))),.sl (List.map c3 (S36 (5))),.sl (List.map c3 (S36 (6))),.sl (List.map c3 (S36 (7))),.sl (List.map c3 (S36 (8))),.sl (List.map c3 (S36 (9))),.sl (List.map c3 (S36 (10))),.sl (List.map c3 (S36 (11))),.sl (List.map c3 (S36 (12))),.sl (List.map c3 (S36 (13))),.sl (List.map c3 (S36 (14))),.sl (List.map c3 (S36 (15)))]) (.eq ?g22);rotate_left
  rotate_left
  revert i0 A1 B2 hh4 hh5 h6 h7 h8;rotate_left
  revert i0 A1 B2 hh4 hh5 h6 h7 h8 j9 A10 B11 h13 h14 h15 h16 h17 h20;rotate_left
  revert i0 A1 B2 hh4 hh5 h6 h7 h8 j9 A10 B11 h13 h14 h15 h16 h17 h20;rotate_left
  revert i0 A1 B2 hh4 hh5 h6 h7 h8 j9 A10 B11 h13 h14 h15 h16 h17 h20;rotate_left
  revert i0 A1 B2 hh4 hh5 h6 h7 h8 j9 A10 B11 h13 h14 h15 h16 h17 h20;rotate_left
  revert i0 A1 B2 hh4 hh5 h6 h7 h8 j9 A10 B11 h13 h14 h15 h16 h17 h20;rotate_left
  revert i0 A1 B2 hh4 hh5 h6 h7 h8 j9 A10 B11 h13 h14 h15 h16 h17 h20;rotate_left
  revert i0 A1 B2 hh4 hh5 h6 h7 h8 j9 A10 B11 h13 h14 h15 h16 h17 h20 j21 A22 B23 h25 h26 h27 h28 h29 h32;rotate_left
  revert i0 A1 B2 hh4 hh5 h6 h7 h8 j9 A10 B11 h13 h14 h15 h16 h17 h20 j21 A22 B23 h25 h26 h27 h28 h29 h32;rotate_left
  revert i0 A1 B2 hh4 hh5 h6 h7 h8 j9 A10 B11 h13 h14 h15 h16 h17 h20 j21 A22 B23 h25 h26 h27 h28 h29 h32;rotate_left
  revert i0 A1 B2 hh4 hh5 h6 h7 h8 j9 A10 B11 h13 h14 h15 h16 h17 h20 j21 A22 B23 h25 h26 h27 h28 h29 h32;rotate_left
  revert i0 A1 B2 hh4 hh5 h6 h7 h8 j9 A10 B11 h13 h14 h15 h16 h17 h20 j21 A22 B23 h25 h26 h27 h28 h29 h32;rotate_left
  revert i0 A1 B2 hh4 hh5 h6 h7 h8 j9 A10 B11 h13 h14 h15 h16 h17 h20 j21 A22 B23 h25 h26 h27 h28 h29 h32;rotate_left
  revert i0 A1 B2 hh4 hh5 h6 h7 h8 j9 A10 B11 h13 h14 h15 h16 h17 h20 j21 A22 B23 h25 h26 h27 h28 h29 h32;rotate_left
  revert i0 A1 B2 hh4 hh5 h6 h7 h8 j9 A10 B11 h13 h14 h15 h16 h17 h20 j21 A22 B23 h25 h26 h27 h28 h29 h32;rotate_left
  revert i0 A1 B2 hh4 hh5 h6 h7 h8 j9 A10 B11 h13 h14 h15 h16 h17 h20 j21 A22 B23 h25 h26 h27 h28 h29;rotate_left
  revert i0 A1 B2 hh4 hh5 h6 h7 h8;rotate_left
  clear hl_44;revert i0 A1 B2 hh4 hh5 h6 h7 h8 r33 A34 B35 S36 h38 h39 h40 h41 h42 h43;rotate_left
  clear hl_44;revert i0 A1 B2 hh4 hh5 h6 h7 h8 r33 A34 B35 S36 h38 h39 h40 h41 h42 h43;rotate_left
  clear hl_44;revert i0 A1 B2 hh4 hh5 h6 h7 h8 r33 A34 B35 S36 h38 h39 h40 h41 h42 h43;rotate_left
  clear hl_44;revert i0 A1 B2 hh4 hh5 h6 h7 h8 r33 A34 B35 S36 h38 h39 h40 h41 h42 h43;rotate_left
  revert i0 A1 B2 hh4 hh5 h6 h7 h8 r33 A34 B35 S36 h38 h39 h40 h41 h42 h43;rotate_left
  case g0=>exact⟨by omega,by omega,fun r _=>rfl,fun r _=>rfl⟩
  case g1=>intro i A B h0 h1 h3 h4 h5;exact⟨by omega,by omega,by omega,h3,A5a h4⟩
  case g6 =>
    intro i A B h0 h1 h3 h4 h5 j X Y k0 k1 k2 k4 k5 k6
    exact⟨by omega,by omega,by omega,Ai5 k4,fun r hr=>by rw[Bd9 (k4 _ (by omega))];exact A7w k0 k6.1 k5 r hr⟩
  case g7=>intro i A B h0 h1 h3 h4 h5 j X Y k0 k1 k2 k4 k5 k6;exact⟨by omega,by omega,k4,A5b (by omega) (by omega) k5⟩
  case g13 =>
    intro i A B h0 h1 h3 h4 h5 j X Y k0 k1 k2 k4 k5 k6 l V W m0 m1 m3 m4 m5 m6
    exact⟨by omega,by omega,Ai5 m3,fun r hr=>by rw[Bd9 (m3 _ (by omega))];exact Au9 m0 m5 m6 m4 r hr⟩
  case g15=>intro i A B h0 h1 h3 h4 h5 j X Y k0 k1 k2 k4 k5 k6 l V W m0 m1 m3 m4 m5 m6;exact⟨by omega,by omega,m3,Ag0 m0 m5 m6 m4⟩
  case g16=>intro i A B h0 h1 h3 h4 h5 j X Y k0 k1 k2 k4 k5 k6 l V W m0 m1 m3 m4 m5;exact⟨by omega,by omega,m3,Ag1 h0 h5 m5 m4⟩
  case g17=>intro i A B h0 h1 h3 h4 h5;exact⟨rfl,rfl,by omega,by omega,fun k hk=>by omega⟩
  case g18=>intro i A B h0 h1 h3 h4 h5 r X Y S k0 k1 k2 k3 k4 k5;subst k0 k1;exact h3 _ (by omega)
  case g19 =>
    intro i A B h0 h1 h3 h4 h5 r X Y S k0 k1 k2 k3 k4 k5
    subst k0 k1
    have:=B4j h3 (r:=r.toNat) (by omega)
    have:=Q7 r.toNat (ps.take i.toNat)
    rw[h4 _ (by omega)]at *
    rw[List.take_of_length_le (by omega)]at *
    omega
  case g20=>intro i A B h0 h1 h3 h4 h5 r X Y S k0 k1 k2 k3 k4 k5;rw[S7];omega
  case g21=>intro i A B h0 h1 h3 h4 h5 r X Y S k0 k1 k2 k3 k4 k5;subst k0 k1;exact⟨rfl,rfl,by omega,by omega,Ap8 k2 k4⟩
  case g22 =>
    intro i A B h0 h1 h3 h4 h5 r X Y S k0 k1 k2 k3 k4 k5
    congr 1
    show E8 c3 16 S=E8 c3 16 _
    unfold E8
    refine List.map_congr_left fun q hq=>?_
    have hq:q < 16:=by simpa using hq
    rw[k4 q (by omega)]
    unfold tnS E4
    rw[h4 q hq,List.take_of_length_le (by omega)]
  all_goals
    intro i A B h0 h1 h3 h4 h5 j X Y k0 k1 k2 k4 k5 k6
    first
    | (have l1 := A5c h0 h5 k5 (r := j.toNat) (by omega) (by omega)
       have l2:=B4j k4 (r:=j.toNat) (by omega)
       simp only [List.length_map,List.length_cons,List.length_nil,Go.maxLen]
       omega)
    | (intro l V W m0 m1 m3 m4 m5 m6
       have l0:=V9 h0 h5 m0 m5 m4 (r:=0) (by omega)
       first
       | omega
       | (have l1 := V9 h0 h5 m0 m5 m4 (r := ((ps[i.toNat]!).cloud[l.toNat]!).rep.toNat) (by omega)
          have l2:=B4j m3 (r:=((ps[i.toNat]!).cloud[l.toNat]!).rep.toNat) (by omega)
          simp only [List.length_map,List.length_cons,List.length_nil,Go.maxLen]
          omega))
end Go.Proofs.YtokhjapfekbobaaGreat
namespace Go.Proofs.YtokhjapfekbobaaGreat
open Go.E
set_option maxRecDepth 100000
set_option maxHeartbeats 4000000
def Bm6(U:Nat→List Run)(n r:Int)(S:Nat→List Int)(v:List Int)(c:List Span):Prop:=S=tnS U∧0≤r∧r≤16∧0≤n∧n≤r∧v.length=16∧B37 U r n∧A1j U r v∧K7 U r c
def decFa(n r:Int)(S:Nat→List Int)(v:List Int)(c:List Span):Nat:=(16-r).toNat
def B12(U:Nat→List Run)(r n0:Int)(v0:List Int)(c0:List Span)(k n:Int)(v:List Int)(c:List Span):Prop :=
 n=(if 0 <(C1 ((U r.toNat).take (k / 2).toNat)).1 then r+1 else n0)∧v=v0.set r.toNat (C1 ((U r.toNat).take (k / 2).toNat)).1∧c=c0++(C1 ((U r.toNat).take (k / 2).toNat)).2.map fun x=>(⟨r,x.lo,x.hi⟩:Span)
def B8p(U:Nat→List Run)(r n0:Int)(v0:List Int)(c0:List Span)(n k:Int)(S:Nat→List Int)(v:List Int)(c:List Span):Prop:=S=tnS U∧0≤k∧k≤2*(U r.toNat).length∧2*(k / 2)=k∧v.length=16∧0≤n∧n≤r+1∧B12 U r n0 v0 c0 k n v c
def decFb(U:Nat→List Run)(r:Int)(n k:Int)(S:Nat→List Int)(v:List Int)(c:List Span):Nat:=(2*(U r.toNat).length-k).toNat
theorem A5x(l:List Run):(D3 l).length=2*l.length:=by
 induction l with
 | nil=>rfl
 | cons r l ih =>
  have:D3 (r :: l)=r.lo ::(r.hi+1) :: D3 l:=rfl
  rw[this];simp only [List.length_cons,ih];omega
theorem Ax2:∀ {l:List Run} {j:Nat},j < l.length→(D3 l)[2*j]! = l[j]!.lo∧(D3 l)[2*j+1]! = l[j]!.hi+1
 | r :: l,0,_=>⟨rfl,rfl⟩
 | r :: l,j+1,h=>by
  have e:D3 (r :: l)=r.lo ::(r.hi+1) :: D3 l:=rfl
  have ih:=Ax2 (l:=l) (j:=j) (by simpa using h)
  rw[e,show 2*(j+1)=2*j+1+1 by omega]
  simpa using ih
theorem B8q{x:Run}(h:x.lo=1):C1 [x]=(x.hi,[]):=by
 unfold C1
 rw[if_neg]
 ·rfl
 ·rintro(k | k)
  ·cases k
  ·exact k h
theorem B4k{P:List Run}{x:Run}(h:P=[]→¬ x.lo=1):C1 (P++[x])=((C1 P).1,(C1 P).2++[x]):=by
 cases P with
 | nil =>
  show C1 [x]=_
  unfold C1
  rw[if_pos (.inr (h rfl)),if_pos (.inl rfl)]
  rfl
 | cons y P =>
  unfold C1
  by_cases hy:y.lo=1
  ·rw[if_neg,if_neg]
   ·simp
   ·simpa using hy
   ·simpa using hy
  ·rw[if_pos,if_pos]
   ·simpa using hy
   ·simpa using hy
theorem B8r(P:List Run):(C1 P).2.length≤P.length:=by
 unfold C1
 split
 ·exact Nat.le_refl _
 ·simp
theorem B13{U:Nat→List Run}{r n0:Int}{v0:List Int}{c0:List Span}(h0:0≤r)(h1:r < 16)(hv:A1j U r v0):B12 U r n0 v0 c0 0 n0 v0 c0:=by
 unfold B12
 refine⟨?_,?_,?_⟩
 ·show n0=if(0:Int) <(C1 []).1 then _ else _
  rw[A2a,if_neg (by omega)]
 ·show v0=v0.set r.toNat (C1 []).1
  rw[A2a]
  unfold A1j A7r at hv
  have e:16-r.toNat=(15-r.toNat)+1:=by omega
  rw[hv,List.set_append_right _ _ (by simp),List.length_map,List.length_range,Nat.sub_self,e,List.replicate_succ,List.set_cons_zero]
 ·show c0=c0++List.map _ (C1 []).2
  rw[A2a];simp
theorem B4l{l:List Run}{k:Int}(h0:0≤k)(he:2*(k / 2)=k)(hk:k+1 < 2*l.length):l.take ((k+2) / 2).toNat=l.take (k / 2).toNat++[l[(k / 2).toNat]!]:=by
 have:=E1 (a:=l) (i:=k / 2) (by omega) (by omega)
 rw[show((k+2) / 2).toNat=(k / 2+1).toNat by omega,this]
theorem B8s{U:Nat→List Run}{r n0 n k:Int}{v0 v:List Int}{c0 c:List Span}(hU:N7 (U r.toNat))(h0:0≤k)(he:2*(k / 2)=k)(hk:k+1 < 2*(U r.toNat).length)(hlo:(U r.toNat)[(k / 2).toNat]!.lo=1)(h:B12 U r n0 v0 c0 k n v c) :
  B12 U r n0 v0 c0 (k+2) (r+1) (v.set r.toNat (U r.toNat)[(k / 2).toNat]!.hi) c:=by
 have h1:=Ao2 hU (k / 2).toNat (by omega)
 have h2:=hU.2 _ (E2 (l:=U r.toNat) (i:=(k / 2).toNat) (by omega))
 have hz:k=0:=by omega
 subst hz
 unfold B12 at *
 rw[B4l h0 he hk]
 obtain⟨a1,a2,a3⟩:=h
 have e:(U r.toNat).take ((0:Int) / 2).toNat=[]:=by simp
 rw[e]at a1 a2 a3 ⊢
 rw[List.nil_append,B8q hlo]
 rw[A2a]at a2 a3
 refine⟨?_,?_,?_⟩
 ·rw[if_pos (show(0:Int) <(U r.toNat)[((0:Int) / 2).toNat]!.hi by omega)]
 ·rw[a2,List.set_set]
 ·exact a3
theorem B4m{U:Nat→List Run}{r n0 n k:Int}{v0 v:List Int}{c0 c:List Span}(h0:0≤k)(he:2*(k / 2)=k)(hk:k+1 < 2*(U r.toNat).length)(hlo:¬(U r.toNat)[(k / 2).toNat]!.lo=1)(h:B12 U r n0 v0 c0 k n v c) :
  B12 U r n0 v0 c0 (k+2) n v (c++[⟨r,(U r.toNat)[(k / 2).toNat]!.lo,(U r.toNat)[(k / 2).toNat]!.hi⟩]):=by
 unfold B12 at *
 rw[B4l h0 he hk,B4k (fun _=>hlo)]
 obtain⟨a1,a2,a3⟩:=h
 refine⟨a1,a2,?_⟩
 rw[a3,List.map_append,List.append_assoc]
 rfl
theorem B8t{U:Nat→List Run}{r n0 n k:Int}{v0 v:List Int}{c0 c:List Span}(hU:N7 (U r.toNat))(r0:0≤r)(r1:r < 16)(hs:B37 U r n0)(hv:A1j U r v0)(hc:K7 U r c0)(h0:0≤k)(he:2*(k / 2)=k)(hk:¬ k+1 < 2*(U r.toNat).length)(hl:k≤2*(U r.toNat).length)
  (h:B12 U r n0 v0 c0 k n v c):B37 U (r+1) n∧A1j U (r+1) v∧K7 U (r+1) c:=by
 unfold B12 at h
 rw[List.take_of_length_le (by omega)]at h
 obtain⟨a1,a2,a3⟩:=h
 have g1:=Ao3 r0 hs
 have g2:=A98 r0 r1 hv
 rw[A5e hU]at g1 g2
 rw[a1,a2]
 refine⟨g1,g2,?_⟩
 unfold K7 at *
 rw[show(r+1).toNat=r.toNat+1 by omega,I9,X8,A5e hU,a3,hc,show((r.toNat:Nat):Int)=r by omega]
theorem Ai6{U:Nat→List Run}{r k:Int}(h0:0≤k)(he:2*(k / 2)=k)(hk:k+1 < 2*(U r.toNat).length):(tnS U r.toNat)[k.toNat]! =(U r.toNat)[(k / 2).toNat]!.lo∧(tnS U r.toNat)[(k+1).toNat]! =(U r.toNat)[(k / 2).toNat]!.hi+1:=by
 have:=Ax2 (l:=U r.toNat) (j:=(k / 2).toNat) (by omega)
 unfold tnS
 rw[show k.toNat=2*(k / 2).toNat by omega,show(k+1).toNat=2*(k / 2).toNat+1 by omega]
 exact this
theorem B8u{U:Nat→List Run}{r n0 n k:Int}{v0 v:List Int}{c0 c:List Span}(hU:N7 (U r.toNat))(r0:0≤r)(r1:r < 16)(hc:K7 U r c0)(h:B12 U r n0 v0 c0 k n v c):c.length≤8000000000:=by
 obtain⟨_,_,a3⟩:=h
 have h1:=A29 U r.toNat
 have h2:=B8r ((U r.toNat).take (k / 2).toNat)
 have h3:=N2 hU
 unfold K7 at hc
 rw[List.length_take]at h2
 rw[a3,List.length_append,List.length_map,hc]
 omega
theorem Be0 (U : Nat → List Run) (hU : ∀ r : Nat, r < 16 → N7 (U r)) : Con Tryz.prog 136 [.agg (Bt9 (tnS U))] (.agg (c26 (G1 U))) :=
  by
  refine sC A9 [.cell 2 26] 73 Tryz.func136 ?_
  intro e0 cx
  refine sq<|rG cx [1,2] [1,2] z0<|sn<|sq<|rG cx [1,2,3] [1,2,3] z0<|sn<|sq<|rG cx [1,2,3,4] [1,2,3,8] (fR (↑(16:Nat):Int) (fR (↑(16:Nat):Int) (fO ((8:Nat)*(16:Nat)≤(281474976710656:Nat)) (fP ((16:Nat)≤maxLen) (by(simp only [Go.maxLen];omega)) (fR 1 (fP (ZLe [AV.i .i64 (0:Int)] [AV.i .i64 (0:Int)]) (by(with_reducible exact ZLe.refl _)) (fP (List.replicate (16:Nat) [AV.i .i64 (0:Int)]=List.map c3 (List.replicate (16:Nat) (0:Int))) (by(with_reducible refine An2 ?_;kernel_rfl)) (oV 0 { row:=[.i .i64 ((0:Int))],rows:=some (List.map c3 (List.replicate (16:Nat) (0:Int))),n:=(16:Nat) } z0)))))))) ?_
  refine sn<|sq<|rG cx [1,2,3,4,5] [1,2,3,8] z0<|sn<|sq<|sq<|rG cx [1,2,3,4,5,6] [1,2,3,8] z0<|sn<|bL 0<|A7i 3 109 3 1 5301 (σ':=⟨[(1,.ptr (1) (0) (0) (0)),(2,.ptr (2) (0) (0) (0)),(3,.ptr (3) (0) (0) (0)),(4,.own 8 0),(5,.i .i64 ((0:Int))),(6,.i .i64 ((0:Int)))],[(1,⟨0,177,.var [.sl (List.map c3 (tnS U (0))),.sl (List.map c3 (tnS U (1))),.sl (List.map c3 (tnS U (2))),.sl (List.map c3 (tnS U (3))),.sl (List.map c3 (tnS U (4))),.sl (List.map c3 (tnS U (5))),.sl (List.map c3 (tnS U (6))),.sl (List.map c3 (tnS U (7))),.sl (List.map c3 (tnS U (8))),.sl (List.map c3 (tnS U (9))),.sl (List.map c3 (tnS U (10))),.sl (List.map c3 (tnS U (11))),.sl (List.map c3 (tnS U (12))),.sl (List.map c3 (tnS U (13))),.sl (List.map c3 (tnS U (14))),.sl (List.map c3 (tnS U (15)))]⟩),(2,⟨0,26,.var [.nl,.nl]⟩),(3,⟨0,26,.var [.nl,.own 5301 0]⟩),(8,⟨0,3,.row 1 (List.map c3 (List.replicate (16:Nat) (0:Int)))⟩),(5301,⟨0,109,.row 3 (List.map B5 [])⟩)]⟩) (by kernel_rfl)<|I2 1 ⟨0,177,.var [.sl (List.map c3 (tnS U (0))),.sl (List.map c3 (tnS U (1))),.sl (List.map c3 (tnS U (2))),.sl (List.map c3 (tnS U (3))),.sl (List.map c3 (tnS U (4))),.sl (List.map c3 (tnS U (5))),.sl (List.map c3 (tnS U (6))),.sl (List.map c3 (tnS U (7))),.sl (List.map c3 (tnS U (8))),.sl (List.map c3 (tnS U (9))),.sl (List.map c3 (tnS U (10))),.sl (List.map c3 (tnS U (11))),.sl (List.map c3 (tnS U (12))),.sl (List.map c3 (tnS U (13))),.sl (List.map c3 (tnS U (14))),.sl (List.map c3 (tnS U (15)))]⟩ [.sl (List.map c3 (tnS U (0))),.sl (List.map c3 (tnS U (1))),.sl (List.map c3 (tnS U (2))),.sl (List.map c3 (tnS U (3))),.sl (List.map c3 (tnS U (4))),.sl (List.map c3 (tnS U (5))),.sl (List.map c3 (tnS U (6))),.sl (List.map c3 (tnS U (7))),.sl (List.map c3 (tnS U (8))),.sl (List.map c3 (tnS U (9))),.sl (List.map c3 (tnS U (10))),.sl (List.map c3 (tnS U (11))),.sl (List.map c3 (tnS U (12))),.sl (List.map c3 (tnS U (13))),.sl (List.map c3 (tnS U (14))),.sl (List.map c3 (tnS U (15)))] (E8 c3 16 (tnS U)) (σ':=⟨[(1,.ptr (1) (0) (0) (0)),(2,.ptr (2) (0) (0) (0)),(3,.ptr (3) (0) (0) (0)),(4,.own 8 0),(5,.i .i64 ((0:Int))),(6,.i .i64 ((0:Int)))],[(1,⟨0,177,.arr (E8 c3 16 (tnS U))⟩),(2,⟨0,26,.var [.nl,.nl]⟩),(3,⟨0,26,.var [.nl,.own 5301 0]⟩),(8,⟨0,3,.row 1 (List.map c3 (List.replicate (16:Nat) (0:Int)))⟩),(5301,⟨0,109,.row 3 (List.map B5 [])⟩)]⟩) (by kernel_rfl) (by kernel_rfl) (by kernel_rfl) (by kernel_rfl) (ZLe.of_eq (by kernel_rfl)) (by kernel_rfl)<|sL (X:=Int×Int×(Nat→List Int)×List Int×List Span) (fun x=>⟨[(1,.ptr (1) (0) (0) (0)),(2,.ptr (2) (0) (0) (0)),(3,.ptr (3) (0) (0) (0)),(4,.own 8 0),(5,.i .i64 (x.1)),(6,.i .i64 (x.2.1))],[(1,⟨0,177,.arr (E8 c3 16 x.2.2.1)⟩),(2,⟨0,26,.var [.nl,.nl]⟩),(3,⟨0,26,.var [.nl,.own 5301 0]⟩),(8,⟨0,3,.row 1 (List.map c3 x.2.2.2.1)⟩),(5301,⟨0,109,.row 3 (List.map B5 x.2.2.2.2)⟩)]⟩) (fun x ↦ decFa x.1 x.2.1 x.2.2.1 x.2.2.2.1 x.2.2.2.2) (fun x ↦ Bm6 U x.1 x.2.1 x.2.2.1 x.2.2.2.1 x.2.2.2.2) [1,2,3,4,5,6] [1,2,3,8,5301] (((0:Int),(0:Int),tnS U,List.replicate (16:Nat) (0:Int),[])) (show Bm6 U (0:Int) (0:Int) (tnS U) (List.replicate (16:Nat) (0:Int)) []from ?g0) ?_;rotate_left
  rintro⟨n0,r1,S2,v3,c4⟩ h_5
  obtain⟨hh6,hh7,hh8,hh9,h10,h11,h12,h13,h14⟩:S2=tnS U∧0≤r1∧r1≤16∧0≤n0∧n0≤r1∧v3.length=(16:Nat)∧B37 U r1 n0∧A1j U r1 v3∧K7 U r1 c4:=h_5
  refine sq<|rD cx [1,2,3,4,5,6,10] [1,2,3,8,5301] (zB 1 (r1 <(16:Int))) (fun h15=>?_) fun h15=>?_
  refine sK<|sn<|sq<|bL 1<|sq<|rG cx [1,2,3,4,5,6,7] [1,2,3,8,5301] z0<|sn<|bL 2<|sL (X:=Int×Int×(Nat→List Int)×List Int×List Span) (fun x=>⟨[(1,.ptr (1) (0) (0) (0)),(2,.ptr (2) (0) (0) (0)),(3,.ptr (3) (0) (0) (0)),(4,.own 8 0),(5,.i .i64 (x.1)),(6,.i .i64 (r1)),(7,.i .i64 (x.2.1))],[(1,⟨0,177,.arr (E8 c3 16 x.2.2.1)⟩),(2,⟨0,26,.var [.nl,.nl]⟩),(3,⟨0,26,.var [.nl,.own 5301 0]⟩),(8,⟨0,3,.row 1 (List.map c3 x.2.2.2.1)⟩),(5301,⟨0,109,.row 3 (List.map B5 x.2.2.2.2)⟩)]⟩) (fun x ↦ decFb U r1 x.1 x.2.1 x.2.2.1 x.2.2.2.1 x.2.2.2.2) (fun x ↦ B8p U r1 n0 v3 c4 x.1 x.2.1 x.2.2.1 x.2.2.2.1 x.2.2.2.2) [1,2,3,4,5,6,7] [1,2,3,8,5301] ((n0,(0:Int),S2,v3,c4)) (show B8p U r1 n0 v3 c4 n0 (0:Int) S2 v3 c4 from ?g1) ?_;rotate_left
  rintro⟨n16,k17,S18,v19,c20⟩ h_21
  obtain⟨h22,h23,h24,h25,h26,h27,h28,h29⟩:S18=tnS U∧0≤k17∧k17≤(2:Int)*(↑(U r1.toNat).length:Int)∧(2:Int)*(k17 / (2:Int))=k17∧v19.length=(16:Nat)∧0≤n16∧n16≤r1+1∧B12 U r1 n0 v3 c4 k17 n16 v19 c20:=h_21
  refine sq<|sq<|rG cx [1,2,3,4,5,6,7,20] [1,2,3,8,5301] (tT 1 (B7 (by omega) ?g2:AV.i .i64 (IntKind.i64.wrap (k17+1))=AV.i .i64 (k17+1)) (fA (0≤r1) (fO (r1 <(↑(16:Nat):Int)) (fP ((E8 c3 16 S18)[r1.toNat*(1:Nat)+0]?=some (AV.sl (List.map c3 (S18 r1.toNat)))) (by((try simp only [Nat.mul_one,Nat.add_zero,Nat.zero_add]);with_reducible refine E7 ?_;omega)) (tL 6 c3 (S18 r1.toNat) (tB 7 (k17+1 <(↑(S18 r1.toNat).length:Int)) (oR 5 [.sl (List.map c3 (S18 r1.toNat))] z0))))))) ?_;rotate_left
  refine sn<|dC (k17+1 <(↑(S18 r1.toNat).length:Int)) (fun h30=>?_) fun h30=>?_
  refine sK<|sn<|sq<|bL 3<|rD cx [1,2,3,4,5,6,7,30] [1,2,3,8,5301] (fA (0≤r1) (fO (r1 <(↑(16:Nat):Int)) (fP ((E8 c3 16 S18)[r1.toNat*(1:Nat)+0]?=some (AV.sl (List.map c3 (S18 r1.toNat)))) (by((try simp only [Nat.mul_one,Nat.add_zero,Nat.zero_add]);with_reducible refine E7 ?_;omega)) (fA (0≤k17) (fG c3 (S18 r1.toNat) k17.toNat (fR 1 (oR 3 [.sl (List.map c3 (S18 r1.toNat))] (oR 5 (c3 (S18 r1.toNat)[k17.toNat]!) (zB 7 ((S18 r1.toNat)[k17.toNat]! =(1:Int))))))))))) (fun h31=>?_) fun h31=>?_
  refine sq<|rG cx [1,2,3,4,6,7] [1,2,3,8,5301] (fA (0≤r1) (fO (r1 <(↑(16:Nat):Int)) (fP ((E8 c3 16 S18)[r1.toNat*(1:Nat)+0]?=some (AV.sl (List.map c3 (S18 r1.toNat)))) (by((try simp only [Nat.mul_one,Nat.add_zero,Nat.zero_add]);with_reducible refine E7 ?_;omega)) (tT 7 (B7 (by omega) ?g3:AV.i .i64 (IntKind.i64.wrap (k17+1))=AV.i .i64 (k17+1)) (fO (0≤k17+1) (fG c3 (S18 r1.toNat) ((k17+1).toNat) (fR 1 (tT 10 (B7 ?g4 ?g5:AV.i .i64 (IntKind.i64.wrap ((S18 r1.toNat)[(k17+1).toNat]!-1))=AV.i .i64 ((S18 r1.toNat)[(k17+1).toNat]!-1)) (fA (0≤r1) (fP (r1.toNat <(List.map c3 v19).length) (by(first | omega | (simp only [List.length_map];omega))) (fR 1 (fG c3 v19 r1.toNat (fR 1 (fP (0+(1:Nat)≤1) (by(first | omega | (simp only [List.length_map];omega))) (fP ((List.map c3 v19).set r1.toNat (List.take (0) (c3 v19[r1.toNat]!)++E0 (AV.i .i64 ((S18 r1.toNat)[(k17+1).toNat]!-1))++List.drop (0+(1:Nat)) (c3 v19[r1.toNat]!))=List.map c3 (v19.set r1.toNat ((S18 r1.toNat)[(k17+1).toNat]!-1))) (by(with_reducible refine A3d ?_;kernel_rfl)) (oR 5 [.sl (List.map c3 (S18 r1.toNat))] (oR 8 (c3 (S18 r1.toNat)[(k17+1).toNat]!) (oV 12 { row:=(c3 v19[r1.toNat]!),rows:=some (List.map c3 (v19.set r1.toNat ((S18 r1.toNat)[(k17+1).toNat]!-1))) } z0)))))))))))))))))) ?_;rotate_left 3
  refine sn<|rG cx [1,2,3,4,6,7,5] [1,2,3,8,5301] (tW 1 (r1+1) z0)<|bN<|sn<|rG cx [1,2,3,4,6,7,5] [1,2,3,8,5301] (tT 1 (B7 (by omega) ?g6:AV.i .i64 (IntKind.i64.wrap (k17+2))=AV.i .i64 (k17+2)) z0) ?_;rotate_left
  refine sn<|nX ((r1+1,k17+2,S18,v19.set r1.toNat ((S18 r1.toNat)[(k17+1).toNat]!-1),c20)) (show((2:Int)*(↑(U r1.toNat).length:Int)-(k17+2)).toNat <((2:Int)*(↑(U r1.toNat).length:Int)-k17).toNat from ?g7) (show B8p U r1 n0 v3 c4 (r1+1) (k17+2) S18 (v19.set r1.toNat ((S18 r1.toNat)[(k17+1).toNat]!-1)) c20 from ?g8);rotate_left 2
  refine rA cx [1,2,3,4,5,6,7] [1,2,3,8,5301] (fA (0≤r1) (fO (r1 <(↑(16:Nat):Int)) (fP ((E8 c3 16 S18)[r1.toNat*(1:Nat)+0]?=some (AV.sl (List.map c3 (S18 r1.toNat)))) (by((try simp only [Nat.mul_one,Nat.add_zero,Nat.zero_add]);with_reducible refine E7 ?_;omega)) (fA (0≤k17) (fG c3 (S18 r1.toNat) k17.toNat (fR 1 (fA (0≤r1) (fO (r1 <(↑(16:Nat):Int)) (fP ((E8 c3 16 S18)[r1.toNat*(1:Nat)+0]?=some (AV.sl (List.map c3 (S18 r1.toNat)))) (by((try simp only [Nat.mul_one,Nat.add_zero,Nat.zero_add]);with_reducible refine E7 ?_;omega)) (tT 15 (B7 (by omega) ?g9:AV.i .i64 (IntKind.i64.wrap (k17+1))=AV.i .i64 (k17+1)) (fO (0≤k17+1) (fG c3 (S18 r1.toNat) ((k17+1).toNat) (fR 1 (tT 18 (B7 ?g10 ?g11:AV.i .i64 (IntKind.i64.wrap ((S18 r1.toNat)[(k17+1).toNat]!-1))=AV.i .i64 ((S18 r1.toNat)[(k17+1).toNat]!-1)) (fR 109 (fR 3 (fR 3 (fX B5 [{ rep:=r1,lo:=(S18 r1.toNat)[k17.toNat]!,hi:=(S18 r1.toNat)[(k17+1).toNat]!-1:Span }] 3 (fP ((List.map B5 c20).length+(List.map B5 [{ rep:=r1,lo:=(S18 r1.toNat)[k17.toNat]!,hi:=(S18 r1.toNat)[(k17+1).toNat]!-1:Span }]).length≤maxLen) ?g12 (fP (((List.map B5 c20).length+(List.map B5 [{ rep:=r1,lo:=(S18 r1.toNat)[k17.toNat]!,hi:=(S18 r1.toNat)[(k17+1).toNat]!-1:Span }]).length)*(24:Nat)≤(140737488355328:Nat)) ?g13 (fM B5 c20 [{ rep:=r1,lo:=(S18 r1.toNat)[k17.toNat]!,hi:=(S18 r1.toNat)[(k17+1).toNat]!-1:Span }] (oR 6 [.sl (List.map c3 (S18 r1.toNat))] (oR 8 (c3 (S18 r1.toNat)[k17.toNat]!) (oR 13 [.sl (List.map c3 (S18 r1.toNat))] (oR 16 (c3 (S18 r1.toNat)[(k17+1).toNat]!) (oV 21 { rows:=some (List.map B5 (c20++[{ rep:=r1,lo:=(S18 r1.toNat)[k17.toNat]!,hi:=(S18 r1.toNat)[(k17+1).toNat]!-1:Span }])) } z0)))))))))))))))))))))))))) ?_;rotate_left 5
  refine bN<|sn<|rG cx [1,2,3,4,5,6,7] [1,2,3,8,5301] (tT 1 (B7 (by omega) ?g14:AV.i .i64 (IntKind.i64.wrap (k17+2))=AV.i .i64 (k17+2)) z0) ?_;rotate_left
  refine sn<|nX ((n16,k17+2,S18,v19,c20++[{ rep:=r1,lo:=(S18 r1.toNat)[k17.toNat]!,hi:=(S18 r1.toNat)[(k17+1).toNat]!-1:Span }])) (show((2:Int)*(↑(U r1.toNat).length:Int)-(k17+2)).toNat <((2:Int)*(↑(U r1.toNat).length:Int)-k17).toNat from ?g15) (show B8p U r1 n0 v3 c4 n16 (k17+2) S18 v19 (c20++[{ rep:=r1,lo:=(S18 r1.toNat)[k17.toNat]!,hi:=(S18 r1.toNat)[(k17+1).toNat]!-1:Span }])from ?g16);rotate_left 2
  refine eX 2<|nE<|nE<|bH<|bN<|sn<|rG cx [1,2,3,4,5,6] [1,2,3,8,5301] (tW 1 (r1+1) z0)<|sn<|nX ((n16,r1+1,S18,v19,c20)) (show(16-(r1+1)).toNat <(16-r1).toNat from(by omega)) (show Bm6 U n16 (r1+1) S18 v19 c20 from ?g17);rotate_left
  refine eX 0<|nE<|nE<|bH<|sn<|sq<|rG cx [2,3] [2,3,8,5301] (fO ((0:Int)≤(0:Int)) (fA (0≤n0) (fP (n0≤(↑(List.map c3 v3).length:Int)) (by(first | omega | (simp only [List.length_map];omega))) (fP ((0:Int) <(↑(List.map c3 v3).length:Int)) (by(first | omega | (simp only [List.length_map];omega))) (fR (some (1)) z0))))) ?_
  refine sn<|sq<|S5 [8,5301] [2,3] [2,3] (σ':=⟨[(2,.ptr (2) (0) (0) (0)),(3,.ptr (3) (0) (0) (0))],[(2,⟨0,26,.var [.nl,.nl]⟩),(3,⟨0,26,.var [.sl (List.take (n0-0).toNat (List.drop (0) (List.map c3 v3))),.sl (List.map B5 c4)]⟩)]⟩) (by kernel_rfl)<|rG cx [2] [2] z0<|sn<|rT<|qR (.agg [.sl (List.take (n0-0).toNat (List.drop (0) (List.map c3 v3))),.sl (List.map B5 c4)]) (.eq ?g18);rotate_left
  rotate_left
  revert n0 r1 S2 v3 c4 hh6 hh7 hh8 hh9 h10 h11 h12 h13 h14 h15;rotate_left
  revert n0 r1 S2 v3 c4 hh6 hh7 hh8 hh9 h10 h11 h12 h13 h14 h15 n16 k17 S18 v19 c20 h22 h23 h24 h25 h26 h27 h28 h29;rotate_left
  revert n0 r1 S2 v3 c4 hh6 hh7 hh8 hh9 h10 h11 h12 h13 h14 h15 n16 k17 S18 v19 c20 h22 h23 h24 h25 h26 h27 h28 h29 h30 h31;rotate_left
  revert n0 r1 S2 v3 c4 hh6 hh7 hh8 hh9 h10 h11 h12 h13 h14 h15 n16 k17 S18 v19 c20 h22 h23 h24 h25 h26 h27 h28 h29 h30 h31;rotate_left
  revert n0 r1 S2 v3 c4 hh6 hh7 hh8 hh9 h10 h11 h12 h13 h14 h15 n16 k17 S18 v19 c20 h22 h23 h24 h25 h26 h27 h28 h29 h30 h31;rotate_left
  revert n0 r1 S2 v3 c4 hh6 hh7 hh8 hh9 h10 h11 h12 h13 h14 h15 n16 k17 S18 v19 c20 h22 h23 h24 h25 h26 h27 h28 h29 h30 h31;rotate_left
  revert n0 r1 S2 v3 c4 hh6 hh7 hh8 hh9 h10 h11 h12 h13 h14 h15 n16 k17 S18 v19 c20 h22 h23 h24 h25 h26 h27 h28 h29 h30 h31;rotate_left
  revert n0 r1 S2 v3 c4 hh6 hh7 hh8 hh9 h10 h11 h12 h13 h14 h15 n16 k17 S18 v19 c20 h22 h23 h24 h25 h26 h27 h28 h29 h30 h31;rotate_left
  revert n0 r1 S2 v3 c4 hh6 hh7 hh8 hh9 h10 h11 h12 h13 h14 h15 n16 k17 S18 v19 c20 h22 h23 h24 h25 h26 h27 h28 h29 h30 h31;rotate_left
  revert n0 r1 S2 v3 c4 hh6 hh7 hh8 hh9 h10 h11 h12 h13 h14 h15 n16 k17 S18 v19 c20 h22 h23 h24 h25 h26 h27 h28 h29 h30 h31;rotate_left
  revert n0 r1 S2 v3 c4 hh6 hh7 hh8 hh9 h10 h11 h12 h13 h14 h15 n16 k17 S18 v19 c20 h22 h23 h24 h25 h26 h27 h28 h29 h30 h31;rotate_left
  revert n0 r1 S2 v3 c4 hh6 hh7 hh8 hh9 h10 h11 h12 h13 h14 h15 n16 k17 S18 v19 c20 h22 h23 h24 h25 h26 h27 h28 h29 h30 h31;rotate_left
  revert n0 r1 S2 v3 c4 hh6 hh7 hh8 hh9 h10 h11 h12 h13 h14 h15 n16 k17 S18 v19 c20 h22 h23 h24 h25 h26 h27 h28 h29 h30 h31;rotate_left
  revert n0 r1 S2 v3 c4 hh6 hh7 hh8 hh9 h10 h11 h12 h13 h14 h15 n16 k17 S18 v19 c20 h22 h23 h24 h25 h26 h27 h28 h29 h30 h31;rotate_left
  revert n0 r1 S2 v3 c4 hh6 hh7 hh8 hh9 h10 h11 h12 h13 h14 h15 n16 k17 S18 v19 c20 h22 h23 h24 h25 h26 h27 h28 h29 h30 h31;rotate_left
  revert n0 r1 S2 v3 c4 hh6 hh7 hh8 hh9 h10 h11 h12 h13 h14 h15 n16 k17 S18 v19 c20 h22 h23 h24 h25 h26 h27 h28 h29 h30 h31;rotate_left
  revert n0 r1 S2 v3 c4 hh6 hh7 hh8 hh9 h10 h11 h12 h13 h14 h15 n16 k17 S18 v19 c20 h22 h23 h24 h25 h26 h27 h28 h29 h30;rotate_left
  revert n0 r1 S2 v3 c4 hh6 hh7 hh8 hh9 h10 h11 h12 h13 h14 h15;rotate_left
  case g0=>exact⟨rfl,by omega,by omega,by omega,by omega,by simp,rfl,by simp [A1j,A7r],rfl⟩
  case g1=>intro n r S v c h0 h1 h2 h3 h4 h5 h6 h7 h8 h9;exact⟨h0,by omega,by omega,by omega,by omega,by omega,by omega,B13 h1 h9 h7⟩
  case g18 =>
    intro n r S v c h0 h1 h2 h3 h4 h5 h6 h7 h8 h9
    rw[A99 h2 h9 h6 h7 h8]
    show AV.agg [AV.sl (List.take (n-0).toNat (List.drop 0 (List.map c3 v))),AV.sl (List.map B5 c)]=_
    rw[List.drop_zero,Int.sub_zero,← List.map_take]
    rfl
  all_goals
    intro n r S v c h0 h1 h2 h3 h4 h5 h6 h7 h8 h9 m k X w d k0 k1 k2 k3 k4 k5 k6 k7
    have hs:=hU r.toNat (by omega)
    have hl:=N2 hs
    have hd:=B8u hs h1 h9 h8 k7
    have ht:(tnS U r.toNat).length=2*(U r.toNat).length:=A5x _
    subst k0
  case g17 =>
    intro k8
    rw[ht]at k8
    obtain⟨a,b,e⟩:=B8t hs h1 h9 h6 h7 h8 k1 k3 (by omega) k2 k7
    exact⟨rfl,by omega,by omega,by omega,by omega,k4,a,b,e⟩
  case g8 =>
    intro k8 k9
    rw[ht]at k8
    obtain⟨e1,e2⟩:=Ai6 (U:=U) (r:=r) k1 k3 (by omega)
    rw[e1]at k9
    rw[e2,Int.add_sub_cancel]
    exact⟨rfl,by omega,by omega,by omega,by rw[List.length_set];exact k4,by omega,by omega,B8s hs k1 k3 (by omega) k9 k7⟩
  case g16 =>
    intro k8 k9
    rw[ht]at k8
    obtain⟨e1,e2⟩:=Ai6 (U:=U) (r:=r) k1 k3 (by omega)
    rw[e1]at k9
    rw[e1,e2,Int.add_sub_cancel]
    exact⟨rfl,by omega,by omega,by omega,k4,by omega,by omega,B4m k1 k3 (by omega) k9 k7⟩
  all_goals
    first
    | omega
    | (intro k8 k9
       rw[ht]at k8
       obtain⟨e1,e2⟩:=Ai6 (U:=U) (r:=r) k1 k3 (by omega)
       have hb:=hs.2 _ (E2 (l:=U r.toNat) (i:=(k / 2).toNat) (by omega))
       simp only [e2,List.length_map,List.length_cons,List.length_nil,Go.maxLen]
       omega)
end Go.Proofs.YtokhjapfekbobaaGreat
namespace Go.Proofs.YtokhjapfekbobaaGreat
open Go.E
set_option maxRecDepth 100000
set_option maxHeartbeats 4000000
theorem Ax3(p:Past)(hb:p.cloud.length*16≤140737488350000):Con Tryz.prog 137 [.agg (c26 p)] (.agg (Bt9 (tnS (E4 (A8 [p]))))) :=
 by
 refine sC A9 [.cell 2 177] 6 Tryz.func137 ?_
 intro e0 cx
 refine sq<|rG cx [1,2] [1,2] z0<|sn<|sq<|rG cx [2] [2] (fT (con178 ([p]) ?g0) (oA 2 (.agg (E8 c3 16 (tnS (E4 (A8 [p]))))) z0)) ?_;rotate_left
 refine sn<|rT<|qR (.agg [.sl (List.map c3 (tnS (E4 (A8 [p])) (0))),.sl (List.map c3 (tnS (E4 (A8 [p])) (1))),.sl (List.map c3 (tnS (E4 (A8 [p])) (2))),.sl (List.map c3 (tnS (E4 (A8 [p])) (3))),.sl (List.map c3 (tnS (E4 (A8 [p])) (4))),.sl (List.map c3 (tnS (E4 (A8 [p])) (5))),.sl (List.map c3 (tnS (E4 (A8 [p])) (6))),.sl (List.map c3 (tnS (E4 (A8 [p])) (7))),.sl (List.map c3 (tnS (E4 (A8 [p])) (8))),.sl (List.map c3 (tnS (E4 (A8 [p])) (9))),.sl (List.map c3 (tnS (E4 (A8 [p])) (10))),.sl (List.map c3 (tnS (E4 (A8 [p])) (11))),.sl (List.map c3 (tnS (E4 (A8 [p])) (12))),.sl (List.map c3 (tnS (E4 (A8 [p])) (13))),.sl (List.map c3 (tnS (E4 (A8 [p])) (14))),.sl (List.map c3 (tnS (E4 (A8 [p])) (15)))]) (.eq ?g1);rotate_left
 case g0=>exact(by rw[Ao8];omega)
 case g1=>exact rfl
theorem Bm7(p:Past)(hb:p.cloud.length*16≤140737488350000):Con Tryz.prog 87 [.agg (c26 p)] (.agg (c26 (A5 p))) :=
 by
 refine sC A9 [.cell 2 26] 6 Tryz.func87 ?_
 intro e0 cx
 refine sq<|rG cx [1,2] [1,2] z0<|sn<|sq<|rG cx [2] [2] (fT (Ax3 (p) (by(with_reducible assumption))) (fT (Be0 (E4 (A8 [p])) ?g0) (oA 1 (.agg (E8 c3 16 (tnS (E4 (A8 [p]))))) (oA 2 (.agg [.sl (List.map c3 (G1 (E4 (A8 [p]))).vec),.sl (List.map B5 (G1 (E4 (A8 [p]))).cloud)]) z0)))) ?_;rotate_left
 refine sn<|rT<|qR (.agg [.sl (List.map c3 (G1 (E4 (A8 [p]))).vec),.sl (List.map B5 (G1 (E4 (A8 [p]))).cloud)]) (.eq ?g1);rotate_left
 case g0=>exact(A9c _)
 case g1=>exact(by rw[A9b];rfl)
theorem B14(p:Past)(hb:p.cloud.length*16≤140737488350000)(hv:p.vec.length≤9223372036854775807):Con Tryz.prog 39 [.agg (c26 p)] (.b (decide (p=A5 p))) :=
 by
 refine sC A9 [.tmp 2] 7 Tryz.func39 ?_
 intro e0 cx
 refine sq<|rG cx [1] [1] z0<|sn<|sq<|rA cx [2] [] (fT (Bm7 (p) (by(with_reducible assumption))) (fT (Ap4 (p) (A5 p) (by(with_reducible assumption)) (by omega)) (oA 2 (.agg [.sl (List.map c3 (A5 p).vec),.sl (List.map B5 (A5 p).cloud)]) (oA 3 (.b (decide (p=A5 p))) z0))))<|sn<|rT ?_
 exact A43 (r:=.b (decide (p=A5 p))) (obl:=[]) (by kernel_rfl) trivial (B9.refl _)
end Go.Proofs.YtokhjapfekbobaaGreat
namespace Go.Proofs.YtokhjapfekbobaaGreat
open Go.E
set_option maxRecDepth 100000
set_option maxHeartbeats 4000000
def B6a(U V:Nat→List Run)(r:Nat):List Run:=Y1 (U r) (V r)
def sepU(U:Nat→List Run):Prop:=∀ r:Nat,r < 16→N7 (U r)
def A5y(a b:List Int)(f:Bool→Bool→Bool)(i j:Int)(w:Bool)(t:List Int):Prop:=0≤i∧i≤a.length∧0≤j∧j≤b.length∧(t.length:Int)≤i+j∧A3x f a b i j w t
def decCb(a b:List Int)(i j:Int)(w:Bool)(t:List Int):Nat:=(a.length-i+(b.length-j)).toNat
def isCo(U V:Nat→List Run)(r:Int)(S:Nat→List Int):Prop:=∀ k:Nat,(k:Int) < r→S k=tnS (B6a U V) k
def Bm8(U V:Nat→List Run)(r:Int)(A B S:Nat→List Int):Prop:=A=tnS U∧B=tnS V∧0≤r∧r≤16∧isCo U V r S
def decCo(r:Int)(A B S:Nat→List Int):Nat:=(16-r).toNat
theorem rule2(x y:Bool):O8 2 x y=(x && !y):=by unfold O8;simp
theorem B4n{A B:List Run}(hA:N7 A)(hB:N7 B):I5 (O8 2) (D3 A) (D3 B) false false false=D3 (Y1 A B):=by
 refine B0x _ rfl hA hB (A2b A B) fun n=>?_
 rw[B3k,A5e hA,A5e hB,rule2,Bool.and_eq_true,Bool.not_eq_true',A9y,← Bool.not_eq_true,A9y]
theorem B4o{U:Nat→List Run}(h:sepU U){r:Nat}(hr:r < 16):(tnS U r).length≤1000000000:=by
 unfold tnS
 rw[A5x]
 have:=N2 (h r hr)
 omega
theorem B4p{U V:Nat→List Run}{r:Int}{S:Nat→List Int}(hU:sepU U)(hV:sepU V)(h0:0≤r)(h1:r < 16)(h:isCo U V r S) :
  isCo U V (r+1) (L4 S r.toNat (I5 (O8 2) (tnS U r.toNat) (tnS V r.toNat) false false false)):=by
 intro k hk
 unfold L4
 by_cases e:k=r.toNat
 ·subst e
  rw[if_pos rfl]
  exact B4n (hU _ (by omega)) (hV _ (by omega))
 ·rw[if_neg e]
  exact h k (by omega)
theorem B8v(a b:List Run):Y1 (nrm a) (nrm b)=Y1 a b:=by unfold Y1;rw[A5f,A5f]
theorem Bm9(a b:Past):G1 (B6a (E4 (A8 [a])) (E4 (A8 [b])))=B6 a b:=V8 fun r _=>B8v _ _
def Bn0(U:Nat→List Run)(n r:Int)(S:Nat→List Int):Prop:=S=tnS U∧0≤r∧r≤16∧n=sizeT U r.toNat
def decRs(n r:Int)(S:Nat→List Int):Nat:=(16-r).toNat
def Bn1(U:Nat→List Run)(r n0 n k:Int)(S:Nat→List Int):Prop:=S=tnS U∧0≤k∧k≤2*(U r.toNat).length∧2*(k / 2)=k∧n=n0+H7 ((U r.toNat).take (k / 2).toNat)
def decRt(U:Nat→List Run)(r n k:Int)(S:Nat→List Int):Nat:=(2*(U r.toNat).length-k).toNat
theorem Be1{T:Nat→List Run}(r:Nat):nrm (E4 T r)=E4 T r:=A5f _
theorem Ai7(T:Nat→List Run):∀ n:Nat,sizeT (E4 T) n=sizeT T n
 | 0=>rfl
 | n+1=>by rw[sizeT,sizeT,Ai7 T n,Be1];rfl
theorem A0s{rule i j:Int}(h0:0≤i)(j0:0≤j):decide (rule=1∧i.tmod 2=1∧j.tmod 2=1∨¬rule=1∧rule=2∧i.tmod 2=1∧¬j.tmod 2=1)=O8 rule (B1s i) (B1s j):=by
 rw[Int.tmod_eq_emod_of_nonneg h0,Int.tmod_eq_emod_of_nonneg j0]
 unfold O8 B1s
 by_cases a:rule=1 <;> by_cases b:rule=2 <;> by_cases c:i % 2=1 <;> by_cases d:j % 2=1 <;> simp [a,b,c,d] <;> omega
theorem B4q{l:List Run}{k:Int}(h0:0≤k)(he:2*(k / 2)=k)(h:k+1 < 2*l.length):H7 (l.take ((k+2) / 2).toNat)=H7 (l.take (k / 2).toNat)+(l[(k / 2).toNat]!.hi-l[(k / 2).toNat]!.lo+1):=by
 rw[show(k+2) / 2=k / 2+1 by omega]
 exact A81 (by omega) (by omega)
theorem con179(a b:List Int)(rule:Int)(ha:a.length≤1000000000)(hb:b.length≤1000000000):Con Tryz.prog 179 [.sl (a.map c3),.sl (b.map c3),.i .i64 rule] (.sl ((I5 (O8 rule) a b false false false).map c3)) :=
 by
 have st:∀ {f:Bool→Bool→Bool} {i j i' j' u:Int} {w w':Bool} {t t':List Int},0≤i→i≤a.length→0≤j→j≤b.length→(t.length:Int)≤i+j→A3x f a b i j w t→(i < a.length∨j < b.length) →
   (u=if ¬ j < b.length∨(i < a.length∧a[i.toNat]! < b[j.toNat]!)then a[i.toNat]! else b[j.toNat]!) →
   (i'=if i < a.length∧a[i.toNat]! = u then i+1 else i)→(j'=if j < b.length∧b[j.toNat]! = u then j+1 else j)→i+j+1≤i'+j' →
   w'=f (B1s i') (B1s j')→(t'=if w'=w then t else t++[u])→A5y a b f i' j' w' t':=by
  intro f i j i' j' u w w' t t' h0 h1 h2 h3 h4 h5 ho hu hi hj hm hw ht
  refine⟨?_,?_,?_,?_,?_,B4f h0 h2 ho hu hi hj hw ht h5⟩
  ·rw[hi];split <;> omega
  ·rw[hi];split <;> omega
  ·rw[hj];split <;> omega
  ·rw[hj];split <;> omega
  ·rw[ht]
   split
   ·omega
   ·rw[List.length_append,List.length_singleton];omega
 refine lN 0 c3 (a) Tryz.func179 fun hl_0=>lN 1 c3 (b) Tryz.func179 fun hl_1=>sC A9 [.tmp 6] 116 Tryz.func179 ?_
 intro e0 cx
 refine sq<|rG cx [0,1,2] [] z0<|sn<|sq<|rG cx [0,1,2,7] [] z0<|sn<|sq<|rG cx [0,1,2,7,8,9] [] z0<|sn<|sq<|rG cx [0,1,2,7,8,9,10] [] z0<|sn<|sq<|bL 0<|G0 7 1007 3 1 (σ':=⟨[(0,.sl (List.map c3 a)),(1,.sl (List.map c3 b)),(2,.i .i64 (rule)),(7,.own 1007 0),(8,.i .i64 ((0:Int))),(9,.i .i64 ((0:Int))),(10,.b (false))],[(1007,⟨0,3,.row 1 (List.map c3 [])⟩)]⟩) (by kernel_rfl)<|sL (X:=Int×Int×Bool×List Int) (fun x=>⟨[(0,.sl (List.map c3 a)),(1,.sl (List.map c3 b)),(2,.i .i64 (rule)),(7,.own 1007 0),(8,.i .i64 (x.1)),(9,.i .i64 (x.2.1)),(10,.b (x.2.2.1))],[(1007,⟨0,3,.row 1 (List.map c3 x.2.2.2)⟩)]⟩) (fun x ↦ decCb a b x.1 x.2.1 x.2.2.1 x.2.2.2) (fun x ↦ A5y a b (O8 rule) x.1 x.2.1 x.2.2.1 x.2.2.2) [0,1,2,7,8,9,10] [1007] (((0:Int),(0:Int),false,[])) (show A5y a b (O8 rule) (0:Int) (0:Int) false []from(by exact⟨by omega,by omega,by omega,by omega,by simp,rfl⟩)) ?_
 rintro⟨i0,j1,w2,t3⟩ h_4
 obtain⟨hh5,hh6,hh7,hh8,hh9,hh10⟩:0≤i0∧i0≤(↑a.length:Int)∧0≤j1∧j1≤(↑b.length:Int)∧(↑t3.length:Int)≤i0+j1∧A3x (O8 rule) a b i0 j1 w2 t3:=h_4
 refine sq<|sq<|B3 (σ':=⟨[(0,.sl (List.map c3 a)),(1,.sl (List.map c3 b)),(2,.i .i64 (rule)),(7,.own 1007 0),(8,.i .i64 (i0)),(9,.i .i64 (j1)),(10,.b (w2)),(24,.b (decide (i0 <(↑a.length:Int)∨j1 <(↑b.length:Int))))],[(1007,⟨0,3,.row 1 (List.map c3 t3)⟩)]⟩) ?_ ?_
 refine A4 (i0 <(↑a.length:Int)) (fun h_12=>?_) (fun h_12=>?_)
 refine rG cx [0,1,2,7,8,9,10,24] [1007] (tL 2 c3 a (tT 3 (A3 h_12) (tD 9 true (i0 <(↑a.length:Int)∨j1 <(↑b.length:Int)) (by simp only [eq_true h_12,tsl]) z0))) ?_
 exact⟨rfl,by kernel_rfl⟩
 refine rG cx [0,1,2,7,8,9,10,24] [1007] (tL 2 c3 a (tT 3 (A0 h_12) (tL 7 c3 b (tB 8 (j1 <(↑b.length:Int)) (tD 9 (decide (j1 <(↑b.length:Int))) (i0 <(↑a.length:Int)∨j1 <(↑b.length:Int)) (by simp only [eq_false h_12,tsl]) z0))))) ?_
 exact⟨rfl,by kernel_rfl⟩
 refine sn<|dC (i0 <(↑a.length:Int)∨j1 <(↑b.length:Int)) (fun h13=>?_) fun h13=>?_
 refine sK<|sn<|bL 1<|sq<|rG cx [0,1,2,7,8,9,10] [1007] z0<|sn<|sq<|sq<|B3 (σ':=⟨[(0,.sl (List.map c3 a)),(1,.sl (List.map c3 b)),(2,.i .i64 (rule)),(7,.own 1007 0),(8,.i .i64 (i0)),(9,.i .i64 (j1)),(10,.b (w2)),(45,.b (decide (j1=(↑b.length:Int)∨i0 <(↑a.length:Int)∧a[i0.toNat]! < b[j1.toNat]!)))],[(1007,⟨0,3,.row 1 (List.map c3 t3)⟩)]⟩) ?_ ?_
 refine A4 (j1=(↑b.length:Int)) (fun h_15=>?_) (fun h_15=>?_)
 refine rA cx [0,1,2,7,8,9,10,45] [1007] (tL 2 c3 b (tT 3 (A3 h_15) (tD 20 true (j1=(↑b.length:Int)∨i0 <(↑a.length:Int)∧a[i0.toNat]! < b[j1.toNat]!) (by simp only [eq_true h_15,tsl]) z0))) ?_
 exact⟨rfl,by kernel_rfl⟩
 refine A4 (i0 <(↑a.length:Int)) (fun h_16=>?_) (fun h_16=>?_)
 refine rA cx [0,1,2,7,8,9,10,45] [1007] (tL 2 c3 b (tT 3 (A0 h_15) (tL 7 c3 a (tT 8 (A3 h_16) (fA (0≤i0) (fG c3 a i0.toNat (fR 1 (fA (0≤j1) (fG c3 b j1.toNat (fR 1 (tB 18 (a[i0.toNat]! < b[j1.toNat]!) (tD 20 (decide (a[i0.toNat]! < b[j1.toNat]!)) (j1=(↑b.length:Int)∨i0 <(↑a.length:Int)∧a[i0.toNat]! < b[j1.toNat]!) (by simp only [eq_false h_15,eq_true h_16,tsl]) (oR 12 (c3 a[i0.toNat]!) (oR 16 (c3 b[j1.toNat]!) z0)))))))))))))) ?_
 exact⟨rfl,by kernel_rfl⟩
 refine rA cx [0,1,2,7,8,9,10,45] [1007] (tL 2 c3 b (tT 3 (A0 h_15) (tL 7 c3 a (tT 8 (A0 h_16) (tD 20 false (j1=(↑b.length:Int)∨i0 <(↑a.length:Int)∧a[i0.toNat]! < b[j1.toNat]!) (by simp only [eq_false h_15,eq_false h_16,tsl]) z0))))) ?_
 exact⟨rfl,by kernel_rfl⟩
 refine sn<|dC (j1=(↑b.length:Int)∨i0 <(↑a.length:Int)∧a[i0.toNat]! < b[j1.toNat]!) (fun h17=>?_) fun h17=>?_
 refine rG cx [0,1,2,7,8,9,10,11] [1007] (fA (0≤i0) (fG c3 a i0.toNat (fR 1 (oR 2 (c3 a[i0.toNat]!) z0))))<|sn<|sq<|sq<|A4 (i0 <(↑a.length:Int)) (fun h18=>?_) (fun h18=>absurd (by omega) h18)
 refine rG cx [0,1,2,7,8,9,10,11,65] [1007] (tL 2 c3 a (tT 3 (A3 h18) (fA (0≤i0) (fG c3 a i0.toNat (fR 1 (tT 10 (A8v:AV.b (a[i0.toNat]! == a[i0.toNat]!)=AV.b true) (oR 7 (c3 a[i0.toNat]!) z0)))))))<|sn<|An3 (by kernel_rfl) (by kernel_rfl)<|rG cx [0,1,2,7,8,9,10,11] [1007] (tW 1 (i0+1) z0)<|sn<|sq<|sq<|B3 (σ':=⟨[(0,.sl (List.map c3 a)),(1,.sl (List.map c3 b)),(2,.i .i64 (rule)),(7,.own 1007 0),(8,.i .i64 (i0+1)),(9,.i .i64 (j1)),(10,.b (w2)),(11,.i .i64 (a[i0.toNat]!)),(79,.b (decide (j1 <(↑b.length:Int)∧b[j1.toNat]! = a[i0.toNat]!)))],[(1007,⟨0,3,.row 1 (List.map c3 t3)⟩)]⟩) ?_ ?_
 refine A4 (j1 <(↑b.length:Int)) (fun h_20=>?_) (fun h_20=>?_)
 refine rG cx [0,1,2,7,8,9,10,11,79] [1007] (tL 2 c3 b (tT 3 (A3 h_20) (fA (0≤j1) (fG c3 b j1.toNat (fR 1 (tB 10 (b[j1.toNat]! = a[i0.toNat]!) (tD 11 (decide (b[j1.toNat]! = a[i0.toNat]!)) (j1 <(↑b.length:Int)∧b[j1.toNat]! = a[i0.toNat]!) (by simp only [eq_true h_20,tsl]) (oR 7 (c3 b[j1.toNat]!) z0)))))))) ?_
 exact⟨rfl,by kernel_rfl⟩
 refine rG cx [0,1,2,7,8,9,10,11,79] [1007] (tL 2 c3 b (tT 3 (A0 h_20) (tD 11 false (j1 <(↑b.length:Int)∧b[j1.toNat]! = a[i0.toNat]!) (by simp only [eq_false h_20,tsl]) z0))) ?_
 exact⟨rfl,by kernel_rfl⟩
 refine sn<|dC (j1 <(↑b.length:Int)∧b[j1.toNat]! = a[i0.toNat]!) (fun h21=>?_) fun h21=>?_
 refine rG cx [0,1,2,7,8,9,10,11] [1007] (tW 1 (j1+1) z0)<|sn<|sq<|rG cx [0,1,2,7,8,9,10,11,12,13] [1007] (tI 1 ((i0+1).tmod (2:Int)) (tB 2 ((i0+1).tmod (2:Int)=(1:Int)) (tI 4 ((j1+1).tmod (2:Int)) (tB 5 ((j1+1).tmod (2:Int)=(1:Int)) z0))))<|sn<|sq<|A4 (rule=1) (fun h22=>?_) (fun h22=>absurd (by omega) h22)
 refine A4 ((i0+1).tmod (2:Int)=(1:Int)) (fun h23=>?_) (fun h23=>absurd (by omega) h23)
 refine A4 ((j1+1).tmod (2:Int)=(1:Int)) (fun h24=>?_) (fun h24=>absurd (by omega) h24)
 refine rG cx [0,1,2,7,8,9,10,11,14] [1007] (tT 1 (A3 h22) (tT 3 (A3 h23) (tT 6 (A3 h24) z0)))<|sn<|sq<|rG cx [0,1,2,7,8,9,10,11,14,109] [1007] (tT 2 (A4e:(AV.b !true == w2)=AV.b (decide ¬true=w2)) z0)<|sn<|dC (¬true=w2) (fun h25=>?_) fun h25=>?_
 refine sq<|rG cx [0,1,2,7,8,9,14] [1007] (fR 3 (fR 1 (fR 1 (fX c3 [a[i0.toNat]!] 1 (fO ((List.map c3 t3).length+(List.map c3 [a[i0.toNat]!]).length≤maxLen) (fO (((List.map c3 t3).length+(List.map c3 [a[i0.toNat]!]).length)*(8:Nat)≤(140737488355328:Nat)) (fM c3 t3 [a[i0.toNat]!] (oV 3 { rows:=some (List.map c3 (t3++[a[i0.toNat]!])) } z0))))))))<|sn<|rG cx [0,1,2,7,8,9,10] [1007] z0<|bN<|sn<|nX ((i0+1,j1+1,true,t3++[a[i0.toNat]!])) (show((↑a.length:Int)-(i0+1)+((↑b.length:Int)-(j1+1))).toNat <((↑a.length:Int)-i0+((↑b.length:Int)-j1)).toNat from(by omega)) (show A5y a b (O8 rule) (i0+1) (j1+1) true (t3++[a[i0.toNat]!])from ?g1);rotate_left
 refine sK<|bN<|sn<|nX ((i0+1,j1+1,w2,t3)) (show((↑a.length:Int)-(i0+1)+((↑b.length:Int)-(j1+1))).toNat <((↑a.length:Int)-i0+((↑b.length:Int)-j1)).toNat from(by omega)) (show A5y a b (O8 rule) (i0+1) (j1+1) w2 t3 from ?g2);rotate_left
 refine sK<|sn<|sq<|rG cx [0,1,2,7,8,9,10,11,12,13] [1007] (tI 1 ((i0+1).tmod (2:Int)) (tB 2 ((i0+1).tmod (2:Int)=(1:Int)) (tI 4 (j1.tmod (2:Int)) (tB 5 (j1.tmod (2:Int)=(1:Int)) z0))))<|sn<|sq<|B3 (σ':=⟨[(0,.sl (List.map c3 a)),(1,.sl (List.map c3 b)),(2,.i .i64 (rule)),(7,.own 1007 0),(8,.i .i64 (i0+1)),(9,.i .i64 (j1)),(10,.b (w2)),(11,.i .i64 (a[i0.toNat]!)),(14,.b (decide (rule=1∧(i0+1).tmod (2:Int)=(1:Int)∧j1.tmod (2:Int)=(1:Int)∨¬rule=1∧rule=2∧(i0+1).tmod (2:Int)=(1:Int)∧¬j1.tmod (2:Int)=(1:Int))))],[(1007,⟨0,3,.row 1 (List.map c3 t3)⟩)]⟩) ?_ ?_
 refine A4 (rule=1) (fun h_27=>?_) (fun h_27=>?_)
 refine A4 ((i0+1).tmod (2:Int)=(1:Int)) (fun h_28=>?_) (fun h_28=>?_)
 refine A4 (j1.tmod (2:Int)=(1:Int)) (fun h_29=>?_) (fun h_29=>?_)
 refine rG cx [0,1,2,7,8,9,10,11,14] [1007] (tT 1 (A3 h_27) (tT 3 (A3 h_28) (tT 6 (A3 h_29) (tD 19 true (rule=1∧(i0+1).tmod (2:Int)=(1:Int)∧j1.tmod (2:Int)=(1:Int)∨¬rule=1∧rule=2∧(i0+1).tmod (2:Int)=(1:Int)∧¬j1.tmod (2:Int)=(1:Int)) (by simp only [eq_true h_27,eq_true h_28,eq_true h_29,tsl]) z0)))) ?_
 exact⟨rfl,by kernel_rfl⟩
 refine A4 (rule=2) (fun h_30=>absurd h_30 (by omega)) (fun h_30=>?_)
 refine rG cx [0,1,2,7,8,9,10,11,14] [1007] (tT 1 (A3 h_27) (tT 3 (A3 h_28) (tT 6 (A0 h_29) (tT 10 (A0 h_30) (tD 19 false (rule=1∧(i0+1).tmod (2:Int)=(1:Int)∧j1.tmod (2:Int)=(1:Int)∨¬rule=1∧rule=2∧(i0+1).tmod (2:Int)=(1:Int)∧¬j1.tmod (2:Int)=(1:Int)) (by simp only [eq_true h_27,eq_true h_28,eq_false h_29,tsl]) z0))))) ?_
 exact⟨rfl,by kernel_rfl⟩
 refine A4 (rule=2) (fun h_31=>absurd h_31 (by omega)) (fun h_31=>?_)
 refine rG cx [0,1,2,7,8,9,10,11,14] [1007] (tT 1 (A3 h_27) (tT 3 (A0 h_28) (tT 10 (A0 h_31) (tD 19 false (rule=1∧(i0+1).tmod (2:Int)=(1:Int)∧j1.tmod (2:Int)=(1:Int)∨¬rule=1∧rule=2∧(i0+1).tmod (2:Int)=(1:Int)∧¬j1.tmod (2:Int)=(1:Int)) (by simp only [eq_true h_27,eq_false h_28,tsl]) z0)))) ?_
 exact⟨rfl,by kernel_rfl⟩
 refine A4 (rule=2) (fun h_32=>?_) (fun h_32=>?_)
 refine A4 ((i0+1).tmod (2:Int)=(1:Int)) (fun h_33=>?_) (fun h_33=>?_)
 refine rG cx [0,1,2,7,8,9,10,11,14] [1007] (tT 1 (A0 h_27) (tT 10 (A3 h_32) (tT 12 (A3 h_33) (tQ 16 (j1.tmod (2:Int)=(1:Int)) (tD 19 (decide ¬j1.tmod (2:Int)=(1:Int)) (rule=1∧(i0+1).tmod (2:Int)=(1:Int)∧j1.tmod (2:Int)=(1:Int)∨¬rule=1∧rule=2∧(i0+1).tmod (2:Int)=(1:Int)∧¬j1.tmod (2:Int)=(1:Int)) (by simp only [eq_false h_27,eq_true h_32,eq_true h_33,tsl]) z0))))) ?_
 exact⟨rfl,by kernel_rfl⟩
 refine rG cx [0,1,2,7,8,9,10,11,14] [1007] (tT 1 (A0 h_27) (tT 10 (A3 h_32) (tT 12 (A0 h_33) (tD 19 false (rule=1∧(i0+1).tmod (2:Int)=(1:Int)∧j1.tmod (2:Int)=(1:Int)∨¬rule=1∧rule=2∧(i0+1).tmod (2:Int)=(1:Int)∧¬j1.tmod (2:Int)=(1:Int)) (by simp only [eq_false h_27,eq_true h_32,eq_false h_33,tsl]) z0)))) ?_
 exact⟨rfl,by kernel_rfl⟩
 refine rG cx [0,1,2,7,8,9,10,11,14] [1007] (tT 1 (A0 h_27) (tT 10 (A0 h_32) (tD 19 false (rule=1∧(i0+1).tmod (2:Int)=(1:Int)∧j1.tmod (2:Int)=(1:Int)∨¬rule=1∧rule=2∧(i0+1).tmod (2:Int)=(1:Int)∧¬j1.tmod (2:Int)=(1:Int)) (by simp only [eq_false h_27,eq_false h_32,tsl]) z0))) ?_
 exact⟨rfl,by kernel_rfl⟩
 refine sn<|sq<|rG cx [0,1,2,7,8,9,10,11,14,109] [1007] (tT 2 (A4e:(AV.b !decide (rule=1∧(i0+1).tmod (2:Int)=(1:Int)∧j1.tmod (2:Int)=(1:Int)∨¬rule=1∧rule=2∧(i0+1).tmod (2:Int)=(1:Int)∧¬j1.tmod (2:Int)=(1:Int)) == w2)=AV.b (decide ¬decide (rule=1∧(i0+1).tmod (2:Int)=(1:Int)∧j1.tmod (2:Int)=(1:Int)∨¬rule=1∧rule=2∧(i0+1).tmod (2:Int)=(1:Int)∧¬j1.tmod (2:Int)=(1:Int))=w2)) z0)<|sn<|dC (¬decide (rule=1∧(i0+1).tmod (2:Int)=(1:Int)∧j1.tmod (2:Int)=(1:Int)∨¬rule=1∧rule=2∧(i0+1).tmod (2:Int)=(1:Int)∧¬j1.tmod (2:Int)=(1:Int))=w2) (fun h34=>?_) fun h34=>?_
 refine sq<|rG cx [0,1,2,7,8,9,14] [1007] (fR 3 (fR 1 (fR 1 (fX c3 [a[i0.toNat]!] 1 (fS c3 t3 c3 [a[i0.toNat]!] (fP (((List.map c3 t3).length+(List.map c3 [a[i0.toNat]!]).length)*(8:Nat)≤(140737488355328:Nat)) (by(simp only [Go.maxLen,List.length_map,List.length_append,List.length_cons,List.length_nil];omega)) (fM c3 t3 [a[i0.toNat]!] (oV 3 { rows:=some (List.map c3 (t3++[a[i0.toNat]!])) } z0))))))))<|sn<|rG cx [0,1,2,7,8,9,10] [1007] z0<|bN<|sn<|nX ((i0+1,j1,decide (rule=1∧(i0+1).tmod (2:Int)=(1:Int)∧j1.tmod (2:Int)=(1:Int)∨¬rule=1∧rule=2∧(i0+1).tmod (2:Int)=(1:Int)∧¬j1.tmod (2:Int)=(1:Int)),t3++[a[i0.toNat]!])) (show((↑a.length:Int)-(i0+1)+((↑b.length:Int)-j1)).toNat <((↑a.length:Int)-i0+((↑b.length:Int)-j1)).toNat from(by omega)) (show A5y a b (O8 rule) (i0+1) j1 (decide (rule=1∧(i0+1).tmod (2:Int)=(1:Int)∧j1.tmod (2:Int)=(1:Int)∨¬rule=1∧rule=2∧(i0+1).tmod (2:Int)=(1:Int)∧¬j1.tmod (2:Int)=(1:Int))) (t3++[a[i0.toNat]!])from ?g3);rotate_left
 refine sK<|bN<|sn<|nX ((i0+1,j1,w2,t3)) (show((↑a.length:Int)-(i0+1)+((↑b.length:Int)-j1)).toNat <((↑a.length:Int)-i0+((↑b.length:Int)-j1)).toNat from(by omega)) (show A5y a b (O8 rule) (i0+1) j1 w2 t3 from ?g4);rotate_left
 refine rG cx [0,1,2,7,8,9,10,11] [1007] (fA (0≤j1) (fG c3 b j1.toNat (fR 1 (oR 2 (c3 b[j1.toNat]!) z0))))<|sn<|sq<|sq<|B3 (σ':=⟨[(0,.sl (List.map c3 a)),(1,.sl (List.map c3 b)),(2,.i .i64 (rule)),(7,.own 1007 0),(8,.i .i64 (i0)),(9,.i .i64 (j1)),(10,.b (w2)),(11,.i .i64 (b[j1.toNat]!)),(65,.b (decide (i0 <(↑a.length:Int)∧a[i0.toNat]! = b[j1.toNat]!)))],[(1007,⟨0,3,.row 1 (List.map c3 t3)⟩)]⟩) ?_ ?_
 refine A4 (i0 <(↑a.length:Int)) (fun h_36=>?_) (fun h_36=>?_)
 refine rG cx [0,1,2,7,8,9,10,11,65] [1007] (tL 2 c3 a (tT 3 (A3 h_36) (fA (0≤i0) (fG c3 a i0.toNat (fR 1 (tB 10 (a[i0.toNat]! = b[j1.toNat]!) (tD 11 (decide (a[i0.toNat]! = b[j1.toNat]!)) (i0 <(↑a.length:Int)∧a[i0.toNat]! = b[j1.toNat]!) (by simp only [eq_true h_36,tsl]) (oR 7 (c3 a[i0.toNat]!) z0)))))))) ?_
 exact⟨rfl,by kernel_rfl⟩
 refine rG cx [0,1,2,7,8,9,10,11,65] [1007] (tL 2 c3 a (tT 3 (A0 h_36) (tD 11 false (i0 <(↑a.length:Int)∧a[i0.toNat]! = b[j1.toNat]!) (by simp only [eq_false h_36,tsl]) z0))) ?_
 exact⟨rfl,by kernel_rfl⟩
 refine sn<|dC (i0 <(↑a.length:Int)∧a[i0.toNat]! = b[j1.toNat]!) (fun h37=>?_) fun h37=>?_
 refine rG cx [0,1,2,7,8,9,10,11] [1007] (tW 1 (i0+1) z0)<|sn<|sq<|sq<|A4 (j1 <(↑b.length:Int)) (fun h38=>?_) (fun h38=>absurd (by omega) h38)
 refine rG cx [0,1,2,7,8,9,10,11,79] [1007] (tL 2 c3 b (tT 3 (A3 h38) (fA (0≤j1) (fG c3 b j1.toNat (fR 1 (tT 10 (A8v:AV.b (b[j1.toNat]! == b[j1.toNat]!)=AV.b true) (oR 7 (c3 b[j1.toNat]!) z0)))))))<|sn<|An3 (by kernel_rfl) (by kernel_rfl)<|rG cx [0,1,2,7,8,9,10,11] [1007] (tW 1 (j1+1) z0)<|sn<|sq<|rG cx [0,1,2,7,8,9,10,11,12,13] [1007] (tI 1 ((i0+1).tmod (2:Int)) (tB 2 ((i0+1).tmod (2:Int)=(1:Int)) (tI 4 ((j1+1).tmod (2:Int)) (tB 5 ((j1+1).tmod (2:Int)=(1:Int)) z0))))<|sn<|sq<|B3 (σ':=⟨[(0,.sl (List.map c3 a)),(1,.sl (List.map c3 b)),(2,.i .i64 (rule)),(7,.own 1007 0),(8,.i .i64 (i0+1)),(9,.i .i64 (j1+1)),(10,.b (w2)),(11,.i .i64 (b[j1.toNat]!)),(14,.b (decide (rule=1∧(i0+1).tmod (2:Int)=(1:Int)∧(j1+1).tmod (2:Int)=(1:Int)∨¬rule=1∧rule=2∧(i0+1).tmod (2:Int)=(1:Int)∧¬(j1+1).tmod (2:Int)=(1:Int))))],[(1007,⟨0,3,.row 1 (List.map c3 t3)⟩)]⟩) ?_ ?_
 refine A4 (rule=1) (fun h_40=>?_) (fun h_40=>?_)
 refine A4 ((i0+1).tmod (2:Int)=(1:Int)) (fun h_41=>?_) (fun h_41=>?_)
 refine A4 ((j1+1).tmod (2:Int)=(1:Int)) (fun h_42=>?_) (fun h_42=>?_)
 refine rG cx [0,1,2,7,8,9,10,11,14] [1007] (tT 1 (A3 h_40) (tT 3 (A3 h_41) (tT 6 (A3 h_42) (tD 19 true (rule=1∧(i0+1).tmod (2:Int)=(1:Int)∧(j1+1).tmod (2:Int)=(1:Int)∨¬rule=1∧rule=2∧(i0+1).tmod (2:Int)=(1:Int)∧¬(j1+1).tmod (2:Int)=(1:Int)) (by simp only [eq_true h_40,eq_true h_41,eq_true h_42,tsl]) z0)))) ?_
 exact⟨rfl,by kernel_rfl⟩
 refine A4 (rule=2) (fun h_43=>absurd h_43 (by omega)) (fun h_43=>?_)
 refine rG cx [0,1,2,7,8,9,10,11,14] [1007] (tT 1 (A3 h_40) (tT 3 (A3 h_41) (tT 6 (A0 h_42) (tT 10 (A0 h_43) (tD 19 false (rule=1∧(i0+1).tmod (2:Int)=(1:Int)∧(j1+1).tmod (2:Int)=(1:Int)∨¬rule=1∧rule=2∧(i0+1).tmod (2:Int)=(1:Int)∧¬(j1+1).tmod (2:Int)=(1:Int)) (by simp only [eq_true h_40,eq_true h_41,eq_false h_42,tsl]) z0))))) ?_
 exact⟨rfl,by kernel_rfl⟩
 refine A4 (rule=2) (fun h_44=>absurd h_44 (by omega)) (fun h_44=>?_)
 refine rG cx [0,1,2,7,8,9,10,11,14] [1007] (tT 1 (A3 h_40) (tT 3 (A0 h_41) (tT 10 (A0 h_44) (tD 19 false (rule=1∧(i0+1).tmod (2:Int)=(1:Int)∧(j1+1).tmod (2:Int)=(1:Int)∨¬rule=1∧rule=2∧(i0+1).tmod (2:Int)=(1:Int)∧¬(j1+1).tmod (2:Int)=(1:Int)) (by simp only [eq_true h_40,eq_false h_41,tsl]) z0)))) ?_
 exact⟨rfl,by kernel_rfl⟩
 refine A4 (rule=2) (fun h_45=>?_) (fun h_45=>?_)
 refine A4 ((i0+1).tmod (2:Int)=(1:Int)) (fun h_46=>?_) (fun h_46=>?_)
 refine rG cx [0,1,2,7,8,9,10,11,14] [1007] (tT 1 (A0 h_40) (tT 10 (A3 h_45) (tT 12 (A3 h_46) (tQ 16 ((j1+1).tmod (2:Int)=(1:Int)) (tD 19 (decide ¬(j1+1).tmod (2:Int)=(1:Int)) (rule=1∧(i0+1).tmod (2:Int)=(1:Int)∧(j1+1).tmod (2:Int)=(1:Int)∨¬rule=1∧rule=2∧(i0+1).tmod (2:Int)=(1:Int)∧¬(j1+1).tmod (2:Int)=(1:Int)) (by simp only [eq_false h_40,eq_true h_45,eq_true h_46,tsl]) z0))))) ?_
 exact⟨rfl,by kernel_rfl⟩
 refine rG cx [0,1,2,7,8,9,10,11,14] [1007] (tT 1 (A0 h_40) (tT 10 (A3 h_45) (tT 12 (A0 h_46) (tD 19 false (rule=1∧(i0+1).tmod (2:Int)=(1:Int)∧(j1+1).tmod (2:Int)=(1:Int)∨¬rule=1∧rule=2∧(i0+1).tmod (2:Int)=(1:Int)∧¬(j1+1).tmod (2:Int)=(1:Int)) (by simp only [eq_false h_40,eq_true h_45,eq_false h_46,tsl]) z0)))) ?_
 exact⟨rfl,by kernel_rfl⟩
 refine rG cx [0,1,2,7,8,9,10,11,14] [1007] (tT 1 (A0 h_40) (tT 10 (A0 h_45) (tD 19 false (rule=1∧(i0+1).tmod (2:Int)=(1:Int)∧(j1+1).tmod (2:Int)=(1:Int)∨¬rule=1∧rule=2∧(i0+1).tmod (2:Int)=(1:Int)∧¬(j1+1).tmod (2:Int)=(1:Int)) (by simp only [eq_false h_40,eq_false h_45,tsl]) z0))) ?_
 exact⟨rfl,by kernel_rfl⟩
 refine sn<|sq<|rG cx [0,1,2,7,8,9,10,11,14,109] [1007] (tT 2 (A4e:(AV.b !decide (rule=1∧(i0+1).tmod (2:Int)=(1:Int)∧(j1+1).tmod (2:Int)=(1:Int)∨¬rule=1∧rule=2∧(i0+1).tmod (2:Int)=(1:Int)∧¬(j1+1).tmod (2:Int)=(1:Int)) == w2)=AV.b (decide ¬decide (rule=1∧(i0+1).tmod (2:Int)=(1:Int)∧(j1+1).tmod (2:Int)=(1:Int)∨¬rule=1∧rule=2∧(i0+1).tmod (2:Int)=(1:Int)∧¬(j1+1).tmod (2:Int)=(1:Int))=w2)) z0)<|sn<|dC (¬decide (rule=1∧(i0+1).tmod (2:Int)=(1:Int)∧(j1+1).tmod (2:Int)=(1:Int)∨¬rule=1∧rule=2∧(i0+1).tmod (2:Int)=(1:Int)∧¬(j1+1).tmod (2:Int)=(1:Int))=w2) (fun h47=>?_) fun h47=>?_
 refine sq<|rG cx [0,1,2,7,8,9,14] [1007] (fR 3 (fR 1 (fR 1 (fX c3 [b[j1.toNat]!] 1 (fS c3 t3 c3 [b[j1.toNat]!] (fP (((List.map c3 t3).length+(List.map c3 [b[j1.toNat]!]).length)*(8:Nat)≤(140737488355328:Nat)) (by(simp only [Go.maxLen,List.length_map,List.length_append,List.length_cons,List.length_nil];omega)) (fM c3 t3 [b[j1.toNat]!] (oV 3 { rows:=some (List.map c3 (t3++[b[j1.toNat]!])) } z0))))))))<|sn<|rG cx [0,1,2,7,8,9,10] [1007] z0<|bN<|sn<|nX ((i0+1,j1+1,decide (rule=1∧(i0+1).tmod (2:Int)=(1:Int)∧(j1+1).tmod (2:Int)=(1:Int)∨¬rule=1∧rule=2∧(i0+1).tmod (2:Int)=(1:Int)∧¬(j1+1).tmod (2:Int)=(1:Int)),t3++[b[j1.toNat]!])) (show((↑a.length:Int)-(i0+1)+((↑b.length:Int)-(j1+1))).toNat <((↑a.length:Int)-i0+((↑b.length:Int)-j1)).toNat from(by omega)) (show A5y a b (O8 rule) (i0+1) (j1+1) (decide (rule=1∧(i0+1).tmod (2:Int)=(1:Int)∧(j1+1).tmod (2:Int)=(1:Int)∨¬rule=1∧rule=2∧(i0+1).tmod (2:Int)=(1:Int)∧¬(j1+1).tmod (2:Int)=(1:Int))) (t3++[b[j1.toNat]!])from ?g5);rotate_left
 refine sK<|bN<|sn<|nX ((i0+1,j1+1,w2,t3)) (show((↑a.length:Int)-(i0+1)+((↑b.length:Int)-(j1+1))).toNat <((↑a.length:Int)-i0+((↑b.length:Int)-j1)).toNat from(by omega)) (show A5y a b (O8 rule) (i0+1) (j1+1) w2 t3 from ?g6);rotate_left
 refine sK<|sn<|sq<|sq<|A4 (j1 <(↑b.length:Int)) (fun h48=>?_) (fun h48=>absurd (by omega) h48)
 refine rG cx [0,1,2,7,8,9,10,11,79] [1007] (tL 2 c3 b (tT 3 (A3 h48) (fA (0≤j1) (fG c3 b j1.toNat (fR 1 (tT 10 (A8v:AV.b (b[j1.toNat]! == b[j1.toNat]!)=AV.b true) (oR 7 (c3 b[j1.toNat]!) z0)))))))<|sn<|An3 (by kernel_rfl) (by kernel_rfl)<|rG cx [0,1,2,7,8,9,10,11] [1007] (tW 1 (j1+1) z0)<|sn<|sq<|rG cx [0,1,2,7,8,9,10,11,12,13] [1007] (tI 1 (i0.tmod (2:Int)) (tB 2 (i0.tmod (2:Int)=(1:Int)) (tI 4 ((j1+1).tmod (2:Int)) (tB 5 ((j1+1).tmod (2:Int)=(1:Int)) z0))))<|sn<|sq<|B3 (σ':=⟨[(0,.sl (List.map c3 a)),(1,.sl (List.map c3 b)),(2,.i .i64 (rule)),(7,.own 1007 0),(8,.i .i64 (i0)),(9,.i .i64 (j1+1)),(10,.b (w2)),(11,.i .i64 (b[j1.toNat]!)),(14,.b (decide (rule=1∧i0.tmod (2:Int)=(1:Int)∧(j1+1).tmod (2:Int)=(1:Int)∨¬rule=1∧rule=2∧i0.tmod (2:Int)=(1:Int)∧¬(j1+1).tmod (2:Int)=(1:Int))))],[(1007,⟨0,3,.row 1 (List.map c3 t3)⟩)]⟩) ?_ ?_
 refine A4 (rule=1) (fun h_50=>?_) (fun h_50=>?_)
 refine A4 (i0.tmod (2:Int)=(1:Int)) (fun h_51=>?_) (fun h_51=>?_)
 refine A4 ((j1+1).tmod (2:Int)=(1:Int)) (fun h_52=>?_) (fun h_52=>?_)
 refine rG cx [0,1,2,7,8,9,10,11,14] [1007] (tT 1 (A3 h_50) (tT 3 (A3 h_51) (tT 6 (A3 h_52) (tD 19 true (rule=1∧i0.tmod (2:Int)=(1:Int)∧(j1+1).tmod (2:Int)=(1:Int)∨¬rule=1∧rule=2∧i0.tmod (2:Int)=(1:Int)∧¬(j1+1).tmod (2:Int)=(1:Int)) (by simp only [eq_true h_50,eq_true h_51,eq_true h_52,tsl]) z0)))) ?_
 exact⟨rfl,by kernel_rfl⟩
 refine A4 (rule=2) (fun h_53=>absurd h_53 (by omega)) (fun h_53=>?_)
 refine rG cx [0,1,2,7,8,9,10,11,14] [1007] (tT 1 (A3 h_50) (tT 3 (A3 h_51) (tT 6 (A0 h_52) (tT 10 (A0 h_53) (tD 19 false (rule=1∧i0.tmod (2:Int)=(1:Int)∧(j1+1).tmod (2:Int)=(1:Int)∨¬rule=1∧rule=2∧i0.tmod (2:Int)=(1:Int)∧¬(j1+1).tmod (2:Int)=(1:Int)) (by simp only [eq_true h_50,eq_true h_51,eq_false h_52,tsl]) z0))))) ?_
 exact⟨rfl,by kernel_rfl⟩
 refine A4 (rule=2) (fun h_54=>absurd h_54 (by omega)) (fun h_54=>?_)
 refine rG cx [0,1,2,7,8,9,10,11,14] [1007] (tT 1 (A3 h_50) (tT 3 (A0 h_51) (tT 10 (A0 h_54) (tD 19 false (rule=1∧i0.tmod (2:Int)=(1:Int)∧(j1+1).tmod (2:Int)=(1:Int)∨¬rule=1∧rule=2∧i0.tmod (2:Int)=(1:Int)∧¬(j1+1).tmod (2:Int)=(1:Int)) (by simp only [eq_true h_50,eq_false h_51,tsl]) z0)))) ?_
 exact⟨rfl,by kernel_rfl⟩
 refine A4 (rule=2) (fun h_55=>?_) (fun h_55=>?_)
 refine A4 (i0.tmod (2:Int)=(1:Int)) (fun h_56=>?_) (fun h_56=>?_)
 refine rG cx [0,1,2,7,8,9,10,11,14] [1007] (tT 1 (A0 h_50) (tT 10 (A3 h_55) (tT 12 (A3 h_56) (tQ 16 ((j1+1).tmod (2:Int)=(1:Int)) (tD 19 (decide ¬(j1+1).tmod (2:Int)=(1:Int)) (rule=1∧i0.tmod (2:Int)=(1:Int)∧(j1+1).tmod (2:Int)=(1:Int)∨¬rule=1∧rule=2∧i0.tmod (2:Int)=(1:Int)∧¬(j1+1).tmod (2:Int)=(1:Int)) (by simp only [eq_false h_50,eq_true h_55,eq_true h_56,tsl]) z0))))) ?_
 exact⟨rfl,by kernel_rfl⟩
 refine rG cx [0,1,2,7,8,9,10,11,14] [1007] (tT 1 (A0 h_50) (tT 10 (A3 h_55) (tT 12 (A0 h_56) (tD 19 false (rule=1∧i0.tmod (2:Int)=(1:Int)∧(j1+1).tmod (2:Int)=(1:Int)∨¬rule=1∧rule=2∧i0.tmod (2:Int)=(1:Int)∧¬(j1+1).tmod (2:Int)=(1:Int)) (by simp only [eq_false h_50,eq_true h_55,eq_false h_56,tsl]) z0)))) ?_
 exact⟨rfl,by kernel_rfl⟩
 refine rG cx [0,1,2,7,8,9,10,11,14] [1007] (tT 1 (A0 h_50) (tT 10 (A0 h_55) (tD 19 false (rule=1∧i0.tmod (2:Int)=(1:Int)∧(j1+1).tmod (2:Int)=(1:Int)∨¬rule=1∧rule=2∧i0.tmod (2:Int)=(1:Int)∧¬(j1+1).tmod (2:Int)=(1:Int)) (by simp only [eq_false h_50,eq_false h_55,tsl]) z0))) ?_
 exact⟨rfl,by kernel_rfl⟩
 refine sn<|sq<|rG cx [0,1,2,7,8,9,10,11,14,109] [1007] (tT 2 (A4e:(AV.b !decide (rule=1∧i0.tmod (2:Int)=(1:Int)∧(j1+1).tmod (2:Int)=(1:Int)∨¬rule=1∧rule=2∧i0.tmod (2:Int)=(1:Int)∧¬(j1+1).tmod (2:Int)=(1:Int)) == w2)=AV.b (decide ¬decide (rule=1∧i0.tmod (2:Int)=(1:Int)∧(j1+1).tmod (2:Int)=(1:Int)∨¬rule=1∧rule=2∧i0.tmod (2:Int)=(1:Int)∧¬(j1+1).tmod (2:Int)=(1:Int))=w2)) z0)<|sn<|dC (¬decide (rule=1∧i0.tmod (2:Int)=(1:Int)∧(j1+1).tmod (2:Int)=(1:Int)∨¬rule=1∧rule=2∧i0.tmod (2:Int)=(1:Int)∧¬(j1+1).tmod (2:Int)=(1:Int))=w2) (fun h57=>?_) fun h57=>?_
 refine sq<|rG cx [0,1,2,7,8,9,14] [1007] (fR 3 (fR 1 (fR 1 (fX c3 [b[j1.toNat]!] 1 (fS c3 t3 c3 [b[j1.toNat]!] (fP (((List.map c3 t3).length+(List.map c3 [b[j1.toNat]!]).length)*(8:Nat)≤(140737488355328:Nat)) (by(simp only [Go.maxLen,List.length_map,List.length_append,List.length_cons,List.length_nil];omega)) (fM c3 t3 [b[j1.toNat]!] (oV 3 { rows:=some (List.map c3 (t3++[b[j1.toNat]!])) } z0))))))))<|sn<|rG cx [0,1,2,7,8,9,10] [1007] z0<|bN<|sn<|nX ((i0,j1+1,decide (rule=1∧i0.tmod (2:Int)=(1:Int)∧(j1+1).tmod (2:Int)=(1:Int)∨¬rule=1∧rule=2∧i0.tmod (2:Int)=(1:Int)∧¬(j1+1).tmod (2:Int)=(1:Int)),t3++[b[j1.toNat]!])) (show((↑a.length:Int)-i0+((↑b.length:Int)-(j1+1))).toNat <((↑a.length:Int)-i0+((↑b.length:Int)-j1)).toNat from(by omega)) (show A5y a b (O8 rule) i0 (j1+1) (decide (rule=1∧i0.tmod (2:Int)=(1:Int)∧(j1+1).tmod (2:Int)=(1:Int)∨¬rule=1∧rule=2∧i0.tmod (2:Int)=(1:Int)∧¬(j1+1).tmod (2:Int)=(1:Int))) (t3++[b[j1.toNat]!])from ?g7);rotate_left
 refine sK<|bN<|sn<|nX ((i0,j1+1,w2,t3)) (show((↑a.length:Int)-i0+((↑b.length:Int)-(j1+1))).toNat <((↑a.length:Int)-i0+((↑b.length:Int)-j1)).toNat from(by omega)) (show A5y a b (O8 rule) i0 (j1+1) w2 t3 from ?g8);rotate_left
 refine eX 0<|nE<|nE<|bH<|sn<|sq<|rG cx [6] [1007] z0<|sn<|rT<|qR (.sl (List.map c3 t3)) (.eq (by rw[B8j (by omega) (by omega) hh10]))
 case g1=>revert i0 j1 w2 t3 hh5 hh6 hh7 hh8 hh9 hh10 h13 h17 h18 h21 h22 h23 h24 h25;intro i j w t h0 h1 h2 h3 h4 h5 h6 h7 h8 h9;exfalso;omega
 case g2=>revert i0 j1 w2 t3 hh5 hh6 hh7 hh8 hh9 hh10 h13 h17 h18 h21 h22 h23 h24 h25;intro i j w t h0 h1 h2 h3 h4 h5 h6 h7 h8 h9;exfalso;omega
 case g3 =>
  exact st hh5 hh6 hh7 hh8 hh9 hh10 h13 (u:=a[i0.toNat]!) (by rw[if_pos (by omega)]) (by rw[if_pos ⟨h18,rfl⟩]) (by rw[if_neg h21]) (by omega) (A0s (by omega) hh7) (by rw[if_neg h34])
 case g4 =>
  exact st hh5 hh6 hh7 hh8 hh9 hh10 h13 (u:=a[i0.toNat]!) (by rw[if_pos (by omega)]) (by rw[if_pos ⟨h18,rfl⟩]) (by rw[if_neg h21]) (by omega) (by rw[← A0s (by omega) hh7];exact(Classical.not_not.1 h34).symm) (by rw[if_pos rfl])
 case g5 =>
  exact st hh5 hh6 hh7 hh8 hh9 hh10 h13 (u:=b[j1.toNat]!) (by rw[if_neg (by omega)]) (by rw[if_pos h37]) (by rw[if_pos ⟨h38,rfl⟩]) (by omega) (A0s (by omega) (by omega)) (by rw[if_neg h47])
 case g6 =>
  exact st hh5 hh6 hh7 hh8 hh9 hh10 h13 (u:=b[j1.toNat]!) (by rw[if_neg (by omega)]) (by rw[if_pos h37]) (by rw[if_pos ⟨h38,rfl⟩]) (by omega) (by rw[← A0s (by omega) (by omega)];exact(Classical.not_not.1 h47).symm) (by rw[if_pos rfl])
 case g7 =>
  exact st hh5 hh6 hh7 hh8 hh9 hh10 h13 (u:=b[j1.toNat]!) (by rw[if_neg (by omega)]) (by rw[if_neg h37]) (by rw[if_pos ⟨h48,rfl⟩]) (by omega) (A0s hh5 (by omega)) (by rw[if_neg h57])
 case g8 =>
  exact st hh5 hh6 hh7 hh8 hh9 hh10 h13 (u:=b[j1.toNat]!) (by rw[if_neg (by omega)]) (by rw[if_neg h37]) (by rw[if_pos ⟨h48,rfl⟩]) (by omega) (by rw[← A0s hh5 (by omega)];exact(Classical.not_not.1 h57).symm) (by rw[if_pos rfl])
theorem B8w (U V : Nat → List Run) (hU : sepU U) (hV : sepU V) : Con Tryz.prog 139 [.agg (Bt9 (tnS U)), .agg (Bt9 (tnS V)), .i .i64 2] (.agg (Bt9 (tnS (B6a U V)))) :=
  by
  refine sC A9 [.cell 6 177] 27 Tryz.func139 ?_
  intro e0 cx
  refine sq<|rG cx [2,3,4,6] [3,4,6] z0<|sn<|sq<|rG cx [2,3,4,6,7] [3,4,6,7] z0<|sn<|sq<|sq<|rG cx [2,3,4,6,7,8] [3,4,6,7] z0<|sn<|bL 0<|I2 3 ⟨0,177,.var [.sl (List.map c3 (tnS U (0))),.sl (List.map c3 (tnS U (1))),.sl (List.map c3 (tnS U (2))),.sl (List.map c3 (tnS U (3))),.sl (List.map c3 (tnS U (4))),.sl (List.map c3 (tnS U (5))),.sl (List.map c3 (tnS U (6))),.sl (List.map c3 (tnS U (7))),.sl (List.map c3 (tnS U (8))),.sl (List.map c3 (tnS U (9))),.sl (List.map c3 (tnS U (10))),.sl (List.map c3 (tnS U (11))),.sl (List.map c3 (tnS U (12))),.sl (List.map c3 (tnS U (13))),.sl (List.map c3 (tnS U (14))),.sl (List.map c3 (tnS U (15)))]⟩ [.sl (List.map c3 (tnS U (0))),.sl (List.map c3 (tnS U (1))),.sl (List.map c3 (tnS U (2))),.sl (List.map c3 (tnS U (3))),.sl (List.map c3 (tnS U (4))),.sl (List.map c3 (tnS U (5))),.sl (List.map c3 (tnS U (6))),.sl (List.map c3 (tnS U (7))),.sl (List.map c3 (tnS U (8))),.sl (List.map c3 (tnS U (9))),.sl (List.map c3 (tnS U (10))),.sl (List.map c3 (tnS U (11))),.sl (List.map c3 (tnS U (12))),.sl (List.map c3 (tnS U (13))),.sl (List.map c3 (tnS U (14))),.sl (List.map c3 (tnS U (15)))] (E8 c3 16 (tnS U)) (σ':=⟨[(2,.i .i64 ((2:Int))),(3,.ptr (3) (0) (0) (0)),(4,.ptr (4) (0) (0) (0)),(6,.ptr (6) (0) (0) (0)),(7,.ptr (7) (0) (0) (0)),(8,.i .i64 ((0:Int)))],[(3,⟨0,177,.arr (E8 c3 16 (tnS U))⟩),(4,⟨0,177,.var [.sl (List.map c3 (tnS V (0))),.sl (List.map c3 (tnS V (1))),.sl (List.map c3 (tnS V (2))),.sl (List.map c3 (tnS V (3))),.sl (List.map c3 (tnS V (4))),.sl (List.map c3 (tnS V (5))),.sl (List.map c3 (tnS V (6))),.sl (List.map c3 (tnS V (7))),.sl (List.map c3 (tnS V (8))),.sl (List.map c3 (tnS V (9))),.sl (List.map c3 (tnS V (10))),.sl (List.map c3 (tnS V (11))),.sl (List.map c3 (tnS V (12))),.sl (List.map c3 (tnS V (13))),.sl (List.map c3 (tnS V (14))),.sl (List.map c3 (tnS V (15)))]⟩),(6,⟨0,177,.var [.nl,.nl,.nl,.nl,.nl,.nl,.nl,.nl,.nl,.nl,.nl,.nl,.nl,.nl,.nl,.nl]⟩),(7,⟨0,177,.var [.nl,.nl,.nl,.nl,.nl,.nl,.nl,.nl,.nl,.nl,.nl,.nl,.nl,.nl,.nl,.nl]⟩)]⟩) (by kernel_rfl) (by kernel_rfl) (by kernel_rfl) (by kernel_rfl) (ZLe.of_eq (by kernel_rfl)) (by kernel_rfl)<|I2 4 ⟨0,177,.var [.sl (List.map c3 (tnS V (0))),.sl (List.map c3 (tnS V (1))),.sl (List.map c3 (tnS V (2))),.sl (List.map c3 (tnS V (3))),.sl (List.map c3 (tnS V (4))),.sl (List.map c3 (tnS V (5))),.sl (List.map c3 (tnS V (6))),.sl (List.map c3 (tnS V (7))),.sl (List.map c3 (tnS V (8))),.sl (List.map c3 (tnS V (9))),.sl (List.map c3 (tnS V (10))),.sl (List.map c3 (tnS V (11))),.sl (List.map c3 (tnS V (12))),.sl (List.map c3 (tnS V (13))),.sl (List.map c3 (tnS V (14))),.sl (List.map c3 (tnS V (15)))]⟩ [.sl (List.map c3 (tnS V (0))),.sl (List.map c3 (tnS V (1))),.sl (List.map c3 (tnS V (2))),.sl (List.map c3 (tnS V (3))),.sl (List.map c3 (tnS V (4))),.sl (List.map c3 (tnS V (5))),.sl (List.map c3 (tnS V (6))),.sl (List.map c3 (tnS V (7))),.sl (List.map c3 (tnS V (8))),.sl (List.map c3 (tnS V (9))),.sl (List.map c3 (tnS V (10))),.sl (List.map c3 (tnS V (11))),.sl (List.map c3 (tnS V (12))),.sl (List.map c3 (tnS V (13))),.sl (List.map c3 (tnS V (14))),.sl (List.map c3 (tnS V (15)))] (E8 c3 16 (tnS V)) (σ':=⟨[(2,.i .i64 ((2:Int))),(3,.ptr (3) (0) (0) (0)),(4,.ptr (4) (0) (0) (0)),(6,.ptr (6) (0) (0) (0)),(7,.ptr (7) (0) (0) (0)),(8,.i .i64 ((0:Int)))],[(3,⟨0,177,.arr (E8 c3 16 (tnS U))⟩),(4,⟨0,177,.arr (E8 c3 16 (tnS V))⟩),(6,⟨0,177,.var [.nl,.nl,.nl,.nl,.nl,.nl,.nl,.nl,.nl,.nl,.nl,.nl,.nl,.nl,.nl,.nl]⟩),(7,⟨0,177,.var [.nl,.nl,.nl,.nl,.nl,.nl,.nl,.nl,.nl,.nl,.nl,.nl,.nl,.nl,.nl,.nl]⟩)]⟩) (by kernel_rfl) (by kernel_rfl) (by kernel_rfl) (by kernel_rfl) (ZLe.of_eq (by kernel_rfl)) (by kernel_rfl) ?_
  refine I2 7 ⟨0,177,.var [.nl,.nl,.nl,.nl,.nl,.nl,.nl,.nl,.nl,.nl,.nl,.nl,.nl,.nl,.nl,.nl]⟩ [.nl,.nl,.nl,.nl,.nl,.nl,.nl,.nl,.nl,.nl,.nl,.nl,.nl,.nl,.nl,.nl] (E8 c3 16 fun x ↦ []) (σ':=⟨[(2,.i .i64 ((2:Int))),(3,.ptr (3) (0) (0) (0)),(4,.ptr (4) (0) (0) (0)),(6,.ptr (6) (0) (0) (0)),(7,.ptr (7) (0) (0) (0)),(8,.i .i64 ((0:Int)))],[(3,⟨0,177,.arr (E8 c3 16 (tnS U))⟩),(4,⟨0,177,.arr (E8 c3 16 (tnS V))⟩),(6,⟨0,177,.var [.nl,.nl,.nl,.nl,.nl,.nl,.nl,.nl,.nl,.nl,.nl,.nl,.nl,.nl,.nl,.nl]⟩),(7,⟨0,177,.arr (E8 c3 16 fun x ↦ [])⟩)]⟩) (by kernel_rfl) (by kernel_rfl) (by kernel_rfl) (by kernel_rfl) (B2n c3 16) (by kernel_rfl)<|sL (X:=Int×(Nat→List Int)×(Nat→List Int)×(Nat→List Int)) (fun x=>⟨[(2,.i .i64 ((2:Int))),(3,.ptr (3) (0) (0) (0)),(4,.ptr (4) (0) (0) (0)),(6,.ptr (6) (0) (0) (0)),(7,.ptr (7) (0) (0) (0)),(8,.i .i64 (x.1))],[(3,⟨0,177,.arr (E8 c3 16 x.2.1)⟩),(4,⟨0,177,.arr (E8 c3 16 x.2.2.1)⟩),(6,⟨0,177,.var [.nl,.nl,.nl,.nl,.nl,.nl,.nl,.nl,.nl,.nl,.nl,.nl,.nl,.nl,.nl,.nl]⟩),(7,⟨0,177,.arr (E8 c3 16 x.2.2.2)⟩)]⟩) (fun x ↦ decCo x.1 x.2.1 x.2.2.1 x.2.2.2) (fun x ↦ Bm8 U V x.1 x.2.1 x.2.2.1 x.2.2.2) [2,3,4,6,7,8] [3,4,6,7] (((0:Int),tnS U,tnS V,fun x ↦ [])) (show Bm8 U V (0:Int) (tnS U) (tnS V) fun x ↦ []from(by exact⟨rfl,rfl,by omega,by omega,fun k hk=>by omega⟩)) ?_
  rintro⟨r0,A1,B2,S3⟩ h_4
  obtain⟨hh5,h6,h7,h8,h9⟩:A1=tnS U∧B2=tnS V∧0≤r0∧r0≤16∧isCo U V r0 S3:=h_4
  refine sq<|rD cx [2,3,4,6,7,8,10] [3,4,6,7] (zB 1 (r0 <(16:Int))) (fun h10=>?_) fun h10=>?_
  refine sK<|sn<|sq<|bL 1<|rA cx [2,3,4,6,7,8] [3,4,6,7] (fA (0≤r0) (fO (r0 <(↑(16:Nat):Int)) (fP ((E8 c3 16 A1)[r0.toNat*(1:Nat)+0]?=some (AV.sl (List.map c3 (A1 r0.toNat)))) (by((try simp only [Nat.mul_one,Nat.add_zero,Nat.zero_add]);with_reducible refine E7 ?_;omega)) (fA (0≤r0) (fO (r0 <(↑(16:Nat):Int)) (fP ((E8 c3 16 B2)[r0.toNat*(1:Nat)+0]?=some (AV.sl (List.map c3 (B2 r0.toNat)))) (by((try simp only [Nat.mul_one,Nat.add_zero,Nat.zero_add]);with_reducible refine E7 ?_;omega)) (fT (con179 (A1 r0.toNat) (B2 r0.toNat) ((2:Int)) (by subst hh5;exact B4o hU (by omega)) (by subst h6;exact B4o hV (by omega))) (fA (0≤r0) (fO (r0 <(↑(16:Nat):Int)) (fP (r0.toNat*(1:Nat)+0 <(E8 c3 16 S3).length) (by rw[S7];omega) (fR [(E0 (AV.sl (List.map c3 (I5 (O8 (2:Int)) (A1 r0.toNat) (B2 r0.toNat) false false false)))).headD AV.dead] (fP ((E8 c3 16 S3).set (r0.toNat*(1:Nat)+0) ((E0 (AV.sl (List.map c3 (I5 (O8 (2:Int)) (A1 r0.toNat) (B2 r0.toNat) false false false)))).headD AV.dead)=E8 c3 16 (L4 S3 r0.toNat (I5 (O8 (2:Int)) (A1 r0.toNat) (B2 r0.toNat) false false false))) (by((try simp only [Nat.mul_one,Nat.add_zero,Nat.zero_add]);(with_reducible refine A51 ?_);exact Eq.refl _)) (oR 4 [.sl (List.map c3 (A1 r0.toNat))] (oR 8 [.sl (List.map c3 (B2 r0.toNat))] (oA 10 (.sl (List.map c3 (I5 (O8 (2:Int)) (A1 r0.toNat) (B2 r0.toNat) false false false))) (oV 13 { rows:=some [(E8 c3 16 (L4 S3 r0.toNat (I5 (O8 (2:Int)) (A1 r0.toNat) (B2 r0.toNat) false false false)))] } z0)))))))))))))))) ?_
  refine bN<|sn<|rG cx [2,3,4,6,7,8] [3,4,6,7] (tW 1 (r0+1) z0)<|sn<|nX ((r0+1,A1,B2,L4 S3 r0.toNat (I5 (O8 (2:Int)) (A1 r0.toNat) (B2 r0.toNat) false false false))) (show(16-(r0+1)).toNat <(16-r0).toNat from(by omega)) (show Bm8 U V (r0+1) A1 B2 (L4 S3 r0.toNat (I5 (O8 (2:Int)) (A1 r0.toNat) (B2 r0.toNat) false false false))from(by subst hh5 h6;exact⟨rfl,rfl,by omega,by omega,B4p hU hV h7 h10 h9⟩))
  refine eX 0<|nE<|nE<|bH<|sn<|sq<|rG cx [6] [6] (fR 16 z0)<|sn<|rT<|qR (.agg [.sl (List.map c3 (S3 (0))),.sl (List.map c3 (S3 (1))),.sl (List.map c3 (S3 (2))),.sl (List.map c3 (S3 (3))),.sl (List.map c3 (S3 (4))),.sl (List.map c3 (S3 (5))),.sl (List.map c3 (S3 (6))),.sl (List.map c3 (S3 (7))),.sl (List.map c3 (S3 (8))),.sl (List.map c3 (S3 (9))),.sl (List.map c3 (S3 (10))),.sl (List.map c3 (S3 (11))),.sl (List.map c3 (S3 (12))),.sl (List.map c3 (S3 (13))),.sl (List.map c3 (S3 (14))),.sl (List.map c3 (S3 (15)))]) (.eq ?g5);rotate_left
  case g5 =>
    refine congrArg AV.agg ?_
    show E8 c3 16 S3=E8 c3 16 (tnS (B6a U V))
    unfold E8
    refine List.map_congr_left fun k hk=>?_
    rw [h9 k (by have : k < 16 := by simpa using hk
                 omega)]
theorem con92(a b:Past)(ha:a.cloud.length*16≤140737488350000)(hb:b.cloud.length*16≤140737488350000):Con Tryz.prog 92 [.agg (c26 a),.agg (c26 b)] (.agg (c26 (B6 a b))) :=
 by
 refine sC A9 [.cell 4 26] 11 Tryz.func92 ?_
 intro e0 cx
 refine sq<|rG cx [2,3,4] [2,3,4] z0<|sn<|sq<|rA cx [4] [4] (fT (Ax3 (a) (by(with_reducible assumption))) (fT (Ax3 (b) (by(with_reducible assumption))) (fT (B8w (E4 (A8 [a])) (E4 (A8 [b])) ?g0 ?g1) (fT (Be0 (B6a (E4 (A8 [a])) (E4 (A8 [b]))) ?g2) (oA 1 (.agg (E8 c3 16 (tnS (E4 (A8 [a]))))) (oA 3 (.agg (E8 c3 16 (tnS (E4 (A8 [b]))))) (oA 4 (.agg (E8 c3 16 (tnS (B6a (E4 (A8 [a])) (E4 (A8 [b])))))) (oA 5 (.agg [.sl (List.map c3 (G1 (B6a (E4 (A8 [a])) (E4 (A8 [b])))).vec),.sl (List.map B5 (G1 (B6a (E4 (A8 [a])) (E4 (A8 [b])))).cloud)]) z0)))))))) ?_;rotate_left 3
 refine sn<|rT<|qR (.agg [.sl (List.map c3 (G1 (B6a (E4 (A8 [a])) (E4 (A8 [b])))).vec),.sl (List.map B5 (G1 (B6a (E4 (A8 [a])) (E4 (A8 [b])))).cloud)]) (.eq ?g3);rotate_left
 case g0=>exact A9c _
 case g1=>exact A9c _
 case g2=>intro r hr;exact A2b _ _
 case g3=>rw[Bm9];rfl
theorem con138(p:Past)(hb:p.cloud.length*16≤140737488350000):Con Tryz.prog 138 [.agg (c26 p)] (.i .i64 (C2 p)) :=
 by
 have hl:∀ r,(E4 (A8 [p]) r).length≤500000000:=fun r=>N2 (F1 _)
 have hz:∀ n,0≤sizeT (E4 (A8 [p])) n∧sizeT (E4 (A8 [p])) n≤n*1000000000:=A2h _
 have hk:∀ r n,0≤H7 ((E4 (A8 [p]) r).take n)∧H7 ((E4 (A8 [p]) r).take n)≤1000000000:=fun r n=>A2g (Ah1 (F1 _) n)
 have hr:∀(r:Nat) (k:Int),0≤k→k+1 < 2*(E4 (A8 [p]) r).length→1≤(E4 (A8 [p]) r)[(k / 2).toNat]!.lo∧(E4 (A8 [p]) r)[(k / 2).toNat]!.lo≤(E4 (A8 [p]) r)[(k / 2).toNat]!.hi∧(E4 (A8 [p]) r)[(k / 2).toNat]!.hi≤1000000000 :=
  fun r k h0 h1=>(F1 _).2 _ (E2 (by have h2:k+1 < 2*(nrm (A8 [p] r)).length:=h1;omega))
 have ht:∀ r,(tnS (E4 (A8 [p])) r).length=2*(E4 (A8 [p]) r).length:=fun r=>A5x _
 have hs:=Ai7 (A8 [p])
 have hU:∀ r,nrm (E4 (A8 [p]) r)=E4 (A8 [p]) r:=Be1
 have hP:C2 p=sizeT (E4 (A8 [p])) 16:=(A9j p).trans (hs 16).symm
 clear hs
 refine sC A9 [.tmp 2] 42 Tryz.func138 ?_
 intro e0 cx
 refine sq<|rG cx [1] [1] z0<|sn<|sq<|rG cx [3] [3] (fT (Ax3 (p) (by(with_reducible assumption))) (oA 1 (.agg (E8 c3 16 (tnS (E4 (A8 [p]))))) z0))<|sn<|sq<|rG cx [3,4] [3] z0<|sn<|sq<|sq<|rG cx [3,4,5] [3] z0<|sn<|bL 0<|I2 3 ⟨0,177,.var [.sl (List.map c3 (tnS (E4 (A8 [p])) (0))),.sl (List.map c3 (tnS (E4 (A8 [p])) (1))),.sl (List.map c3 (tnS (E4 (A8 [p])) (2))),.sl (List.map c3 (tnS (E4 (A8 [p])) (3))),.sl (List.map c3 (tnS (E4 (A8 [p])) (4))),.sl (List.map c3 (tnS (E4 (A8 [p])) (5))),.sl (List.map c3 (tnS (E4 (A8 [p])) (6))),.sl (List.map c3 (tnS (E4 (A8 [p])) (7))),.sl (List.map c3 (tnS (E4 (A8 [p])) (8))),.sl (List.map c3 (tnS (E4 (A8 [p])) (9))),.sl (List.map c3 (tnS (E4 (A8 [p])) (10))),.sl (List.map c3 (tnS (E4 (A8 [p])) (11))),.sl (List.map c3 (tnS (E4 (A8 [p])) (12))),.sl (List.map c3 (tnS (E4 (A8 [p])) (13))),.sl (List.map c3 (tnS (E4 (A8 [p])) (14))),.sl (List.map c3 (tnS (E4 (A8 [p])) (15)))]⟩ [.sl (List.map c3 (tnS (E4 (A8 [p])) (0))),.sl (List.map c3 (tnS (E4 (A8 [p])) (1))),.sl (List.map c3 (tnS (E4 (A8 [p])) (2))),.sl (List.map c3 (tnS (E4 (A8 [p])) (3))),.sl (List.map c3 (tnS (E4 (A8 [p])) (4))),.sl (List.map c3 (tnS (E4 (A8 [p])) (5))),.sl (List.map c3 (tnS (E4 (A8 [p])) (6))),.sl (List.map c3 (tnS (E4 (A8 [p])) (7))),.sl (List.map c3 (tnS (E4 (A8 [p])) (8))),.sl (List.map c3 (tnS (E4 (A8 [p])) (9))),.sl (List.map c3 (tnS (E4 (A8 [p])) (10))),.sl (List.map c3 (tnS (E4 (A8 [p])) (11))),.sl (List.map c3 (tnS (E4 (A8 [p])) (12))),.sl (List.map c3 (tnS (E4 (A8 [p])) (13))),.sl (List.map c3 (tnS (E4 (A8 [p])) (14))),.sl (List.map c3 (tnS (E4 (A8 [p])) (15)))] (E8 c3 16 (tnS (E4 (A8 [p])))) (σ':=⟨[(3,.ptr (3) (0) (0) (0)),(4,.i .i64 ((0:Int))),(5,.i .i64 ((0:Int)))],[(3,⟨0,177,.arr (E8 c3 16 (tnS (E4 (A8 [p]))))⟩)]⟩) (by kernel_rfl) (by kernel_rfl) (by kernel_rfl) (by kernel_rfl) (ZLe.of_eq (by kernel_rfl)) (by kernel_rfl)<|sL (X:=Int×Int×(Nat→List Int)) (fun x=>⟨[(3,.ptr (3) (0) (0) (0)),(4,.i .i64 (x.1)),(5,.i .i64 (x.2.1))],[(3,⟨0,177,.arr (E8 c3 16 x.2.2)⟩)]⟩) (fun x ↦ decRs x.1 x.2.1 x.2.2) (fun x ↦ Bn0 (E4 (A8 [p])) x.1 x.2.1 x.2.2) [3,4,5] [3] (((0:Int),(0:Int),tnS (E4 (A8 [p])))) (show Bn0 (E4 (A8 [p])) (0:Int) (0:Int) (tnS (E4 (A8 [p])))from ?g0) ?_;rotate_left
 rintro⟨n0,r1,S2⟩ h_3
 obtain⟨hh4,h5,hh6,h7⟩:S2=tnS (E4 (A8 [p]))∧0≤r1∧r1≤16∧n0=sizeT (E4 (A8 [p])) r1.toNat:=h_3
 refine sq<|rD cx [3,4,5,10] [3] (zB 1 (r1 <(16:Int))) (fun h8=>?_) fun h8=>?_
 refine sK<|sn<|sq<|bL 1<|sq<|rG cx [3,4,5,6] [3] z0<|sn<|bL 2<|sL (X:=Int×Int×(Nat→List Int)) (fun x=>⟨[(3,.ptr (3) (0) (0) (0)),(4,.i .i64 (x.1)),(5,.i .i64 (r1)),(6,.i .i64 (x.2.1))],[(3,⟨0,177,.arr (E8 c3 16 x.2.2)⟩)]⟩) (fun x ↦ decRt (E4 (A8 [p])) r1 x.1 x.2.1 x.2.2) (fun x ↦ Bn1 (E4 (A8 [p])) r1 n0 x.1 x.2.1 x.2.2) [3,4,5,6] [3] ((n0,(0:Int),S2)) (show Bn1 (E4 (A8 [p])) r1 n0 n0 (0:Int) S2 from ?g1) ?_;rotate_left
 rintro⟨n9,k10,S11⟩ h_12
 obtain⟨h13,h14,h15,h16,h17⟩:S11=tnS (E4 (A8 [p]))∧0≤k10∧k10≤(2:Int)*(↑(E4 (A8 [p]) r1.toNat).length:Int)∧(2:Int)*(k10 / (2:Int))=k10∧n9=n0+H7 (List.take (k10 / (2:Int)).toNat (E4 (A8 [p]) r1.toNat)):=h_12
 refine sq<|sq<|rG cx [3,4,5,6,20] [3] (tT 1 (B7 (by omega) ?g2:AV.i .i64 (IntKind.i64.wrap (k10+1))=AV.i .i64 (k10+1)) (fA (0≤r1) (fO (r1 <(↑(16:Nat):Int)) (fP ((E8 c3 16 S11)[r1.toNat*(1:Nat)+0]?=some (AV.sl (List.map c3 (S11 r1.toNat)))) (by((try simp only [Nat.mul_one,Nat.add_zero,Nat.zero_add]);with_reducible refine E7 ?_;omega)) (tL 6 c3 (S11 r1.toNat) (tB 7 (k10+1 <(↑(S11 r1.toNat).length:Int)) (oR 5 [.sl (List.map c3 (S11 r1.toNat))] z0))))))) ?_;rotate_left
 refine sn<|dC (k10+1 <(↑(S11 r1.toNat).length:Int)) (fun h18=>?_) fun h18=>?_
 refine sK<|sn<|sq<|bL 3<|rA cx [3,4,5,6] [3] (fA (0≤r1) (fO (r1 <(↑(16:Nat):Int)) (fP ((E8 c3 16 S11)[r1.toNat*(1:Nat)+0]?=some (AV.sl (List.map c3 (S11 r1.toNat)))) (by((try simp only [Nat.mul_one,Nat.add_zero,Nat.zero_add]);with_reducible refine E7 ?_;omega)) (tT 6 (B7 (by omega) ?g3:AV.i .i64 (IntKind.i64.wrap (k10+1))=AV.i .i64 (k10+1)) (fO (0≤k10+1) (fG c3 (S11 r1.toNat) ((k10+1).toNat) (fR 1 (fA (0≤r1) (fO (r1 <(↑(16:Nat):Int)) (fP ((E8 c3 16 S11)[r1.toNat*(1:Nat)+0]?=some (AV.sl (List.map c3 (S11 r1.toNat)))) (by((try simp only [Nat.mul_one,Nat.add_zero,Nat.zero_add]);with_reducible refine E7 ?_;omega)) (fA (0≤k10) (fG c3 (S11 r1.toNat) k10.toNat (fR 1 (tT 16 (B7 ?g4 ?g5:AV.i .i64 (IntKind.i64.wrap ((S11 r1.toNat)[(k10+1).toNat]!-(S11 r1.toNat)[k10.toNat]!))=AV.i .i64 ((S11 r1.toNat)[(k10+1).toNat]!-(S11 r1.toNat)[k10.toNat]!)) (tT 17 (B7 ?g6 ?g7:AV.i .i64 (IntKind.i64.wrap (n9+((S11 r1.toNat)[(k10+1).toNat]!-(S11 r1.toNat)[k10.toNat]!)))=AV.i .i64 (n9+((S11 r1.toNat)[(k10+1).toNat]!-(S11 r1.toNat)[k10.toNat]!))) (oR 4 [.sl (List.map c3 (S11 r1.toNat))] (oR 7 (c3 (S11 r1.toNat)[(k10+1).toNat]!) (oR 12 [.sl (List.map c3 (S11 r1.toNat))] (oR 14 (c3 (S11 r1.toNat)[k10.toNat]!) z0))))))))))))))))))) ?_;rotate_left 5
 refine bN<|sn<|rG cx [3,4,5,6] [3] (tT 1 (B7 (by omega) ?g8:AV.i .i64 (IntKind.i64.wrap (k10+2))=AV.i .i64 (k10+2)) z0) ?_;rotate_left
 refine sn<|nX ((n9+((S11 r1.toNat)[(k10+1).toNat]!-(S11 r1.toNat)[k10.toNat]!),k10+2,S11)) (show((2:Int)*(↑(E4 (A8 [p]) r1.toNat).length:Int)-(k10+2)).toNat <((2:Int)*(↑(E4 (A8 [p]) r1.toNat).length:Int)-k10).toNat from ?g9) (show Bn1 (E4 (A8 [p])) r1 n0 (n9+((S11 r1.toNat)[(k10+1).toNat]!-(S11 r1.toNat)[k10.toNat]!)) (k10+2) S11 from ?g10);rotate_left 2
 refine eX 2<|nE<|nE<|bH<|bN<|sn<|rG cx [3,4,5] [3] (tW 1 (r1+1) z0)<|sn<|nX ((n9,r1+1,S11)) (show(16-(r1+1)).toNat <(16-r1).toNat from(by omega)) (show Bn0 (E4 (A8 [p])) n9 (r1+1) S11 from ?g11);rotate_left
 refine eX 0<|nE<|nE<|bH<|sn<|sq<|rG cx [2] [] z0<|sn<|rT<|qR (.i .i64 (n0)) (.eq ?g12);rotate_left
 rotate_left
 revert n0 r1 S2 hh4 h5 hh6 h7 h8;rotate_left
 revert n0 r1 S2 hh4 h5 hh6 h7 h8 n9 k10 S11 h13 h14 h15 h16 h17;rotate_left
 revert n0 r1 S2 hh4 h5 hh6 h7 h8 n9 k10 S11 h13 h14 h15 h16 h17 h18;rotate_left
 revert n0 r1 S2 hh4 h5 hh6 h7 h8 n9 k10 S11 h13 h14 h15 h16 h17 h18;rotate_left
 revert n0 r1 S2 hh4 h5 hh6 h7 h8 n9 k10 S11 h13 h14 h15 h16 h17 h18;rotate_left
 revert n0 r1 S2 hh4 h5 hh6 h7 h8 n9 k10 S11 h13 h14 h15 h16 h17 h18;rotate_left
 revert n0 r1 S2 hh4 h5 hh6 h7 h8 n9 k10 S11 h13 h14 h15 h16 h17 h18;rotate_left
 revert n0 r1 S2 hh4 h5 hh6 h7 h8 n9 k10 S11 h13 h14 h15 h16 h17 h18;rotate_left
 revert n0 r1 S2 hh4 h5 hh6 h7 h8 n9 k10 S11 h13 h14 h15 h16 h17 h18;rotate_left
 revert n0 r1 S2 hh4 h5 hh6 h7 h8 n9 k10 S11 h13 h14 h15 h16 h17 h18;rotate_left
 revert n0 r1 S2 hh4 h5 hh6 h7 h8 n9 k10 S11 h13 h14 h15 h16 h17 h18;rotate_left
 revert n0 r1 S2 hh4 h5 hh6 h7 h8;rotate_left
 all_goals generalize E4 (A8 [p])=U at *
 case g0=>exact⟨rfl,by omega,by omega,rfl⟩
 case g1=>intro n r S h0 h1 h2 h3 h4;exact⟨h0,by omega,by omega,by omega,by simp [H7]⟩
 case g2=>intro n r S h0 h1 h2 h3 h4 m k R k0 k1 k2 k3 k4;have:=hl r.toNat;omega
 case g3=>intro n r S h0 h1 h2 h3 h4 m k R k0 k1 k2 k3 k4 k5;have:=hl r.toNat;omega
 case g4 =>
  intro n r S h0 h1 h2 h3 h4 m k R k0 k1 k2 k3 k4 k5
  subst k0;rw[ht]at k5
  have:=Ai6 (U:=U) (r:=r) k1 k3 (by omega);have:=hr r.toNat k k1 (by omega);omega
 case g5 =>
  intro n r S h0 h1 h2 h3 h4 m k R k0 k1 k2 k3 k4 k5
  subst k0;rw[ht]at k5
  have:=Ai6 (U:=U) (r:=r) k1 k3 (by omega);have:=hr r.toNat k k1 (by omega);omega
 case g6 =>
  intro n r S h0 h1 h2 h3 h4 m k R k0 k1 k2 k3 k4 k5
  subst k0;rw[ht]at k5
  have:=Ai6 (U:=U) (r:=r) k1 k3 (by omega);have:=hr r.toNat k k1 (by omega)
  have:=hz r.toNat;have:=hk r.toNat (k / 2).toNat;omega
 case g7 =>
  intro n r S h0 h1 h2 h3 h4 m k R k0 k1 k2 k3 k4 k5
  subst k0;rw[ht]at k5
  have:=Ai6 (U:=U) (r:=r) k1 k3 (by omega);have:=hr r.toNat k k1 (by omega)
  have:=hz r.toNat;have:=hk r.toNat (k / 2).toNat;omega
 case g8=>intro n r S h0 h1 h2 h3 h4 m k R k0 k1 k2 k3 k4 k5;have:=hl r.toNat;omega
 case g9=>intro n r S h0 h1 h2 h3 h4 m k R k0 k1 k2 k3 k4 k5;subst k0;rw[ht]at k5;omega
 case g10 =>
  intro n r S h0 h1 h2 h3 h4 m k R k0 k1 k2 k3 k4 k5
  subst k0;rw[ht]at k5
  have h6:=Ai6 (U:=U) (r:=r) k1 k3 (by omega)
  refine⟨rfl,by omega,by omega,by omega,?_⟩
  rw[B4q k1 k3 (by omega)]
  omega
 case g11 =>
  intro n r S h0 h1 h2 h3 h4 m k R k0 k1 k2 k3 k4 k5
  subst k0;rw[ht]at k5
  refine⟨rfl,by omega,by omega,?_⟩
  rw[show(r+1).toNat=r.toNat+1 by omega,sizeT,hU,k4,h3,List.take_of_length_le (by omega)]
 case g12=>intro n r S h0 h1 h2 h3 h4;rw[h3,hP,show r.toNat=16 by omega]
theorem con91(p:Past)(hb:p.cloud.length*16≤140737488350000):Con Tryz.prog 91 [.agg (c26 p)] (.b (decide (C2 p=0))) :=
 by
 refine sC A9 [.tmp 2] 6 Tryz.func91 ?_
 intro e0 cx
 refine sq<|rG cx [1] [1] z0<|sn<|sq<|rG cx [2] [] (fT (con138 (p) (by(with_reducible assumption))) (tB 2 (C2 p=0) (oA 1 (.i .i64 (C2 p)) z0)))<|sn<|rT ?_
 exact A43 (r:=.b (decide (C2 p=0))) (obl:=[]) (by kernel_rfl) trivial (B9.refl _)
end Go.Proofs.YtokhjapfekbobaaGreat
namespace Go.Proofs.YtokhjapfekbobaaGreat
open Go.E
set_option maxRecDepth 100000
set_option maxHeartbeats 4000000
def Ap9(x y:Past)(r:Int)(u:List Int)(c:List Span)(v:List Int)(d:List Span):Prop:=u=x.vec∧c=x.cloud∧v=y.vec∧d=y.cloud∧0≤r∧r≤16∧Al6 x.vec y.vec r
def decRc(r:Int)(u:List Int)(c:List Span)(v:List Int)(d:List Span):Nat:=(16-r).toNat
def Bn2(x y:Past)(i:Int)(u:List Int)(c:List Span)(v:List Int)(d:List Span):Prop:=c=x.cloud∧d=y.cloud∧0≤i∧i≤x.cloud.length∧i≤y.cloud.length∧O3 x.cloud y.cloud=O3 (x.cloud.drop i.toNat) (y.cloud.drop i.toNat)
def decRd2(x:Past)(i:Int)(u:List Int)(c:List Span)(v:List Int)(d:List Span):Nat:=(x.cloud.length-i).toNat
theorem A5z(a b:Int):Con Tryz.prog 177 [.i .i64 a,.i .i64 b] (.i .i64 (I7 a b)) :=
 by
 refine sC A9 [.tmp 4] 11 Tryz.func177 ?_
 intro e0 cx
 refine sq<|rG cx [0,1] [] z0<|sn<|sq<|rD cx [0,1,7] [] (zB 2 (a < b)) (fun h0=>?_) fun h0=>?_
 refine sq<|rG cx [4] [] z0<|sn<|rT<|nR<|qR (.i .i64 ((-1:Int))) (.eq (by unfold I7;rw[if_pos h0]))
 refine sK<|sn<|sq<|rD cx [10] [] (zB 2 (b < a)) (fun h1=>?_) fun h1=>?_
 refine sq<|rG cx [4] [] z0<|sn<|rT<|nR<|qR (.i .i64 ((1:Int))) (.eq (by unfold I7;rw[if_neg h0,if_pos h1]))
 refine sK<|sn<|sq<|rG cx [4] [] z0<|sn<|rT<|qR (.i .i64 ((0:Int))) (.eq (by unfold I7;rw[if_neg h0,if_neg h1]))
theorem con134(p q:Past)(hb:p.cloud.length*16≤140737488350000)(hq:q.cloud.length*16≤140737488350000):Con Tryz.prog 134 [.agg (c26 p),.agg (c26 q)] (.i .i64 (Ag4 p q)) :=
 by
 have D:∀ {r:Int} {u v:List Int},u=(A5 p).vec→v=(A5 q).vec→0≤r→r < 16→∀ {a b:Int},u[r.toNat]! = a→v[r.toNat]! = b→¬ a=b→Al6 (A5 p).vec (A5 q).vec r→I7 a b=Ag4 p q:=by
  intro r u v e1 e3 h0 h1 a b ha hb hn h
  rw[e1]at ha
  rw[e3]at hb
  have e:=B3t h0 h1 (by rw[ha,hb];exact hn) h
  rw[ha,hb]at e
  exact(Bc3 e (A1l hn)).symm
 have N:∀ {r:Int} {u v:List Int} {c d:List Span},u=(A5 p).vec→c=(A5 p).cloud→v=(A5 q).vec→d=(A5 q).cloud→0≤r→r < 16→∀ {a b:Int},u[r.toNat]! = a→v[r.toNat]! = b→¬ ¬ a=b→Al6 (A5 p).vec (A5 q).vec r→Ap9 (A5 p) (A5 q) (r+1) u c v d:=by
  intro r u v c d e1 e2 e3 e4 h0 h1 a b ha hb hn h
  have e:=B3u h0 h1 (by rw[← e1,← e3,ha,hb];exact Classical.not_not.1 hn) h
  exact⟨e1,e2,e3,e4,e.1,e.2.1,e.2.2⟩
 have S1:∀ {s t:Span},¬ s.rep=t.rep→I7 s.rep t.rep=A2d s t:=fun {s t} h=>by unfold A2d;rw[if_pos (A1l h)]
 have S2:∀ {s t:Span},s.rep=t.rep→¬ s.lo=t.lo→I7 s.lo t.lo=A2d s t:=fun {s t} h0 h=>by unfold A2d;rw[if_neg (fun k=>k (J0.2 h0)),if_pos (A1l h)]
 have S3:∀ {s t:Span},s.rep=t.rep→s.lo=t.lo→I7 s.hi t.hi=A2d s t:=fun {s t} h0 h=>by unfold A2d;rw[if_neg (fun k=>k (J0.2 h0)),if_neg (fun k=>k (J0.2 h))]
 have E:∀ {i z:Int} {c d:List Span},c=(A5 p).cloud→d=(A5 q).cloud→0≤i→(i < c.length∧i < d.length)→O3 (A5 p).cloud (A5 q).cloud=O3 ((A5 p).cloud.drop i.toNat) ((A5 q).cloud.drop i.toNat)→A9g (A5 p).vec (A5 q).vec 0 16=0→¬ z=0→z=A2d c[i.toNat]! d[i.toNat]!→z=Ag4 p q:=by
  intro i z c d e1 e2 h0 hl h hf hz e
  rw[e1,e2]at hl e
  rw[A9h hf,B3q h0 hl.1 hl.2 (by rw[← e];exact hz) h]
  exact e
 refine sC A9 [.tmp 4] 106 Tryz.func134 ?_
 intro e0 cx
 refine sq<|rG cx [2,3] [2,3] z0<|sn<|sq<|rG cx [2,3] [2,3] (fT (Bm7 (p) (by(with_reducible assumption))) (oA 1 (.agg [.sl (List.map c3 (A5 p).vec),.sl (List.map B5 (A5 p).cloud)]) z0))<|sn<|sq<|rG cx [2,3] [2,3] (fT (Bm7 (q) (by(with_reducible assumption))) (oA 1 (.agg [.sl (List.map c3 (A5 q).vec),.sl (List.map B5 (A5 q).cloud)]) z0))<|sn<|sq<|sq<|rG cx [2,3,5] [2,3] z0<|sn<|bL 0<|sL (X:=Int×List Int×List Span×List Int×List Span) (fun x=>⟨[(2,.ptr (2) (0) (0) (0)),(3,.ptr (3) (0) (0) (0)),(5,.i .i64 (x.1))],[(2,⟨0,26,.var [.sl (List.map c3 x.2.1),.sl (List.map B5 x.2.2.1)]⟩),(3,⟨0,26,.var [.sl (List.map c3 x.2.2.2.1),.sl (List.map B5 x.2.2.2.2)]⟩)]⟩) (fun x ↦ decRc x.1 x.2.1 x.2.2.1 x.2.2.2.1 x.2.2.2.2) (fun x ↦ Ap9 (A5 p) (A5 q) x.1 x.2.1 x.2.2.1 x.2.2.2.1 x.2.2.2.2) [2,3,5] [2,3] (((0:Int),(A5 p).vec,(A5 p).cloud,(A5 q).vec,(A5 q).cloud)) (show Ap9 (A5 p) (A5 q) (0:Int) (A5 p).vec (A5 p).cloud (A5 q).vec (A5 q).cloud from(by exact⟨Eq.refl _,Eq.refl _,Eq.refl _,Eq.refl _,by omega,by omega,Eq.refl _⟩)) ?_
 rintro⟨r0,u1,c2,v3,d4⟩ h_5
 obtain⟨h6,h7,h8,h9,h10,h11,h12⟩:u1=(A5 p).vec∧c2=(A5 p).cloud∧v3=(A5 q).vec∧d4=(A5 q).cloud∧0≤r0∧r0≤16∧Al6 (A5 p).vec (A5 q).vec r0:=h_5
 refine sq<|rD cx [2,3,5,16] [2,3] (zB 1 (r0 <(16:Int))) (fun h13=>?_) fun h13=>?_
 refine sK<|sn<|sq<|bL 1<|sq<|rG cx [2,3,5,6,7] [2,3] z0<|sn<|sq<|rD cx [2,3,5,6,7,23] [2,3] (tL 3 c3 u1 (zB 4 (r0 <(↑u1.length:Int)))) (fun h14=>?_) fun h14=>?_
 refine rG cx [2,3,5,6,7] [2,3] (fA (0≤r0) (fG c3 u1 r0.toNat (fR 1 (oR 3 (c3 u1[r0.toNat]!) z0))))<|sn<|sq<|rD cx [2,3,5,6,7,33] [2,3] (tL 3 c3 v3 (zB 4 (r0 <(↑v3.length:Int)))) (fun h15=>?_) fun h15=>?_
 refine rG cx [2,3,5,6,7] [2,3] (fA (0≤r0) (fG c3 v3 r0.toNat (fR 1 (oR 3 (c3 v3[r0.toNat]!) z0))))<|sn<|sq<|rG cx [2,3,5,6,7,41] [2,3] (tN 2 u1[r0.toNat]! v3[r0.toNat]! z0)<|sn<|dC (¬u1[r0.toNat]! = v3[r0.toNat]!) (fun h16=>?_) fun h16=>?_
 refine sq<|rG cx [4] [] (fT (A5z (u1[r0.toNat]!) (v3[r0.toNat]!)) (oA 2 (.i .i64 (I7 u1[r0.toNat]! v3[r0.toNat]!)) z0))<|sn<|rT<|bR<|nR<|nR<|bR<|nR<|qR (.i .i64 (I7 u1[r0.toNat]! v3[r0.toNat]!)) (.eq (by exact congrArg (AV.i .i64) (D h6 h8 h10 h13 (Eq.refl _) (Eq.refl _) h16 h12)))
 refine sK<|bN<|sn<|rG cx [2,3,5] [2,3] (tW 1 (r0+1) z0)<|sn<|nX ((r0+1,u1,c2,v3,d4)) (show(16-(r0+1)).toNat <(16-r0).toNat from(by omega)) (show Ap9 (A5 p) (A5 q) (r0+1) u1 c2 v3 d4 from(by exact N h6 h7 h8 h9 h10 h13 (Eq.refl _) (Eq.refl _) h16 h12))
 refine sK<|sn<|sq<|rG cx [2,3,5,6,7,41] [2,3] (tN 2 u1[r0.toNat]! (0:Int) z0)<|sn<|dC (¬u1[r0.toNat]! =(0:Int)) (fun h17=>?_) fun h17=>?_
 refine sq<|rG cx [4] [] (fT (A5z (u1[r0.toNat]!) ((0:Int))) (oA 2 (.i .i64 (I7 u1[r0.toNat]! (0:Int))) z0))<|sn<|rT<|bR<|nR<|nR<|bR<|nR<|qR (.i .i64 (I7 u1[r0.toNat]! (0:Int))) (.eq (by exact congrArg (AV.i .i64) (D h6 h8 h10 h13 (Eq.refl _) (O6 h10 h15) h17 h12)))
 refine sK<|bN<|sn<|rG cx [2,3,5] [2,3] (tW 1 (r0+1) z0)<|sn<|nX ((r0+1,u1,c2,v3,d4)) (show(16-(r0+1)).toNat <(16-r0).toNat from(by omega)) (show Ap9 (A5 p) (A5 q) (r0+1) u1 c2 v3 d4 from(by exact N h6 h7 h8 h9 h10 h13 (Eq.refl _) (O6 h10 h15) h17 h12))
 refine sK<|sn<|sq<|rD cx [2,3,5,6,7,33] [2,3] (tL 3 c3 v3 (zB 4 (r0 <(↑v3.length:Int)))) (fun h18=>?_) fun h18=>?_
 refine rG cx [2,3,5,6,7] [2,3] (fA (0≤r0) (fG c3 v3 r0.toNat (fR 1 (oR 3 (c3 v3[r0.toNat]!) z0))))<|sn<|sq<|rG cx [2,3,5,6,7,41] [2,3] (tN 2 (0:Int) v3[r0.toNat]! z0)<|sn<|dC (¬0=v3[r0.toNat]!) (fun h19=>?_) fun h19=>?_
 refine sq<|rG cx [4] [] (fT (A5z ((0:Int)) (v3[r0.toNat]!)) (oA 2 (.i .i64 (I7 (0:Int) v3[r0.toNat]!)) z0))<|sn<|rT<|bR<|nR<|nR<|bR<|nR<|qR (.i .i64 (I7 (0:Int) v3[r0.toNat]!)) (.eq (by exact congrArg (AV.i .i64) (D h6 h8 h10 h13 (O6 h10 h14) (Eq.refl _) h19 h12)))
 refine sK<|bN<|sn<|rG cx [2,3,5] [2,3] (tW 1 (r0+1) z0)<|sn<|nX ((r0+1,u1,c2,v3,d4)) (show(16-(r0+1)).toNat <(16-r0).toNat from(by omega)) (show Ap9 (A5 p) (A5 q) (r0+1) u1 c2 v3 d4 from(by exact N h6 h7 h8 h9 h10 h13 (O6 h10 h14) (Eq.refl _) h19 h12))
 refine sK<|sn<|sq<|rG cx [2,3,5,6,7,41] [2,3] z0<|sn<|A23 (by kernel_rfl) (by kernel_rfl)<|sK<|bN<|sn<|rG cx [2,3,5] [2,3] (tW 1 (r0+1) z0)<|sn<|nX ((r0+1,u1,c2,v3,d4)) (show(16-(r0+1)).toNat <(16-r0).toNat from(by omega)) (show Ap9 (A5 p) (A5 q) (r0+1) u1 c2 v3 d4 from(by exact N h6 h7 h8 h9 h10 h13 (O6 h10 h14) (O6 h10 h18) (fun k=>k (Eq.refl _)) h12))
 refine eX 0<|nE<|nE<|bH<|sn<|sq<|sq<|rG cx [2,3,8] [2,3] z0<|sn<|bL 2<|sL (X:=Int×List Int×List Span×List Int×List Span) (fun x=>⟨[(2,.ptr (2) (0) (0) (0)),(3,.ptr (3) (0) (0) (0)),(8,.i .i64 (x.1))],[(2,⟨0,26,.var [.sl (List.map c3 x.2.1),.sl (List.map B5 x.2.2.1)]⟩),(3,⟨0,26,.var [.sl (List.map c3 x.2.2.2.1),.sl (List.map B5 x.2.2.2.2)]⟩)]⟩) (fun x ↦ decRd2 (A5 p) x.1 x.2.1 x.2.2.1 x.2.2.2.1 x.2.2.2.2) (fun x ↦ Bn2 (A5 p) (A5 q) x.1 x.2.1 x.2.2.1 x.2.2.2.1 x.2.2.2.2) [2,3,8] [2,3] (((0:Int),u1,c2,v3,d4)) (show Bn2 (A5 p) (A5 q) (0:Int) u1 c2 v3 d4 from(by exact⟨h7,h9,by omega,by omega,by omega,Eq.refl _⟩)) ?_
 rintro⟨i20,u21,c22,v23,d24⟩ h_25
 obtain⟨h26,h27,h28,h29,h30,h31⟩:c22=(A5 p).cloud∧d24=(A5 q).cloud∧0≤i20∧i20≤(↑(A5 p).cloud.length:Int)∧i20≤(↑(A5 q).cloud.length:Int)∧O3 (A5 p).cloud (A5 q).cloud=O3 (List.drop i20.toNat (A5 p).cloud) (List.drop i20.toNat (A5 q).cloud):=h_25
 refine sq<|sq<|B3 (σ':=⟨[(2,.ptr (2) (0) (0) (0)),(3,.ptr (3) (0) (0) (0)),(8,.i .i64 (i20)),(56,.b (decide (i20 <(↑c22.length:Int)∧i20 <(↑d24.length:Int))))],[(2,⟨0,26,.var [.sl (List.map c3 u21),.sl (List.map B5 c22)]⟩),(3,⟨0,26,.var [.sl (List.map c3 v23),.sl (List.map B5 d24)]⟩)]⟩) ?_ ?_
 refine A4 (i20 <(↑c22.length:Int)) (fun h_33=>?_) (fun h_33=>?_)
 refine rG cx [2,3,8,56] [2,3] (tL 3 B5 c22 (tT 4 (A3 h_33) (tL 9 B5 d24 (tB 10 (i20 <(↑d24.length:Int)) (tD 11 (decide (i20 <(↑d24.length:Int))) (i20 <(↑c22.length:Int)∧i20 <(↑d24.length:Int)) (by simp only [eq_true h_33,tsl]) z0))))) ?_
 exact⟨rfl,by kernel_rfl⟩
 refine rG cx [2,3,8,56] [2,3] (tL 3 B5 c22 (tT 4 (A0 h_33) (tD 11 false (i20 <(↑c22.length:Int)∧i20 <(↑d24.length:Int)) (by simp only [eq_false h_33,tsl]) z0))) ?_
 exact⟨rfl,by kernel_rfl⟩
 refine sn<|dC (i20 <(↑c22.length:Int)∧i20 <(↑d24.length:Int)) (fun h34=>?_) fun h34=>?_
 refine sK<|sn<|sq<|bL 3<|sq<|rA cx [2,3,8,9,10] [2,3,9,10] (fA (0≤i20) (fG B5 c22 i20.toNat (fR 3 (fN 3 3 (fA (0≤i20) (fG B5 d24 i20.toNat (fR 3 (fN 3 3 (oR 3 (B5 c22[i20.toNat]!) (oR 8 (B5 d24[i20.toNat]!) z0))))))))))<|sn<|sq<|sq<|rG cx [2,3,8,9,10,73] [2,3,9,10] (tN 4 c22[i20.toNat]!.rep d24[i20.toNat]!.rep z0)<|sn<|dC (¬c22[i20.toNat]!.rep=d24[i20.toNat]!.rep) (fun h35=>?_) fun h35=>?_
 refine sq<|rG cx [4] [] (fT (A5z (c22[i20.toNat]!.rep) (d24[i20.toNat]!.rep)) (oA 4 (.i .i64 (I7 c22[i20.toNat]!.rep d24[i20.toNat]!.rep)) z0))<|sn<|rT<|nR<|bR<|nR<|nR<|bR<|nR<|qR (.i .i64 (I7 c22[i20.toNat]!.rep d24[i20.toNat]!.rep)) (.eq ?g9);rotate_left
 refine sK<|sn<|sq<|sq<|rG cx [2,3,8,9,10,83] [2,3,9,10] (tN 4 c22[i20.toNat]!.lo d24[i20.toNat]!.lo z0)<|sn<|dC (¬c22[i20.toNat]!.lo=d24[i20.toNat]!.lo) (fun h36=>?_) fun h36=>?_
 refine sq<|rG cx [4] [] (fT (A5z (c22[i20.toNat]!.lo) (d24[i20.toNat]!.lo)) (oA 4 (.i .i64 (I7 c22[i20.toNat]!.lo d24[i20.toNat]!.lo)) z0))<|sn<|rT<|nR<|bR<|nR<|nR<|bR<|nR<|qR (.i .i64 (I7 c22[i20.toNat]!.lo d24[i20.toNat]!.lo)) (.eq ?g10);rotate_left
 refine sK<|sn<|sq<|rG cx [2,3,8,9,10,93] [2,3,9,10] (tN 4 c22[i20.toNat]!.hi d24[i20.toNat]!.hi z0)<|sn<|dC (¬c22[i20.toNat]!.hi=d24[i20.toNat]!.hi) (fun h37=>?_) fun h37=>?_
 refine sq<|rG cx [4] [] (fT (A5z (c22[i20.toNat]!.hi) (d24[i20.toNat]!.hi)) (oA 4 (.i .i64 (I7 c22[i20.toNat]!.hi d24[i20.toNat]!.hi)) z0))<|sn<|rT<|bR<|nR<|nR<|bR<|nR<|qR (.i .i64 (I7 c22[i20.toNat]!.hi d24[i20.toNat]!.hi)) (.eq ?g11);rotate_left
 refine sK<|bN<|sn<|rG cx [2,3,8] [2,3] (tT 1 (B7 (by omega) (by have:=(N3 (A8 [p])).1;have h29:i20≤((G1 (A8 [p])).cloud.length:Int):=h29;omega):AV.i .i64 (IntKind.i64.wrap (i20+1))=AV.i .i64 (i20+1)) z0) ?_
 refine sn<|nX ((i20+1,u21,c22,v23,d24)) (show((↑(A5 p).cloud.length:Int)-(i20+1)).toNat <((↑(A5 p).cloud.length:Int)-i20).toNat from ?g13) (show Bn2 (A5 p) (A5 q) (i20+1) u21 c22 v23 d24 from ?g14);rotate_left 2
 refine eX 2<|nE<|nE<|bH<|sn<|sq<|rG cx [4] [] (tL 2 B5 c22 (tL 5 B5 d24 (fT (A5z ((↑c22.length:Int)) ((↑d24.length:Int))) (oA 6 (.i .i64 (I7 (↑c22.length:Int) (↑d24.length:Int))) z0))))<|sn<|rT<|qR (.i .i64 (I7 (↑c22.length:Int) (↑d24.length:Int))) (.eq ?g15);rotate_left
 case g9 =>
  exact congrArg (AV.i .i64) (E h26 h27 h28 h34 h31 (Ag7 h11 h13 h12) (A1l h35) (S1 h35))
 case g10 =>
  exact congrArg (AV.i .i64) (E h26 h27 h28 h34 h31 (Ag7 h11 h13 h12) (A1l h36) (S2 (Classical.not_not.1 h35) h36))
 case g11 =>
  exact congrArg (AV.i .i64) (E h26 h27 h28 h34 h31 (Ag7 h11 h13 h12) (A1l h37) (S3 (Classical.not_not.1 h35) (Classical.not_not.1 h36)))
 case g13 =>
  rw[h26]at h34
  generalize (A5 p).cloud.length=L at *
  omega
 case g14 =>
  have k6':=h34
  rw[h26,h27]at k6'
  have e:A2d c22[i20.toNat]! d24[i20.toNat]! = 0:=by rw[← S3 (Classical.not_not.1 h35) (Classical.not_not.1 h36)];exact J0.2 (Classical.not_not.1 h37)
  rw[h26,h27]at e
  have:=B3r h28 k6'.1 k6'.2 e h31
  exact⟨h26,h27,this.1,this.2.1,this.2.2.1,this.2.2.2⟩
 case g15 =>
  rw[h26,h27]at h34 ⊢
  refine congrArg (AV.i .i64) ?_
  rw[A9h (Ag7 h11 h13 h12)]
  by_cases a:i20 <((A5 p).cloud.length:Int)
  ·have b:¬ i20 <((A5 q).cloud.length:Int):=fun b=>h34 ⟨a,b⟩
   rw[B3n h28 a b h31]
   unfold I7
   rw[if_neg (by omega),if_pos (by omega)]
  ·by_cases b:i20 <((A5 q).cloud.length:Int)
   ·rw[B3o h28 a b h31]
    unfold I7
    rw[if_pos (by omega)]
   ·rw[B3p a b h31]
    unfold I7
    rw[if_neg (by omega),if_neg (by omega)]
theorem con43(a b:Past)(ha:a.cloud.length*16≤140737488350000)(hb:b.cloud.length*16≤140737488350000):Con Tryz.prog 43 [.agg (c26 a),.agg (c26 b)] (.b (decide (C2 (B6 a b)=0))) :=
 by
 refine sC A9 [.tmp 4] 9 Tryz.func43 ?_
 intro e0 cx
 refine sq<|rG cx [2,3] [2,3] z0<|sn<|sq<|rG cx [4] [] (fT (con92 (a) (b) (by(with_reducible assumption)) (by(with_reducible assumption))) (fT (con91 (B6 a b) ?g0) (oA 2 (.agg [.sl (List.map c3 (B6 a b).vec),.sl (List.map B5 (B6 a b).cloud)]) (oA 3 (.b (decide (C2 (B6 a b)=0))) z0)))) ?_;rotate_left
 refine sn<|rT ?_
 exact A43 (r:=.b (decide (C2 (B6 a b)=0))) (obl:=[]) (by kernel_rfl) trivial (B9.refl _)
 case g0=>have h:=(N3 (fun r=>Y1 (A8 [a] r) (A8 [b] r))).1;have h2:(B6 a b).cloud.length≤8000000000:=h;omega
end Go.Proofs.YtokhjapfekbobaaGreat
namespace Go.Proofs.YtokhjapfekbobaaGreat
open Go.E
set_option maxRecDepth 100000
set_option maxHeartbeats 4000000
def szP(p:Past):Prop:=p.cloud.length*16≤140737488350000∧p.vec.length≤9223372036854775807
def szQ(rs:List Record):Prop:=∀ r∈rs,szP r.past
theorem A7a{rs:List Record}(h:szQ rs):B0t rs:=fun r hr=>(h r hr).1
theorem Ai8{rs:List Record}(h:szQ rs){i:Int}(h0:0≤i)(hi:i < rs.length):szP rs[i.toNat]!.past:=h _ (E2 (by omega))
theorem Bn3{rs:List Record}(h:szQ rs){i:Int}(h0:0 < i)(hi:i < rs.length):szP rs[(i-1).toNat]!.past:=h _ (E2 (by omega))
theorem con88(r:Record)(hb:szP r.past):Con Tryz.prog 88 [.agg (c83 r)] (.i .i64 (ckR r)) :=
 by
 have g:∀ {b:Bool},¬ b=true→b=false:=fun {b} h=>by cases b <;> simp_all
 refine sC A9 [.tmp 2] 21 Tryz.func88 ?_
 intro e0 cx
 refine sq<|rG cx [1] [1] z0<|sn<|sq<|sq<|B3 (σ':=⟨[(1,.ptr (1) (0) (0) (0)),(11,.b (decide (¬r.sku={ data:=#[]:ByteArray }∧¬M4 r.sku=true)))],[(1,⟨0,83,.var [.s (r.sku),.sl (List.map c3 r.past.vec),.sl (List.map B5 r.past.cloud)]⟩)]⟩) ?_ ?_
 refine A4 (¬r.sku={ data:=#[]:ByteArray }) (fun h_1=>?_) (fun h_1=>?_)
 refine rG cx [1,11] [1] (tT 2 (A21 h_1:(AV.b !r.sku.toList == { data:=#[]:ByteArray }.toList)=AV.b true) (fT (B80 (r.sku)) (tT 7 (C9:(AV.b !M4 r.sku)=AV.b (decide ¬M4 r.sku=true)) (tD 8 (decide ¬M4 r.sku=true) (¬r.sku={ data:=#[]:ByteArray }∧¬M4 r.sku=true) (by simp only [eq_false h_1,tsl]) (oA 6 (.b (M4 r.sku)) z0))))) ?_
 exact⟨rfl,by kernel_rfl⟩
 refine rG cx [1,11] [1] (tT 2 (A4g:(AV.b !r.sku.toList == { data:=#[]:ByteArray }.toList)=AV.b (decide ¬r.sku={ data:=#[]:ByteArray })) (tT 3 (A0 h_1) (tT 8 (by first | (simp only [eq_false h_1,tsl];done) | simp_all:AV.b false=AV.b (decide (¬r.sku={ data:=#[]:ByteArray }∧¬M4 r.sku=true))) z0))) ?_
 exact⟨rfl,by kernel_rfl⟩
 refine sn<|dC (¬r.sku={ data:=#[]:ByteArray }∧¬M4 r.sku=true) (fun h2=>?_) fun h2=>?_
 refine sq<|rG cx [2] [] z0<|sn<|rT<|nR<|qR (.i .i64 ((5:Int))) (.eq (by unfold ckR;rw[if_pos ⟨h2.1,g h2.2⟩]))
 refine sK<|sn<|sq<|sq<|B3 (σ':=⟨[(20,.b (decide (¬r.past=A5 r.past∨C2 r.past=0)))],[]⟩) ?_ ?_
 refine A4 (¬r.past=A5 r.past) (fun h4=>?_) (fun h4=>?_)
 refine rg (A:=_∧_∧(AV.b true=AV.b (decide (¬r.past=A5 r.past∨C2 r.past=0)))) cx [(2,{ val:=some (.b (decide (r.past=A5 r.past))),tell:=some (.b (false)) }),(8,{ tell:=some (.b (decide (¬r.past=A5 r.past∨C2 r.past=0))) })] [20] [] ⟨(A0 h4),(B14 (r.past) (by exact hb.1) (by exact hb.2)),(by simp only [eq_false h4,tsl])⟩ ?_
 exact⟨rfl,by kernel_rfl⟩
 refine rG cx [20] [] (fT (B14 (r.past) (by exact hb.1) (by exact hb.2)) (tQ 3 (r.past=A5 r.past) (tT 4 (A0 h4) (fT (con91 (r.past) (by exact hb.1)) (tT 8 (by first | (simp only [eq_false h4,tsl];done) | simp_all:AV.b (decide (C2 r.past=0))=AV.b (decide (¬r.past=A5 r.past∨C2 r.past=0))) (oA 2 (.b (decide (r.past=A5 r.past))) (oA 7 (.b (decide (C2 r.past=0))) z0))))))) ?_
 exact⟨rfl,by kernel_rfl⟩
 refine sn<|dC (¬r.past=A5 r.past∨C2 r.past=0) (fun h5=>?_) fun h5=>?_
 refine sq<|rG cx [2] [] z0<|sn<|rT<|nR<|qR (.i .i64 ((1:Int))) (.eq (by unfold ckR;rw[if_neg (fun c=>h2 ⟨c.1,by rw[c.2];simp⟩),if_pos h5]))
 refine sK<|sn<|sq<|rG cx [2] [] z0<|sn<|rT<|qR (.i .i64 ((0:Int))) (.eq (by unfold ckR;rw[if_neg (fun c=>h2 ⟨c.1,by rw[c.2];simp⟩),if_neg h5]))
theorem con89(r s:Record)(hr:szR r)(hs:szR s):Con Tryz.prog 89 [.agg (c83 r),.agg (c83 s)] (.i .i64 (D6 r s)) :=
 by
 have L:∀ {x:Int},A09 r.sku s.sku=x→¬ x=0→AV.i .i64 x=AV.i .i64 (D6 r s):=fun {x} h k=>by
  unfold D6;rw[if_pos (by rw[h];exact k),h]
 refine sC A9 [.tmp 4] 20 Tryz.func89 ?_
 intro e0 cx
 refine sq<|rG cx [2,3] [2,3] z0<|sn<|sq<|sq<|rG cx [2,3,9] [2,3] (tT 4 (B79:AV.b (Op.bytesLess r.sku.toList s.sku.toList)=AV.b (sLt r.sku s.sku)) z0)<|sn<|X5 (sLt r.sku s.sku) (by kernel_rfl) (by kernel_rfl) (fun h0=>?_) (fun h0=>?_)
 refine sq<|rG cx [4] [] z0<|sn<|rT<|nR<|qR (.i .i64 ((-1:Int))) (.eq (by exact L (by rw[L1,if_pos h0]) (by decide)))
 refine sK<|sn<|sq<|sq<|rG cx [2,3,14] [2,3] (tT 4 (B7a:(AV.b !(Op.bytesLess r.sku.toList s.sku.toList || r.sku.toList == s.sku.toList))=AV.b (decide ¬(sLt r.sku s.sku=true∨r.sku=s.sku))) z0)<|sn<|dC (¬(sLt r.sku s.sku=true∨r.sku=s.sku)) (fun h1=>?_) fun h1=>?_
 refine sq<|rG cx [4] [] z0<|sn<|rT<|nR<|qR (.i .i64 ((1:Int))) (.eq ?g1);rotate_left
 refine sK<|sn<|sq<|rG cx [4] [] (fT (con134 (r.past) (s.past) (by exact hr) (by exact hs)) (oA 4 (.i .i64 (Ag4 r.past s.past)) z0)) ?_
 refine sn<|rT<|qR (.i .i64 (Ag4 r.past s.past)) (.eq ?g4);rotate_left
 case g1 =>
  have a:¬ sLt r.sku s.sku=true:=by rw[h0];simp
  have b:sLt s.sku r.sku=true:=Classical.byContradiction fun b=>h1 (.inr (A2f a b))
  exact L (by rw[L1,if_neg a,if_pos b]) (by decide)
 case g4 =>
  have e:r.sku=s.sku:=by
   rcases Classical.not_not.1 h1 with h1 | h1
   ·rw[h0]at h1;cases h1
   ·exact h1
  unfold D6
  rw[if_neg (fun c=>c (A3g.2 e))]
theorem con40(rs:List Record)(hb:szQ rs):Con Tryz.prog 40 [.sl (rs.map c83)] (.i .i64 (D9 rs)) :=
 by
 have e:∀ {i:Int},0≤i→(i-1).toNat=i.toNat-1:=fun {i} h=>by omega
 refine lN 0 c83 (rs) Tryz.func40 fun hl_0=>sC A9 [.tmp 2] 31 Tryz.func40 ?_
 intro e0 cx
 refine sq<|rG cx [0] [] z0<|sn<|sq<|sq<|rG cx [0,3] [] z0<|sn<|bL 0<|sL (X:=Int) (fun x=>⟨[(0,.sl (List.map c83 rs)),(3,.i .i64 (x))],[]⟩) (fun x ↦ decKc rs x) (fun x ↦ Ap2 rs x) [0,3] [] ((0:Int)) (show Ap2 rs (0:Int)from(by exact⟨by omega,by omega,fun j hj=>by omega⟩)) ?_
 intro i0 h_1
 obtain⟨hh2,hh3,hh4⟩:0≤i0∧i0≤(↑rs.length:Int)∧∀(j:Nat),(↑j:Int) < i0→B69 rs j=true:=h_1
 refine sq<|rD cx [0,3,7] [] (tL 2 c83 rs (zB 3 (i0 <(↑rs.length:Int)))) (fun hh5=>?_) fun hh5=>?_
 refine sK<|sn<|sq<|bL 1<|sq<|sq<|rG cx [0,3,15] [] (fA (0≤i0) (fG c83 rs i0.toNat (fR 3 (fN 3 3 (fT (con88 (rs[i0.toNat]!) (by exact Ai8 hb hh2 hh5)) (tN 5 (ckR rs[i0.toNat]!) (0:Int) (oR 2 (c83 rs[i0.toNat]!) (oA 4 (.i .i64 (ckR rs[i0.toNat]!)) z0)))))))) ?_
 refine sn<|dC (¬ckR rs[i0.toNat]! =(0:Int)) (fun h6=>?_) fun h6=>?_
 refine sq<|rG cx [2] [] z0<|sn<|rT<|nR<|bR<|nR<|nR<|bR<|nR<|qR (.i .i64 ((1:Int))) (.eq ?g2);rotate_left
 refine sK<|sn<|sq<|B3 (σ':=⟨[(0,.sl (List.map c83 rs)),(3,.i .i64 (i0)),(30,.b (decide ((0:Int) < i0∧0≤D6 rs[(i0-1).toNat]! rs[i0.toNat]!)))],[]⟩) ?_ ?_
 refine A4 ((0:Int) < i0) (fun h8=>?_) (fun h8=>?_)
 refine rA cx [0,3,30] [] (tT 1 (A3 h8) (tW 5 (i0-1) (fO (0≤i0-1) (fG c83 rs ((i0-1).toNat) (fR 3 (fN 3 3 (fA (0≤i0) (fG c83 rs i0.toNat (fR 3 (fN 3 3 (fT (con89 (rs[(i0-1).toNat]!) (rs[i0.toNat]!) (by exact(Bn3 hb h8 hh5).1) (by exact(Ai8 hb hh2 hh5).1)) (tB 13 (0≤D6 rs[(i0-1).toNat]! rs[i0.toNat]!) (tD 14 (decide (0≤D6 rs[(i0-1).toNat]! rs[i0.toNat]!)) ((0:Int) < i0∧0≤D6 rs[(i0-1).toNat]! rs[i0.toNat]!) (by simp only [eq_true h8,tsl]) (oR 6 (c83 rs[(i0-1).toNat]!) (oR 10 (c83 rs[i0.toNat]!) (oA 12 (.i .i64 (D6 rs[(i0-1).toNat]! rs[i0.toNat]!)) z0)))))))))))))))) ?_
 exact⟨rfl,by kernel_rfl⟩
 refine rA cx [0,3,30] [] (tT 1 (A0 h8) (tD 14 false ((0:Int) < i0∧0≤D6 rs[(i0-1).toNat]! rs[i0.toNat]!) (by simp only [eq_false h8,tsl]) z0)) ?_
 exact⟨rfl,by kernel_rfl⟩
 refine sn<|dC ((0:Int) < i0∧0≤D6 rs[(i0-1).toNat]! rs[i0.toNat]!) (fun h9=>?_) fun h9=>?_
 refine sq<|rG cx [2] [] z0<|sn<|rT<|bR<|nR<|nR<|bR<|nR<|qR (.i .i64 ((1:Int))) (.eq ?g5);rotate_left
 refine sK<|bN<|sn<|rG cx [0,3] [] (tW 1 (i0+1) z0)<|sn<|nX (i0+1) (show((↑rs.length:Int)-(i0+1)).toNat <((↑rs.length:Int)-i0).toNat from(by omega)) (show Ap2 rs (i0+1)from ?g6);rotate_left
 refine eX 0<|nE<|nE<|bH<|sn<|sq<|rG cx [2] [] z0<|sn<|rT<|qR (.i .i64 ((0:Int))) (.eq (by rw[B3z fun j hj=>hh4 j (by omega)]))
 case g2 =>
  revert i0 hh2 hh3 hh4 hh5 h6
  intro i h0 h1 h2 h3 h4
  rw[A9l (i:=i.toNat) (by omega)]
  rw[T3]
  exact fun c=>h4 c.1
 case g5 =>
  revert i0 hh2 hh3 hh4 hh5 h6 h9
  intro i h0 h1 h2 h3 h4 h5
  rw[A9l (i:=i.toNat) (by omega)]
  rw[e h0]at h5
  rw[T3]
  rintro⟨a,b⟩
  omega
 case g6 =>
  rw[e hh2]at h9
  refine A83 hh2 hh5 hh4 ((T3 _ _).2 ⟨Classical.not_not.1 h6,?_⟩)
  by_cases c:i0.toNat=0
  ·exact .inl c
  ·exact .inr (Classical.byContradiction fun a=>h9 ⟨by omega,by omega⟩)
end Go.Proofs.YtokhjapfekbobaaGreat
