/- Kg: keep.Covers, Bars, Fold, Apply. Conditions: sizes. Ra: the document's past: dots, Has, Same, sorted. Conditions: sizes. Rb: the document's turns: sorted (by halves). Conditions: sizes. Rt: the document's turns, in plain words: a sweep over where runs begin and end. Conditions: none. Rk: turns: how many there are, the last. Conditions: none. Rp: two lists of turns put together by a rule, in plain words. Conditions: none. Rd: the document's turns. Conditions: sizes. Re: the document's Mean. Conditions: sizes. Rf: the document's Form. Conditions: the runs are in form. Rg: the document's Norm, Of, IsNorm. Conditions: sizes. Rm: the document's combine, Minus, Join, Size, Empty. Conditions: sizes. Rn: the document's Compare, Next, Within. Conditions: sizes. -/
import Derived.Below
import Derived.OwnWalk
import Derived.WalkKit
import Derived.KernelRfl
import Derived.Laws.MakeOwn
import Derived.Laws.OwnMore
import Derived.Laws.Slices
import Derived.Laws.CopyOwn
import Derived.Laws.AppendOwnNone
import Derived.Laws.Rows
import Derived.Orders
import Derived.Test.YtphcaholhacnpaaGreatProg
import Derived.DataReads
import Derived.ChangeOld
import Derived.DataElems
import Derived.SizedLaws
import Derived.ChangeKeysEq
import Derived.Sort.LotA
import Derived.Shelf.SlSortFuncK.RowK2
import Derived.Shelf.SlSortCmp.NoneTotal
import Derived.Lib.Walk
import Derived.Shelf.SlLaysE0
import Derived.Shelf.RegionOpenPlain
import Derived.Deep.LoopGhost
import Derived.Lib.SliceRun
import Derived.Lib.Bytealg
import Derived.Test.YtphcaholhacnpaaGreatZk3
set_option linter.unusedVariables false
set_option linter.unusedSimpArgs false
namespace Go.Proofs.YtphcaholhacnpaaGreat
open Go.E
set_option maxRecDepth 100000
set_option maxHeartbeats 4000000
def A9u(rs:List Record)(e:Entry)(n i r m:Int)(s:ByteArray)(q:Int):Prop:=r=e.dot.rep∧m=e.dot.num∧s=e.sku∧q=e.qty∧0≤i∧i≤rs.length∧0≤n∧n≤i∧n=C4 (rs.take i.toNat) e
def decBr(rs:List Record)(n i r m:Int)(s:ByteArray)(q:Int):Nat:=(rs.length-i).toNat
def B9q(rs:List Record)(i:Int)(all:Past)(out:List Record):Prop:=V6 all out (rs.drop i.toNat)=V6 ⟨[],[]⟩ [] rs
def At5(rs:List Record)(i:Int)(v:List Int)(c:List Span)(out:List Record):Prop:=0≤i∧i≤rs.length∧(out.length:Int)≤i∧c.length≤8000000000∧B9q rs i ⟨v,c⟩ out∧(∀ r∈out,r.past=A3 r.past)
def decFo(rs:List Record)(i:Int)(v:List Int)(c:List Span)(out:List Record):Nat:=(rs.length-i).toNat
def B7h(rs:List Record)(i j:Int)(ps:List Past):Prop:=ps=((rs.drop i.toNat).take (j-i).toNat).map (fun x=>x.past)∧∀ k:Nat,i≤k→(k:Int) < j→rs[k]!.sku=rs[i.toNat]!.sku
def B9r(rs:List Record)(i:Int)(v0:List Int)(c0:List Span)(o0:List Record)(j:Int)(v:List Int)(c:List Span)(o:List Record)(ps:List Past):Prop:=v=v0∧c=c0∧o=o0∧i≤j∧j≤rs.length∧B7h rs i j ps
def decGr(rs:List Record)(j:Int)(v:List Int)(c:List Span)(o:List Record)(ps:List Past):Nat:=(rs.length-j).toNat
def B55(es:List Entry)(bars:List Record)(i:Int)(out:List Entry):Prop:=0≤i∧i≤es.length∧(out.length:Int)≤i∧out=(es.take i.toNat).filter fun e=>decide (C4 bars e=0)
def decAp(es:List Entry)(i:Int)(out:List Entry):Nat:=(es.length-i).toNat
theorem Am6{α:Type}[Inhabited α](p:α→Bool):∀(l:List α) (n:Nat),n≤l.length→(∀ k:Nat,k < n→p l[k]! = true)→(n < l.length→p l[n]! = false)→l.takeWhile p=l.take n∧l.dropWhile p=l.drop n
 | [],n,hn,_,_=>by simp
 | x :: l,0,_,_,h=>by
  have:=h (by simp)
  have hx:p x=false:=this
  simp [List.takeWhile_cons,List.dropWhile_cons,hx]
 | x :: l,n+1,hn,h,hx=>by
  have h0:p x=true:=h 0 (by omega)
  have ih:=Am6 p l n (by simpa using hn) (fun k hk=>by have:=h (k+1) (by omega);simpa using this) (fun hl=>by have:=hx (by simpa using hl);simpa using this)
  simp [List.takeWhile_cons,List.dropWhile_cons,h0,ih.1,ih.2]
theorem B9s{α:Type}[Inhabited α]{a:List α}{i:Int}(h0:0≤i)(h:i < a.length):a.drop i.toNat=a[i.toNat]! :: a.drop (i+1).toNat:=by
 rw[show(i+1).toNat=i.toNat+1 by omega,getElem!_pos a i.toNat (by omega)]
 exact List.drop_eq_getElem_cons (by omega)
theorem A9v{α:Type}[Inhabited α]{a:List α}{i k:Nat}(h:i+k < a.length):(a.drop i)[k]! = a[i+k]!:=by
 rw[getElem!_pos (a.drop i) k (by rw[List.length_drop];omega),getElem!_pos a (i+k) h,List.getElem_drop]
theorem A1p{rs:List Record}{i j:Int}{ps:List Past}(h0:0≤i)(hi:i < rs.length)(hij:i≤j)(hj:j≤rs.length)(he:¬(j < rs.length∧rs[j.toNat]!.sku=rs[i.toNat]!.sku))(h:B7h rs i j ps) :
  i < j∧ps=(K3 rs[i.toNat]! (rs.drop (i+1).toNat)).map (fun x=>x.past)∧rs.drop j.toNat=A51 rs[i.toNat]! (rs.drop (i+1).toNat):=by
 have hlt:i < j:=by
  apply Classical.byContradiction
  intro k
  have:j=i:=by omega
  subst this
  exact he ⟨hi,rfl⟩
 have hw:=Am6 (fun x:Record=>decide (x.sku=rs[i.toNat]!.sku)) (rs.drop i.toNat) (j-i).toNat (by rw[List.length_drop];omega) (fun k hk=>by
  rw[A9v (by omega),decide_eq_true_iff]
  exact h.2 (i.toNat+k) (by omega) (by omega)) (fun hl=>by
  rw[List.length_drop]at hl
  rw[A9v (by omega),decide_eq_false_iff_not,show i.toNat+(j-i).toNat=j.toNat by omega]
  exact fun k=>he ⟨by omega,k⟩)
 have e1:K3 rs[i.toNat]! (rs.drop (i+1).toNat)=(rs.drop i.toNat).takeWhile fun x=>decide (x.sku=rs[i.toNat]!.sku):=by
  rw[B9s h0 hi,List.takeWhile_cons]
  simp [K3]
 have e2:A51 rs[i.toNat]! (rs.drop (i+1).toNat)=(rs.drop i.toNat).dropWhile fun x=>decide (x.sku=rs[i.toNat]!.sku):=by
  rw[B9s h0 hi,List.dropWhile_cons]
  simp [A51]
 refine⟨hlt,?_,?_⟩
 ·rw[e1,hw.1];exact h.1
 ·rw[e2,hw.2,List.drop_drop,show i.toNat+(j-i).toNat=j.toNat by omega]
theorem A7g{rs:List Record}{i j:Int}{ps:List Past}{all:Past}{out:List Record}(h0:0≤i)(hi:i < rs.length)(hij:i≤j)(hj:j≤rs.length)(he:¬(j < rs.length∧rs[j.toNat]!.sku=rs[i.toNat]!.sku))(h:B7h rs i j ps)(hf:B9q rs i all out) :
  B9q rs j (if rs[i.toNat]!.sku=noneS then D1 ps else all) (if B8 (if rs[i.toNat]!.sku=noneS then D1 ps else B3 (D1 ps) all)=0 then out else out++[⟨rs[i.toNat]!.sku,if rs[i.toNat]!.sku=noneS then D1 ps else B3 (D1 ps) all⟩]):=by
 obtain⟨_,e1,e2⟩:=A1p h0 hi hij hj he h
 unfold B9q at *
 rw[← hf,B9s h0 hi,A63,e2,e1]
 rfl
theorem Am7(a b:List Record):A52 (a++b)=A52 a+A52 b:=by simp [A52]
theorem B9t(a:List Record):a.length≤A52 a:=by
 induction a with
 | nil=>simp [A52]
 | cons r a ih=>simp only [A52,List.map_cons,List.sum_cons,List.length_cons]at *;omega
theorem B56(l:List Record):A08 (l.map fun x=>x.past)=A52 l:=by simp [A08,A52,Function.comp_def]
theorem gr_tot{rs:List Record}{i j:Int}{ps:List Past}(h:B7h rs i j ps):A08 ps≤A52 rs:=by
 rw[h.1,B56]
 have h1:=Am7 (rs.take i.toNat) (rs.drop i.toNat)
 rw[List.take_append_drop]at h1
 have h2:=Am7 ((rs.drop i.toNat).take (j-i).toNat) ((rs.drop i.toNat).drop (j-i).toNat)
 rw[List.take_append_drop]at h2
 omega
theorem B7i{rs:List Record}{i j:Int}{ps:List Past}(h:B7h rs i j ps):(ps.length:Int)≤(j-i).toNat:=by
 rw[h.1,List.length_map,List.length_take]
 omega
theorem B9u{rs:List Record}{i j:Int}{ps:List Past}(h0:0≤i)(hij:i≤j)(hj:j < rs.length)(hs:rs[j.toNat]!.sku=rs[i.toNat]!.sku)(h:B7h rs i j ps):B7h rs i (j+1) (ps++[rs[j.toNat]!.past]):=by
 refine⟨?_,fun k hk1 hk2=>?_⟩
 ·rw[h.1,show(j+1-i).toNat=(j-i).toNat+1 by omega,List.take_succ_eq_append_getElem (by rw[List.length_drop];omega),List.map_append]
  congr 1
  have hjn:i.toNat+(j-i).toNat < rs.length:=by omega
  have:(rs.drop i.toNat)[(j-i).toNat]'(by rw[List.length_drop];omega)=rs[j.toNat]!:=by
   rw[List.getElem_drop,getElem!_pos rs j.toNat (by omega)]
   congr 1
   omega
  simp only [List.map_cons,List.map_nil,this]
 ·by_cases e:k=j.toNat
  ·rw[e];exact hs
  ·exact h.2 k hk1 (by omega)
theorem V7{p:Past}(h:p=A3 p):p.cloud.length≤8000000000:=by
 rw[h]
 exact(O1 _).1
theorem A7h(ps:List Past):(D1 ps).cloud.length≤8000000000:=(O1 _).1
theorem B57(a b:Past):(B3 a b).cloud.length≤8000000000:=(O1 fun r=>V3 (A8 [a] r) (A8 [b] r)).1
theorem B7j{rs:List Record}{i:Int}{all:Past}{out:List Record}(hi:¬ i < rs.length)(h:B9q rs i all out):out=V6 ⟨[],[]⟩ [] rs:=by
 unfold B9q at h
 rw[List.drop_of_length_le (by omega),A47]at h
 exact h
theorem Am8{out:List Record}{b:Go.E.Blk}{n m:Nat}(hb:b.k=.row m (out.map c54))(h:0 <(out.length:Int))(hn:n=0):Go.E.rowAt b n (c54 out[0]!):=by
 unfold Go.E.rowAt
 rw[hb,hn]
 cases out with
 | nil=>simp at h
 | cons x l=>rfl
theorem B12{es:List Entry}{B:List Record}{i:Int}{o:List Entry}(h0:0≤i)(hi:i < es.length)(ho:o=(es.take i.toNat).filter fun e=>decide (C4 B e=0)) :
  (es.take (i+1).toNat).filter (fun e=>decide (C4 B e=0))=o++if C4 B es[i.toNat]! = 0 then[es[i.toNat]!]else[]:=by
 rw[← C8 h0 hi,List.filter_append,ho]
 congr 1
 generalize es[i.toNat]! = x
 split
 ·rename_i h;simp [List.filter_cons,h]
 ·rename_i h;simp [List.filter_cons,h]
theorem B9v(es:List Entry)(rs:List Record):es.filter (fun e=>decide (C4 (V6 ⟨[],[]⟩ [] rs) e=0))=es.filter fun e=>decide (C4 rs e=0) :=
 List.filter_congr fun e _=>decide_eq_decide.2 (B10 rs e)
theorem B13(r:Record)(hb:szR r):Con Tryz.prog 179 [.agg (c54 r)] (.agg (c54 ⟨r.sku,A3 r.past⟩)) :=
 by
 refine sC A6 [.cell 2 54] 9 Tryz.func179 ?_
 intro e0 cx
 refine sq<|rG cx [1,2] [1,2] z0<|sn<|sq<|rA cx [2] [2] (fT (Al2 (r.past) ?g0) (oA 4 (.agg [.sl (List.map c3 (A3 r.past).vec),.sl (List.map A9 (A3 r.past).cloud)]) z0)) ?_;rotate_left
 refine sn<|rT<|qR (.agg [.s (r.sku),.sl (List.map c3 (A3 r.past).vec),.sl (List.map A9 (A3 r.past).cloud)]) (.eq ?g1);rotate_left
 case g0=>exact hb
 case g1=>exact rfl
theorem con209(r:Record)(e:Entry):Con Tryz.prog 209 [.agg (c54 r),.agg (c46 e)] (.b (A1s r e)) :=
 by
 refine sC A6 [.tmp 4] 22 Tryz.func209 ?_
 intro e0 cx
 refine sq<|rG cx [2,3] [2,3] z0<|sn<|sq<|B1 (σ':=⟨[(4,.b (decide (r.sku={ data:=#[]:ByteArray }∧C7 r.past e.dot=true∨¬r.sku={ data:=#[]:ByteArray }∧r.sku=e.sku∧C7 r.past e.dot=true)))],[]⟩) ?_ ?_
 refine A5 (r.sku={ data:=#[]:ByteArray }) (fun h_1=>?_) (fun h_1=>?_)
 refine rG cx [4] [] (tT 2 (A18 h_1:AV.b (r.sku.toList == { data:=#[]:ByteArray }.toList)=AV.b true) (fT (A9e (r.past) (e.dot)) (tD 17 (C7 r.past e.dot) (r.sku={ data:=#[]:ByteArray }∧C7 r.past e.dot=true∨¬r.sku={ data:=#[]:ByteArray }∧r.sku=e.sku∧C7 r.past e.dot=true) (by simp only [eq_true h_1,tsl]) (oA 15 (.b (C7 r.past e.dot)) z0)))) ?_
 exact⟨rfl,by kernel_rfl⟩
 refine A5 (r.sku=e.sku) (fun h_2=>?_) (fun h_2=>?_)
 refine rG cx [4] [] (tT 2 (R8 h_1:AV.b (r.sku.toList == { data:=#[]:ByteArray }.toList)=AV.b false) (tT 8 (A18 h_2:AV.b (r.sku.toList == e.sku.toList)=AV.b true) (fT (A9e (r.past) (e.dot)) (tD 17 (C7 r.past e.dot) (r.sku={ data:=#[]:ByteArray }∧C7 r.past e.dot=true∨¬r.sku={ data:=#[]:ByteArray }∧r.sku=e.sku∧C7 r.past e.dot=true) (by simp only [eq_false h_1,eq_true h_2,tsl]) (oA 15 (.b (C7 r.past e.dot)) z0))))) ?_
 exact⟨rfl,by kernel_rfl⟩
 refine rG cx [4] [] (tT 2 (R8 h_1:AV.b (r.sku.toList == { data:=#[]:ByteArray }.toList)=AV.b false) (tT 8 (R8 h_2:AV.b (r.sku.toList == e.sku.toList)=AV.b false) (tD 17 false (r.sku={ data:=#[]:ByteArray }∧C7 r.past e.dot=true∨¬r.sku={ data:=#[]:ByteArray }∧r.sku=e.sku∧C7 r.past e.dot=true) (by simp only [eq_false h_1,eq_false h_2,tsl]) z0))) ?_
 exact⟨rfl,by kernel_rfl⟩
 refine sn<|rT<|qR (.b (decide (r.sku={ data:=#[]:ByteArray }∧C7 r.past e.dot=true∨¬r.sku={ data:=#[]:ByteArray }∧r.sku=e.sku∧C7 r.past e.dot=true))) (.eq ?g0);rotate_left
 case g0 =>
  refine congrArg AV.b ?_
  rw[Bool.eq_iff_iff,A0n,decide_eq_true_iff]
  show(r.sku=noneS∧_∨¬ r.sku=noneS∧_)↔_
  by_cases c:r.sku=noneS <;> simp [c]
theorem B7k(rs:List Record)(e:Entry):Con Tryz.prog 167 [.sl (rs.map c54),.agg (c46 e)] (.i .i64 (C4 rs e)) :=
 by
 have st:∀ {i:Int},0≤i→i < rs.length→C4 (rs.take (i+1).toNat) e=C4 (rs.take i.toNat) e+if A1s rs[i.toNat]! e=true then 1 else 0:=by
  intro i h0 h1
  unfold C4
  rw[← C8 h0 h1,List.filter_append,List.length_append]
  generalize rs[i.toNat]! = x
  split
  ·rename_i h;simp [List.filter_cons,h]
  ·rename_i h;simp [List.filter_cons,h]
 refine lN 0 c54 (rs) Tryz.func167 fun hl_0=>sC A6 [.tmp 4] 21 Tryz.func167 ?_
 intro e0 cx
 refine sq<|rG cx [0,3] [3] z0<|sn<|sq<|rG cx [0,3,5] [3] z0<|sn<|sq<|sq<|rG cx [3,5,8,9,10] [3] (tL 1 c54 rs z0)<|sn<|bL 0<|sL (X:=Int×Int×Int×Int×ByteArray×Int) (fun x=>⟨[(3,.ptr (3) (0) (0) (0)),(5,.i .i64 (x.1)),(8,.sl (List.map c54 rs)),(9,.i .i64 ((↑rs.length:Int))),(10,.i .i64 (x.2.1))],[(3,⟨0,46,.var [.i .i64 (x.2.2.1),.i .i64 (x.2.2.2.1),.s (x.2.2.2.2.1),.i .i64 (x.2.2.2.2.2)]⟩)]⟩) (fun x ↦ decBr rs x.1 x.2.1 x.2.2.1 x.2.2.2.1 x.2.2.2.2.1 x.2.2.2.2.2) (fun x ↦ A9u rs e x.1 x.2.1 x.2.2.1 x.2.2.2.1 x.2.2.2.2.1 x.2.2.2.2.2) [3,5,8,9,10] [3] (((0:Int),(0:Int),e.dot.rep,e.dot.num,e.sku,e.qty)) (show A9u rs e (0:Int) (0:Int) e.dot.rep e.dot.num e.sku e.qty from(by exact⟨rfl,rfl,rfl,rfl,by omega,by omega,by omega,by omega,by simp [C4]⟩)) ?_
 rintro⟨n0,i1,r2,m3,s4,q5⟩ h_6
 obtain⟨hh7,hh8,hh9,hh10,h11,h12,h13,h14,h15⟩:r2=e.dot.rep∧m3=e.dot.num∧s4=e.sku∧q5=e.qty∧0≤i1∧i1≤(↑rs.length:Int)∧0≤n0∧n0≤i1∧n0=C4 (List.take i1.toNat rs) e:=h_6
 refine rE cx [3,5,8,9,10,11] [3] (zB 0 (i1 <(↑rs.length:Int))) (fun h16=>?_) fun h16=>?_
 refine sK<|sn<|sq<|bL 1<|sq<|rG cx [3,5,8,9,10,7] [3,7] (fA (0≤i1) (fG c54 rs i1.toNat (fR 3 (fN 3 3 (oR 0 (c54 rs[i1.toNat]!) z0)))))<|sn<|sq<|rG cx [3,5,8,9,10,16] [3] (fT (con209 (rs[i1.toNat]!) ({ dot:={ rep:=r2,num:=m3:Dot },sku:=s4,qty:=q5:Entry })) (oA 2 (.b (A1s rs[i1.toNat]! { dot:={ rep:=r2,num:=m3:Dot },sku:=s4,qty:=q5:Entry })) z0))<|sn<|P0 (A1s rs[i1.toNat]! { dot:={ rep:=r2,num:=m3:Dot },sku:=s4,qty:=q5:Entry }) (by kernel_rfl) (by kernel_rfl) (fun h17=>?_) (fun h17=>?_)
 refine rG cx [3,5,8,9,10] [3] (tW 1 (n0+1) z0)<|bN<|sn<|rG cx [3,5,8,9,10] [3] (tW 0 (i1+1) z0)<|sn<|nX ((n0+1,i1+1,r2,m3,s4,q5)) (show((↑rs.length:Int)-(i1+1)).toNat <((↑rs.length:Int)-i1).toNat from(by omega)) (show A9u rs e (n0+1) (i1+1) r2 m3 s4 q5 from ?g1);rotate_left
 refine sK<|bN<|sn<|rG cx [3,5,8,9,10] [3] (tW 0 (i1+1) z0)<|sn<|nX ((n0,i1+1,r2,m3,s4,q5)) (show((↑rs.length:Int)-(i1+1)).toNat <((↑rs.length:Int)-i1).toNat from(by omega)) (show A9u rs e n0 (i1+1) r2 m3 s4 q5 from ?g2);rotate_left
 refine eX 0<|nE<|nE<|bH<|sn<|sq<|rG cx [4] [] z0<|sn<|rT<|qR (.i .i64 (n0)) (.eq (by rw[h15,List.take_of_length_le (by omega)]))
 case g1 =>
  subst hh7 hh8 hh9 hh10
  refine⟨rfl,rfl,rfl,rfl,by omega,by omega,by omega,by omega,?_⟩
  rw[st h11 h16,if_pos h17,h15]
 case g2 =>
  subst hh7 hh8 hh9 hh10
  refine⟨rfl,rfl,rfl,rfl,by omega,by omega,by omega,by omega,?_⟩
  have h17:A1s rs[i1.toNat]! e=false:=h17
  rw[st h11 h16,if_neg (by rw[h17];simp),h15]
  omega
theorem con166(rs:List Record)(hb:B0t rs)(ht:tokR rs):Con Tryz.prog 166 [.sl (rs.map c54)] (.tup [.sl ((P7 rs).1.map c54),.i .i64 (P7 rs).2]) :=
 by
 have hl:=B9t rs
 have ht1:=ht.1
 have ht2:=ht.2
 refine lN 0 c54 (rs) Tryz.func166 fun hl_0=>sC A6 [.tmp 2,.tmp 3] 89 Tryz.func166 ?_
 intro e0 cx
 refine sq<|rG cx [0] [] z0<|sn<|sq<|sq<|rG cx [0,12] [] (fT (A62 (rs) (by(with_reducible assumption))) (tN 2 (F0 rs) (0:Int) (oA 1 (.i .i64 (F0 rs)) z0)))<|sn<|dC (¬F0 rs=0) (fun hh0=>?_) fun hh0=>?_
 refine sq<|rG cx [2,3] [] z0<|sn<|rT<|nR<|qR (.tup [.nl,.i .i64 ((1:Int))]) (B5.tup (ZLe.cons (B5.nl' (show List.map c54 (P7 rs).1=[]from(by unfold P7;rw[if_neg hh0];rfl))) (ZLe.cons (B5.eq (show AV.i .i64 1=AV.i .i64 (P7 rs).2 from(by unfold P7;rw[if_neg hh0]))) ZLe.nil)))
 refine sK<|sn<|sq<|rG cx [0,4] [4] z0<|sn<|sq<|rG cx [0,4,5] [4] z0<|sn<|sq<|sq<|rG cx [0,4,5,6] [4] z0<|sn<|bL 0<|E0 5 1005 54 3 (σ':=⟨[(0,.sl (List.map c54 rs)),(4,.ptr (4) (0) (0) (0)),(5,.own 1005 0),(6,.i .i64 ((0:Int)))],[(4,⟨0,26,.var [.nl,.nl]⟩),(1005,⟨0,54,.row 3 (List.map c54 [])⟩)]⟩) (by kernel_rfl)<|Ak1 4 0 (σ':=⟨[(0,.sl (List.map c54 rs)),(4,.ptr (4) (0) (0) (0)),(5,.own 1005 0),(6,.i .i64 ((0:Int)))],[(4,⟨0,26,.var [.sl (List.map c3 []),.nl]⟩),(1005,⟨0,54,.row 3 (List.map c54 [])⟩)]⟩) (by kernel_rfl)<|Ak1 4 1 (σ':=⟨[(0,.sl (List.map c54 rs)),(4,.ptr (4) (0) (0) (0)),(5,.own 1005 0),(6,.i .i64 ((0:Int)))],[(4,⟨0,26,.var [.sl (List.map c3 []),.sl (List.map A9 [])]⟩),(1005,⟨0,54,.row 3 (List.map c54 [])⟩)]⟩) (by kernel_rfl)<|sL (X:=Int×List Int×List Span×List Record) (fun x=>⟨[(0,.sl (List.map c54 rs)),(4,.ptr (4) (0) (0) (0)),(5,.own 1005 0),(6,.i .i64 (x.1))],[(4,⟨0,26,.var [.sl (List.map c3 x.2.1),.sl (List.map A9 x.2.2.1)]⟩),(1005,⟨0,54,.row 3 (List.map c54 x.2.2.2)⟩)]⟩) (fun x ↦ decFo rs x.1 x.2.1 x.2.2.1 x.2.2.2) (fun x ↦ At5 rs x.1 x.2.1 x.2.2.1 x.2.2.2) [0,4,5,6] [4,1005] (((0:Int),[],[],[])) (show At5 rs (0:Int) [] [] []from(by exact⟨by omega,by omega,by simp,by simp,rfl,fun r hr=>by cases hr⟩)) ?_
 rintro⟨i1,v2,cc3,o4⟩ h_5
 obtain⟨hh6,hh7,h8,h9,h10,h11⟩:0≤i1∧i1≤(↑rs.length:Int)∧(↑o4.length:Int)≤i1∧cc3.length≤(8000000000:Nat)∧B9q rs i1 { vec:=v2,cloud:=cc3:Past } o4∧∀(r:Record),r∈o4→r.past=A3 r.past:=h_5
 refine sq<|rD cx [0,4,5,6,16] [4,1005] (tL 2 c54 rs (zB 3 (i1 <(↑rs.length:Int)))) (fun h12=>?_) fun h12=>?_
 refine sK<|sn<|bL 1<|sq<|rG cx [0,4,5,6,7] [4,1005] z0<|sn<|sq<|rG cx [0,4,5,6,7,8] [4,1005] z0<|sn<|sq<|bL 2<|E0 8 1008 26 2 (σ':=⟨[(0,.sl (List.map c54 rs)),(4,.ptr (4) (0) (0) (0)),(5,.own 1005 0),(6,.i .i64 (i1)),(7,.i .i64 (i1)),(8,.own 1008 0)],[(4,⟨0,26,.var [.sl (List.map c3 v2),.sl (List.map A9 cc3)]⟩),(1005,⟨0,54,.row 3 (List.map c54 o4)⟩),(1008,⟨0,26,.row 2 (List.map c26 [])⟩)]⟩) (by kernel_rfl)<|sL (X:=Int×List Int×List Span×List Record×List Past) (fun x=>⟨[(0,.sl (List.map c54 rs)),(4,.ptr (4) (0) (0) (0)),(5,.own 1005 0),(6,.i .i64 (i1)),(7,.i .i64 (x.1)),(8,.own 1008 0)],[(4,⟨0,26,.var [.sl (List.map c3 x.2.1),.sl (List.map A9 x.2.2.1)]⟩),(1005,⟨0,54,.row 3 (List.map c54 x.2.2.2.1)⟩),(1008,⟨0,26,.row 2 (List.map c26 x.2.2.2.2)⟩)]⟩) (fun x ↦ decGr rs x.1 x.2.1 x.2.2.1 x.2.2.2.1 x.2.2.2.2) (fun x ↦ B9r rs i1 v2 cc3 o4 x.1 x.2.1 x.2.2.1 x.2.2.2.1 x.2.2.2.2) [0,4,5,6,7,8] [4,1005,1008] ((i1,v2,cc3,o4,[])) (show B9r rs i1 v2 cc3 o4 i1 v2 cc3 o4 []from(by exact⟨rfl,rfl,rfl,by omega,by omega,by simp,fun k hk1 hk2=>by omega⟩)) ?_
 rintro⟨j13,v14,c15,o16,p17⟩ h_18
 obtain⟨h19,h20,h21,h22,h23,h24⟩:v14=v2∧c15=cc3∧o16=o4∧i1≤j13∧j13≤(↑rs.length:Int)∧B7h rs i1 j13 p17:=h_18
 refine sq<|sq<|B1 (σ':=⟨[(0,.sl (List.map c54 rs)),(4,.ptr (4) (0) (0) (0)),(5,.own 1005 0),(6,.i .i64 (i1)),(7,.i .i64 (j13)),(8,.own 1008 0),(34,.b (decide (j13 <(↑rs.length:Int)∧rs[j13.toNat]!.sku=rs[i1.toNat]!.sku)))],[(4,⟨0,26,.var [.sl (List.map c3 v14),.sl (List.map A9 c15)]⟩),(1005,⟨0,54,.row 3 (List.map c54 o16)⟩),(1008,⟨0,26,.row 2 (List.map c26 p17)⟩)]⟩) ?_ ?_
 refine A5 (j13 <(↑rs.length:Int)) (fun h_26=>?_) (fun h_26=>?_)
 refine rA cx [0,4,5,6,7,8,34] [4,1005,1008] (tL 2 c54 rs (tT 3 (A4 h_26) (fO (0≤j13) (fG c54 rs j13.toNat (fR 3 (fA (0≤i1) (fG c54 rs i1.toNat (fR 3 (tT 15 (Z1:AV.b (rs[j13.toNat]!.sku.toList == rs[i1.toNat]!.sku.toList)=AV.b (decide (rs[j13.toNat]!.sku=rs[i1.toNat]!.sku))) (tD 16 (decide (rs[j13.toNat]!.sku=rs[i1.toNat]!.sku)) (j13 <(↑rs.length:Int)∧rs[j13.toNat]!.sku=rs[i1.toNat]!.sku) (by simp only [eq_true h_26,tsl]) (oR 7 (c54 rs[j13.toNat]!) (oR 12 (c54 rs[i1.toNat]!) z0)))))))))))) ?_
 exact⟨rfl,by kernel_rfl⟩
 refine rA cx [0,4,5,6,7,8,34] [4,1005,1008] (tL 2 c54 rs (tT 3 (A0 h_26) (tD 16 false (j13 <(↑rs.length:Int)∧rs[j13.toNat]!.sku=rs[i1.toNat]!.sku) (by simp only [eq_false h_26,tsl]) z0))) ?_
 exact⟨rfl,by kernel_rfl⟩
 refine sn<|dC (j13 <(↑rs.length:Int)∧rs[j13.toNat]!.sku=rs[i1.toNat]!.sku) (fun h27=>?_) fun h27=>?_
 refine sK<|sn<|bL 3<|sq<|rG cx [0,4,5,6,7,8] [4,1005,1008] (fO (0≤j13) (fG c54 rs j13.toNat (fR 3 (fN 2 2 (fR 26 (fR 2 (fR 2 (fX c26 [rs[j13.toNat]!.past] 2 (fP ((List.map c26 p17).length+(List.map c26 [rs[j13.toNat]!.past]).length≤maxLen) (by have:=B7i h24;simp only [List.length_map,List.length_cons,List.length_nil,Go.maxLen];omega) (fP (((List.map c26 p17).length+(List.map c26 [rs[j13.toNat]!.past]).length)*(48:Nat)≤(140737488355328:Nat)) (by have:=B7i h24;simp only [List.length_map,List.length_cons,List.length_nil];omega) (fM c26 p17 [rs[j13.toNat]!.past] (oR 3 (c54 rs[j13.toNat]!) (oV 7 { rows:=some (List.map c26 (p17++[rs[j13.toNat]!.past])) } z0))))))))))))) ?_
 refine sn<|rG cx [0,4,5,6,7,8] [4,1005,1008] (tW 1 (j13+1) z0)<|bN<|sn<|nX ((j13+1,v14,c15,o16,p17++[rs[j13.toNat]!.past])) (show((↑rs.length:Int)-(j13+1)).toNat <((↑rs.length:Int)-j13).toNat from(by omega)) (show B9r rs i1 v2 cc3 o4 (j13+1) v14 c15 o16 (p17++[rs[j13.toNat]!.past])from(by exact⟨h19,h20,h21,by omega,by omega,B9u hh6 h22 h27.1 h27.2 h24⟩))
 refine eX 2<|nE<|nE<|bH<|sn<|sq<|rA cx [0,4,5,7,9] [4,1005,9] (fA (0≤i1) (fG c54 rs i1.toNat (fR 3 (fT (con21 (p17) (by have:=gr_tot h24;omega)) (oR 2 (c54 rs[i1.toNat]!) (oA 6 (.agg [.sl (List.map c3 (D1 p17).vec),.sl (List.map A9 (D1 p17).cloud)]) z0)))))) ?_
 refine sn<|sq<|sq<|rG cx [0,4,5,7,9,55] [4,1005,9] (tT 2 (Z1:AV.b (rs[i1.toNat]!.sku.toList == { data:=#[]:ByteArray }.toList)=AV.b (decide (rs[i1.toNat]!.sku={ data:=#[]:ByteArray }))) z0)<|sn<|dC (rs[i1.toNat]!.sku={ data:=#[]:ByteArray }) (fun h28=>?_) fun h28=>?_
 refine rG cx [0,4,5,7,9] [4,1005,9] z0<|sn<|sq<|sq<|rG cx [0,4,5,7,9,66] [4,1005,9] (fT (B4x (D1 p17) (by have:=A7h p17;omega)) (tQ 3 (B8 (D1 p17)=0) (oA 2 (.b (decide (B8 (D1 p17)=0))) z0))) ?_
 refine sn<|dC (¬B8 (D1 p17)=0) (fun h29=>?_) fun h29=>?_
 refine rG cx [0,4,5,7] [4,1005] (fR 54 (fR 3 (fR 3 (fX c54 [{ sku:=rs[i1.toNat]!.sku,past:=D1 p17:Record }] 3 (fP ((List.map c54 o16).length+(List.map c54 [{ sku:=rs[i1.toNat]!.sku,past:=D1 p17:Record }]).length≤maxLen) (by subst h21;simp only [List.length_map,List.length_cons,List.length_nil,Go.maxLen];omega) (fP (((List.map c54 o16).length+(List.map c54 [{ sku:=rs[i1.toNat]!.sku,past:=D1 p17:Record }]).length)*(64:Nat)≤(140737488355328:Nat)) (by subst h21;simp only [List.length_map,List.length_cons,List.length_nil];omega) (fM c54 o16 [{ sku:=rs[i1.toNat]!.sku,past:=D1 p17:Record }] (oV 3 { rows:=some (List.map c54 (o16++[{ sku:=rs[i1.toNat]!.sku,past:=D1 p17:Record }])) } z0)))))))) ?_
 refine sn<|rG cx [0,4,5,6] [4,1005] z0<|bN<|sn<|nX ((j13,(D1 p17).vec,(D1 p17).cloud,o16++[{ sku:=rs[i1.toNat]!.sku,past:=D1 p17:Record }])) (show((↑rs.length:Int)-j13).toNat <((↑rs.length:Int)-i1).toNat from(by have:=(A1p hh6 h12 h22 h23 h27 h24).1;omega)) (show At5 rs j13 (D1 p17).vec (D1 p17).cloud (o16++[{ sku:=rs[i1.toNat]!.sku,past:=D1 p17:Record }])from ?g12);rotate_left
 refine sK<|sn<|rG cx [0,4,5,6] [4,1005] z0<|bN<|sn<|nX ((j13,(D1 p17).vec,(D1 p17).cloud,o16)) (show((↑rs.length:Int)-j13).toNat <((↑rs.length:Int)-i1).toNat from(by have:=(A1p hh6 h12 h22 h23 h27 h24).1;omega)) (show At5 rs j13 (D1 p17).vec (D1 p17).cloud o16 from ?g14);rotate_left
 refine rG cx [0,4,5,7,9] [4,1005,9] (fT (B7g (D1 p17) ({ vec:=v14,cloud:=c15:Past }) (by have:=A7h p17;omega) (by subst h20;simp only;omega)) (oA 3 (.agg [.sl (List.map c3 (B3 (D1 p17) { vec:=v14,cloud:=c15:Past }).vec),.sl (List.map A9 (B3 (D1 p17) { vec:=v14,cloud:=c15:Past }).cloud)]) z0)) ?_
 refine sn<|sq<|sq<|rG cx [0,4,5,7,9,66] [4,1005,9] (fT (B4x (B3 (D1 p17) { vec:=v14,cloud:=c15:Past }) (by have:=B57 (D1 p17) ⟨v14,c15⟩;omega)) (tQ 3 (B8 (B3 (D1 p17) { vec:=v14,cloud:=c15:Past })=0) (oA 2 (.b (decide (B8 (B3 (D1 p17) { vec:=v14,cloud:=c15:Past })=0))) z0))) ?_
 refine sn<|dC (¬B8 (B3 (D1 p17) { vec:=v14,cloud:=c15:Past })=0) (fun h30=>?_) fun h30=>?_
 refine rG cx [0,4,5,7] [4,1005] (fR 54 (fR 3 (fR 3 (fX c54 [{ sku:=rs[i1.toNat]!.sku,past:=B3 (D1 p17) { vec:=v14,cloud:=c15:Past }:Record }] 3 (fP ((List.map c54 o16).length+(List.map c54 [{ sku:=rs[i1.toNat]!.sku,past:=B3 (D1 p17) { vec:=v14,cloud:=c15:Past }:Record }]).length≤maxLen) (by subst h21;simp only [List.length_map,List.length_cons,List.length_nil,Go.maxLen];omega) (fP (((List.map c54 o16).length+(List.map c54 [{ sku:=rs[i1.toNat]!.sku,past:=B3 (D1 p17) { vec:=v14,cloud:=c15:Past }:Record }]).length)*(64:Nat)≤(140737488355328:Nat)) (by subst h21;simp only [List.length_map,List.length_cons,List.length_nil];omega) (fM c54 o16 [{ sku:=rs[i1.toNat]!.sku,past:=B3 (D1 p17) { vec:=v14,cloud:=c15:Past }:Record }] (oV 3 { rows:=some (List.map c54 (o16++[{ sku:=rs[i1.toNat]!.sku,past:=B3 (D1 p17) { vec:=v14,cloud:=c15:Past }:Record }])) } z0)))))))) ?_
 refine sn<|rG cx [0,4,5,6] [4,1005] z0<|bN<|sn<|nX ((j13,v14,c15,o16++[{ sku:=rs[i1.toNat]!.sku,past:=B3 (D1 p17) { vec:=v14,cloud:=c15:Past }:Record }])) (show((↑rs.length:Int)-j13).toNat <((↑rs.length:Int)-i1).toNat from(by have:=(A1p hh6 h12 h22 h23 h27 h24).1;omega)) (show At5 rs j13 v14 c15 (o16++[{ sku:=rs[i1.toNat]!.sku,past:=B3 (D1 p17) { vec:=v14,cloud:=c15:Past }:Record }])from ?g21);rotate_left
 refine sK<|sn<|rG cx [0,4,5,6] [4,1005] z0<|bN<|sn<|nX ((j13,v14,c15,o16)) (show((↑rs.length:Int)-j13).toNat <((↑rs.length:Int)-i1).toNat from(by have:=(A1p hh6 h12 h22 h23 h27 h24).1;omega)) (show At5 rs j13 v14 c15 o16 from ?g23);rotate_left
 refine eX 0<|nE<|nE<|bH<|sn<|sq<|sq<|B1 (σ':=⟨[(5,.own 1005 0),(81,.b (decide ((0:Int) <(↑o4.length:Int)∧o4[0]!.sku={ data:=#[]:ByteArray })))],[(1005,⟨0,54,.row 3 (List.map c54 o4)⟩)]⟩) ?_ ?_
 refine A5 ((0:Int) <(↑o4.length:Int)) (fun h32=>?_) (fun h32=>?_)
 refine rG cx [5,81] [1005] (tL 1 c54 o4 (tT 2 (A4 h32) (fO ((0:Int)≤(0:Int)) (fP (Int.toNat (0:Int) <(List.map c54 o4).length) (by(first | omega | (simp only [List.length_map];omega))) (fR 3 (fP (E.rowAt { ver:=0,ty:=54,k:=BK.row (3) (List.map c54 o4):Blk } (0) (c54 o4[0]!)) (by exact Am8 rfl h32 rfl) (tT 8 (Z1:AV.b (o4[0]!.sku.toList == { data:=#[]:ByteArray }.toList)=AV.b (decide (o4[0]!.sku={ data:=#[]:ByteArray }))) (tD 9 (decide (o4[0]!.sku={ data:=#[]:ByteArray })) ((0:Int) <(↑o4.length:Int)∧o4[0]!.sku={ data:=#[]:ByteArray }) (by simp only [eq_true h32,tsl]) (oR 7 (c54 o4[0]!) z0))))))))) ?_
 exact⟨rfl,by kernel_rfl⟩
 refine rG cx [5,81] [1005] (tL 1 c54 o4 (tT 2 (A0 h32) (tD 9 false ((0:Int) <(↑o4.length:Int)∧o4[0]!.sku={ data:=#[]:ByteArray }) (by simp only [eq_false h32,tsl]) z0))) ?_
 exact⟨rfl,by kernel_rfl⟩
 refine sn<|dC ((0:Int) <(↑o4.length:Int)∧o4[0]!.sku={ data:=#[]:ByteArray }) (fun h33=>?_) fun h33=>?_
 refine rG cx [5] [1005] (fO ((0:Int)≤(0:Int)) (fP (Int.toNat (0:Int) <(List.map c54 o4).length) (by(first | omega | (simp only [List.length_map];omega))) (fR 3 (fP (E.rowAt { ver:=0,ty:=54,k:=BK.row (3) (List.map c54 o4):Blk } (0) (c54 o4[0]!)) (by exact Am8 rfl h33.1 rfl) (fP (0+(3:Nat)≤(c54 o4[0]!).length) (by exact Nat.le_refl 3) (fT (B13 (o4[0]!) ?g27) (fO ((0:Int)≤(0:Int)) (fP (Int.toNat (0:Int) <(List.map c54 o4).length) (by(first | omega | (simp only [List.length_map];omega))) (fR 3 (fP ((List.map c54 o4)[0]?=some (c54 o4[0]!)) (by((try simp only [Nat.mul_one,Nat.add_zero,Nat.zero_add]);with_reducible refine F3 ?_;omega)) (fR 3 (fP (0+(3:Nat)≤3) (by(first | omega | (simp only [List.length_map];omega))) (fP ((List.map c54 o4).set (0) (List.take (0) (c54 o4[0]!)++D4 (AV.agg [AV.s { sku:=o4[0]!.sku,past:=A3 o4[0]!.past:Record }.sku,AV.sl (List.map c3 { sku:=o4[0]!.sku,past:=A3 o4[0]!.past:Record }.past.vec),AV.sl (List.map A9 { sku:=o4[0]!.sku,past:=A3 o4[0]!.past:Record }.past.cloud)])++List.drop (0+(3:Nat)) (c54 o4[0]!))=List.map c54 (o4.set (0) { sku:=o4[0]!.sku,past:=A3 o4[0]!.past:Record })) (by(with_reducible refine A1w ?_;kernel_rfl)) (oR 3 (c54 o4[0]!) (oA 4 (.agg [.s ({ sku:=o4[0]!.sku,past:=A3 o4[0]!.past:Record }.sku),.sl (List.map c3 { sku:=o4[0]!.sku,past:=A3 o4[0]!.past:Record }.past.vec),.sl (List.map A9 { sku:=o4[0]!.sku,past:=A3 o4[0]!.past:Record }.past.cloud)]) (oV 6 { row:=(c54 o4[0]!),rows:=some (List.map c54 (o4.set (0) { sku:=o4[0]!.sku,past:=A3 o4[0]!.past:Record })) } z0)))))))))))))))) ?_;rotate_left
 refine sn<|sq<|rG cx [2,3] [1005] z0<|sn<|rT<|qR (.tup [.sl (List.map c54 (o4.set (0) { sku:=o4[0]!.sku,past:=A3 o4[0]!.past:Record })),.i .i64 ((0:Int))]) (B5.tup (ZLe.cons (B5.eq (show AV.sl (List.map c54 (o4.set (0) { sku:=o4[0]!.sku,past:=A3 o4[0]!.past:Record }))=AV.sl (List.map c54 (P7 rs).1)from ?g29)) (ZLe.cons (B5.eq (show AV.i .i64 0=AV.i .i64 (P7 rs).2 from(by unfold P7;rw[if_pos (Classical.not_not.1 hh0)]))) ZLe.nil)));rotate_left
 refine sK<|sn<|sq<|rG cx [2,3] [1005] z0<|sn<|rT<|qR (.tup [.sl (List.map c54 o4),.i .i64 ((0:Int))]) (B5.tup (ZLe.cons (B5.eq (show AV.sl (List.map c54 o4)=AV.sl (List.map c54 (P7 rs).1)from ?g31)) (ZLe.cons (B5.eq (show AV.i .i64 0=AV.i .i64 (P7 rs).2 from(by unfold P7;rw[if_pos (Classical.not_not.1 hh0)]))) ZLe.nil)));rotate_left
 case g12 =>
  have k4':rs[i1.toNat]!.sku=noneS:=h28
  have g:=A7g hh6 h12 h22 h23 h27 h24 h10
  have g2:=(A1p hh6 h12 h22 h23 h27 h24).1
  rw[if_pos k4',if_neg (by rw[if_pos k4'];exact h29),if_pos k4']at g
  subst h21
  refine⟨by omega,by omega,by rw[List.length_append,List.length_singleton];omega,A7h p17,g,fun r hr=>?_⟩
  rcases List.mem_append.1 hr with hr | hr
  ·exact h11 r hr
  ·have:r=⟨rs[i1.toNat]!.sku,D1 p17⟩:=by simpa using hr
   subst this
   exact A9g p17
 case g14 =>
  have k4':rs[i1.toNat]!.sku=noneS:=h28
  have g:=A7g hh6 h12 h22 h23 h27 h24 h10
  have g2:=(A1p hh6 h12 h22 h23 h27 h24).1
  rw[if_pos k4',if_pos (by rw[if_pos k4'];exact Classical.not_not.1 h29)]at g
  subst h21
  exact⟨by omega,by omega,by omega,A7h p17,g,h11⟩
 case g21 =>
  have k4':¬ rs[i1.toNat]!.sku=noneS:=h28
  have g:=A7g hh6 h12 h22 h23 h27 h24 h10
  have g2:=(A1p hh6 h12 h22 h23 h27 h24).1
  subst h19 h20 h21
  rw[if_neg k4',if_neg (by rw[if_neg k4'];exact h30),if_neg k4']at g
  refine⟨by omega,by omega,by rw[List.length_append,List.length_singleton];omega,h9,g,fun r hr=>?_⟩
  rcases List.mem_append.1 hr with hr | hr
  ·exact h11 r hr
  ·have:r=⟨rs[i1.toNat]!.sku,B3 (D1 p17) ⟨v14,c15⟩⟩:=by simpa using hr
   subst this
   exact A5v _ _
 case g23 =>
  have k4':¬ rs[i1.toNat]!.sku=noneS:=h28
  have g:=A7g hh6 h12 h22 h23 h27 h24 h10
  have g2:=(A1p hh6 h12 h22 h23 h27 h24).1
  subst h19 h20 h21
  rw[if_neg k4',if_pos (by rw[if_neg k4'];exact Classical.not_not.1 h30)]at g
  exact⟨by omega,by omega,by omega,h9,g,h11⟩
 case g27 =>
  have:=V7 (h11 o4[0]! (D9 (by omega)))
  unfold szR
  omega
 case g29 =>
  have e:(⟨o4[0]!.sku,A3 o4[0]!.past⟩:Record)=o4[0]!:=by
   have:=h11 o4[0]! (D9 (by omega))
   generalize o4[0]! = r at *
   cases r
   simp only at this
   rw[← this]
  have e2:o4.set 0 o4[0]! = o4:=by
   cases o4 with
   | nil=>rfl
   | cons x l=>rfl
  unfold P7
  rw[if_pos (Classical.not_not.1 hh0),← B7j h12 h10]
  show AV.sl (List.map c54 (o4.set 0 ⟨o4[0]!.sku,A3 o4[0]!.past⟩))=_
  rw[e,e2]
 case g31 =>
  unfold P7
  rw[if_pos (Classical.not_not.1 hh0),← B7j h12 h10]
theorem con96(es:List Entry)(rs:List Record)(hb:B0t rs)(ht:tokR rs):Con Tryz.prog 96 [.sl (es.map c46),.sl (rs.map c54)] (.tup [.sl ((G7 es rs).1.map c46),.i .i64 (G7 es rs).2]) :=
 by
 have hl:E3 es=0→es.length≤16000000000:=fun h=>A0m (W4 h)
 have hf:F0 rs=0→(P7 rs).1=V6 ⟨[],[]⟩ [] rs:=fun h=>by unfold P7;rw[if_pos h]
 have no:¬E3 es=0∨¬F0 rs=0→¬(E3 es=0∧F0 rs=0):=fun h k=>by rcases h with h | h;exact h k.1;exact h k.2
 have yes:¬(¬E3 es=0∨¬F0 rs=0)→E3 es=0∧F0 rs=0:=fun h=>⟨Classical.not_not.1 fun k=>h (.inl k),Classical.not_not.1 fun k=>h (.inr k)⟩
 refine lN 0 c46 (es) Tryz.func96 fun hl_0=>lN 1 c54 (rs) Tryz.func96 fun hl_1=>sC A6 [.tmp 4,.tmp 5] 40 Tryz.func96 ?_
 intro e0 cx
 refine sq<|rG cx [0,1] [] z0<|sn<|sq<|sq<|B1 (σ':=⟨[(0,.sl (List.map c46 es)),(1,.sl (List.map c54 rs)),(18,.b (decide (¬E3 es=0∨¬F0 rs=0)))],[]⟩) ?_ ?_
 refine A5 (¬E3 es=0) (fun h_1=>?_) (fun h_1=>?_)
 refine rG cx [0,1,18] [] (fT (A44 (es)) (tT 2 (H2 h_1:AV.b (E3 es !=0)=AV.b true) (tD 7 true (¬E3 es=0∨¬F0 rs=0) (by simp only [eq_false h_1,tsl]) (oA 1 (.i .i64 (E3 es)) z0)))) ?_
 exact⟨rfl,by kernel_rfl⟩
 refine rG cx [0,1,18] [] (fT (A44 (es)) (tN 2 (E3 es) (0:Int) (tT 3 (A0 h_1) (fT (A62 (rs) (by(with_reducible assumption))) (tN 6 (F0 rs) (0:Int) (tT 7 (by first | (simp only [eq_false h_1,tsl];done) | simp_all:AV.b (decide ¬F0 rs=0)=AV.b (decide (¬E3 es=0∨¬F0 rs=0))) (oA 1 (.i .i64 (E3 es)) (oA 5 (.i .i64 (F0 rs)) z0)))))))) ?_
 exact⟨rfl,by kernel_rfl⟩
 refine sn<|dC (¬E3 es=0∨¬F0 rs=0) (fun hh2=>?_) fun hh2=>?_
 refine sq<|rG cx [4,5] [] z0<|sn<|rT<|nR<|qR (.tup [.nl,.i .i64 ((1:Int))]) (B5.tup (ZLe.cons (B5.nl' (show List.map c46 (G7 es rs).1=[]from(by unfold G7;rw[if_neg (no hh2)];rfl))) (ZLe.cons (B5.eq (show AV.i .i64 1=AV.i .i64 (G7 es rs).2 from(by unfold G7;rw[if_neg (no hh2)]))) ZLe.nil)))
 refine sK<|sn<|sq<|rG cx [0,6] [] (fT (con166 (rs) (by(with_reducible assumption)) (by(with_reducible assumption))) (oA 1 (.tup [.sl (List.map c54 (P7 rs).1),.i .i64 ((P7 rs).2)]) z0))<|sn<|sq<|rG cx [0,6,8] [] z0<|sn<|sq<|sq<|rG cx [6,8,24,25,26] [] (tL 1 c46 es z0)<|sn<|bL 0<|E0 8 1008 46 4 (σ':=⟨[(6,.sl (List.map c54 (P7 rs).1)),(8,.own 1008 0),(24,.sl (List.map c46 es)),(25,.i .i64 ((↑es.length:Int))),(26,.i .i64 ((0:Int)))],[(1008,⟨0,46,.row 4 (List.map c46 [])⟩)]⟩) (by kernel_rfl)<|sL (X:=Int×List Entry) (fun x=>⟨[(6,.sl (List.map c54 (P7 rs).1)),(8,.own 1008 0),(24,.sl (List.map c46 es)),(25,.i .i64 ((↑es.length:Int))),(26,.i .i64 (x.1))],[(1008,⟨0,46,.row 4 (List.map c46 x.2)⟩)]⟩) (fun x ↦ decAp es x.1 x.2) (fun x ↦ B55 es (V6 { vec:=[],cloud:=[]:Past } [] rs) x.1 x.2) [6,8,24,25,26] [1008] (((0:Int),[])) (show B55 es (V6 { vec:=[],cloud:=[]:Past } [] rs) (0:Int) []from(by exact⟨by omega,by omega,by simp,by simp⟩)) ?_
 rintro⟨i3,o4⟩ h_5
 obtain⟨h6,h7,h8,h9⟩:0≤i3∧i3≤(↑es.length:Int)∧(↑o4.length:Int)≤i3∧o4=List.filter (fun e ↦ decide (C4 (V6 { vec:=[],cloud:=[]:Past } [] rs) e=0)) (List.take i3.toNat es):=h_5
 refine rE cx [6,8,24,25,26,27] [1008] (zB 0 (i3 <(↑es.length:Int))) (fun h10=>?_) fun h10=>?_
 refine sK<|sn<|sq<|bL 1<|sq<|rG cx [6,8,24,25,26,10] [1008,10] (fA (0≤i3) (fG c46 es i3.toNat (fR 4 (fN 4 4 (oR 0 (c46 es[i3.toNat]!) z0)))))<|sn<|rD cx [6,8,24,25,26,10,33] [1008,10] (fT (B7k ((P7 rs).1) (es[i3.toNat]!)) (oA 2 (.i .i64 (C4 (P7 rs).1 es[i3.toNat]!)) (zB 3 (C4 (P7 rs).1 es[i3.toNat]! =(0:Int))))) (fun h11=>?_) fun h11=>?_
 refine rG cx [6,8,24,25,26] [1008] (fR 46 (fR 4 (fR 4 (fX c46 [es[i3.toNat]!] 4 (fS c46 o4 c46 [es[i3.toNat]!] (fP (((List.map c46 o4).length+(List.map c46 [es[i3.toNat]!]).length)*(40:Nat)≤(140737488355328:Nat)) (by have:=hl (yes hh2).1;simp only [List.length_map,List.length_cons,List.length_nil];omega) (fM c46 o4 [es[i3.toNat]!] (oV 3 { rows:=some (List.map c46 (o4++[es[i3.toNat]!])) } z0)))))))) ?_
 refine bN<|sn<|rG cx [6,8,24,25,26] [1008] (tW 0 (i3+1) z0)<|sn<|nX ((i3+1,o4++[es[i3.toNat]!])) (show((↑es.length:Int)-(i3+1)).toNat <((↑es.length:Int)-i3).toNat from(by omega)) (show B55 es (V6 { vec:=[],cloud:=[]:Past } [] rs) (i3+1) (o4++[es[i3.toNat]!])from ?g4);rotate_left
 refine sK<|bN<|sn<|rG cx [6,8,24,25,26] [1008] (tW 0 (i3+1) z0)<|sn<|nX ((i3+1,o4)) (show((↑es.length:Int)-(i3+1)).toNat <((↑es.length:Int)-i3).toNat from(by omega)) (show B55 es (V6 { vec:=[],cloud:=[]:Past } [] rs) (i3+1) o4 from ?g5);rotate_left
 refine eX 0<|nE<|nE<|bH<|sn<|sq<|rG cx [4,5] [1008] z0<|sn<|rT<|qR (.tup [.sl (List.map c46 o4),.i .i64 ((0:Int))]) (B5.tup (ZLe.cons (B5.eq (show AV.sl (List.map c46 o4)=AV.sl (List.map c46 (G7 es rs).1)from ?g7)) (ZLe.cons (B5.eq (show AV.i .i64 0=AV.i .i64 (G7 es rs).2 from(by unfold G7;rw[if_pos (yes hh2)]))) ZLe.nil)));rotate_left
 case g4 =>
  rw[hf (yes hh2).2]at h11
  refine⟨by omega,by omega,by rw[List.length_append,List.length_singleton];omega,?_⟩
  rw[B12 h6 h10 h9,if_pos h11]
 case g5 =>
  rw[hf (yes hh2).2]at h11
  refine⟨by omega,by omega,by omega,?_⟩
  rw[B12 h6 h10 h9,if_neg h11,List.append_nil]
 case g7 =>
  unfold G7
  rw[if_pos (yes hh2),h9,List.take_of_length_le (by omega),B9v]
end Go.Proofs.YtphcaholhacnpaaGreat
namespace Go.Proofs.YtphcaholhacnpaaGreat
open Go.E
set_option maxRecDepth 100000
set_option maxHeartbeats 4000000
def B14(p:Past)(d:Dot)(i:Int)(v:List Int)(c:List Span)(r n:Int):Prop:=v=p.vec∧c=p.cloud∧r=d.rep∧n=d.num∧0≤i∧i≤p.cloud.length∧∀ j:Nat,(j:Int) < i→A50 p.cloud[j]! d=false
def decHas(p:Past)(i:Int)(v:List Int)(c:List Span)(r n:Int):Nat:=(p.cloud.length-i).toNat
def B9w(a b:Past)(i:Int)(v:List Int)(c:List Span)(w:List Int)(e:List Span):Prop:=v=a.vec∧c=a.cloud∧w=b.vec∧e=b.cloud∧0≤i∧i≤a.vec.length∧∀ j:Nat,(j:Int) < i→a.vec[j]! = b.vec[j]!
def decSV(a:Past)(i:Int)(v:List Int)(c:List Span)(w:List Int)(e:List Span):Nat:=(a.vec.length-i).toNat
def B9x(a b:Past)(i:Int)(v:List Int)(c:List Span)(w:List Int)(e:List Span):Prop:=v=a.vec∧c=a.cloud∧w=b.vec∧e=b.cloud∧0≤i∧i≤a.cloud.length∧∀ j:Nat,(j:Int) < i→a.cloud[j]! = b.cloud[j]!
def decSC(a:Past)(i:Int)(v:List Int)(c:List Span)(w:List Int)(e:List Span):Nat:=(a.cloud.length-i).toNat
theorem At6(d:Dot):Con Tryz.prog 89 [.agg (c44 d)] (.b (I0 d)) :=
 by
 refine sC A6 [.tmp 2] 21 Tryz.func89 ?_
 intro e0 cx
 refine sq<|rG cx [1] [1] z0<|sn<|sq<|B1 (σ':=⟨[(2,.b (decide (0≤d.rep∧d.rep <(16:Int)∧1≤d.num∧d.num≤1000000000)))],[]⟩) ?_ ?_
 refine A5 (0≤d.rep) (fun h_1=>?_) (fun h_1=>?_)
 refine A5 (d.rep <(16:Int)) (fun h_2=>?_) (fun h_2=>?_)
 refine A5 (1≤d.num) (fun h_3=>?_) (fun h_3=>?_)
 refine rG cx [2] [] (tT 2 (A4 h_1) (tT 6 (A4 h_2) (tT 11 (A4 h_3) (tB 16 (d.num≤1000000000) (tD 18 (decide (d.num≤1000000000)) (0≤d.rep∧d.rep <(16:Int)∧1≤d.num∧d.num≤1000000000) (by simp only [eq_true h_1,eq_true h_2,eq_true h_3,tsl]) z0))))) ?_
 exact⟨rfl,by kernel_rfl⟩
 refine rG cx [2] [] (tT 2 (A4 h_1) (tT 6 (A4 h_2) (tT 11 (A0 h_3) (tD 18 false (0≤d.rep∧d.rep <(16:Int)∧1≤d.num∧d.num≤1000000000) (by simp only [eq_true h_1,eq_true h_2,eq_false h_3,tsl]) z0)))) ?_
 exact⟨rfl,by kernel_rfl⟩
 refine rG cx [2] [] (tT 2 (A4 h_1) (tT 6 (A0 h_2) (tD 18 false (0≤d.rep∧d.rep <(16:Int)∧1≤d.num∧d.num≤1000000000) (by simp only [eq_true h_1,eq_false h_2,tsl]) z0))) ?_
 exact⟨rfl,by kernel_rfl⟩
 refine rG cx [2] [] (tT 2 (A0 h_1) (tD 18 false (0≤d.rep∧d.rep <(16:Int)∧1≤d.num∧d.num≤1000000000) (by simp only [eq_false h_1,tsl]) z0)) ?_
 exact⟨rfl,by kernel_rfl⟩
 refine sn<|rT<|qR (.b (decide (0≤d.rep∧d.rep <(16:Int)∧1≤d.num∧d.num≤1000000000))) (.eq ?g0);rotate_left
 case g0=>exact rfl
theorem Ag1(p:Past)(d:Dot)(hl:p.cloud.length≤9223372036854775807):Con Tryz.prog 18 [.agg (c26 p),.agg (c44 d)] (.b (C7 p d)) :=
 by
 refine sC A6 [.tmp 4] 58 Tryz.func18 ?_
 intro e0 cx
 refine sq<|rG cx [2,3] [2,3] z0<|sn<|sq<|sq<|rG cx [2,3,9] [2,3] (fT (At6 (d)) (tT 2 (C3:(AV.b !I0 d)=AV.b (decide ¬I0 d=true)) (oA 1 (.b (I0 d)) z0)))<|sn<|dC (¬I0 d=true) (fun h0=>?_) fun h0=>?_
 refine sq<|rG cx [4] [] z0<|sn<|rT<|nR<|qR (.b (false)) (.eq (by unfold C7;rw[Bool.eq_false_iff.2 h0];rfl))
 refine sK<|sn<|sq<|sq<|B1 (σ':=⟨[(2,.ptr (2) (0) (0) (0)),(3,.ptr (3) (0) (0) (0)),(26,.b (decide (d.rep <(↑p.vec.length:Int)∧d.num≤p.vec[d.rep.toNat]!)))],[(2,⟨0,26,.var [.sl (List.map c3 p.vec),.sl (List.map A9 p.cloud)]⟩),(3,⟨0,44,.var [.i .i64 (d.rep),.i .i64 (d.num)]⟩)]⟩) ?_ ?_
 refine A5 (d.rep <(↑p.vec.length:Int)) (fun h2=>?_) (fun h2=>?_)
 refine rA cx [2,3,26] [2,3] (tL 4 c3 p.vec (tT 5 (A4 h2) (fP (0≤d.rep) (by exact(G2 (Classical.not_not.1 h0)).1) (fP ((List.map c3 p.vec)[d.rep.toNat]?=some (c3 p.vec[d.rep.toNat]!)) (by have:=(G2 (Classical.not_not.1 h0)).1;exact F3 (by omega)) (fR 1 (tB 15 (d.num≤p.vec[d.rep.toNat]!) (tD 16 (decide (d.num≤p.vec[d.rep.toNat]!)) (d.rep <(↑p.vec.length:Int)∧d.num≤p.vec[d.rep.toNat]!) (by simp only [eq_true h2,tsl]) (oR 13 (c3 p.vec[d.rep.toNat]!) z0)))))))) ?_
 exact⟨rfl,by kernel_rfl⟩
 refine rA cx [2,3,26] [2,3] (tL 4 c3 p.vec (tT 5 (A0 h2) (tD 16 false (d.rep <(↑p.vec.length:Int)∧d.num≤p.vec[d.rep.toNat]!) (by simp only [eq_false h2,tsl]) z0))) ?_
 exact⟨rfl,by kernel_rfl⟩
 refine sn<|dC (d.rep <(↑p.vec.length:Int)∧d.num≤p.vec[d.rep.toNat]!) (fun h3=>?_) fun h3=>?_
 refine sq<|rG cx [4] [] z0<|sn<|rT<|nR<|qR (.b (true)) (.eq (by unfold C7;rw[Classical.not_not.1 h0,decide_eq_true h3];rfl))
 refine sK<|sn<|sq<|sq<|rG cx [2,3,5] [2,3] z0<|sn<|bL 0<|sL (X:=Int×List Int×List Span×Int×Int) (fun x=>⟨[(2,.ptr (2) (0) (0) (0)),(3,.ptr (3) (0) (0) (0)),(5,.i .i64 (x.1))],[(2,⟨0,26,.var [.sl (List.map c3 x.2.1),.sl (List.map A9 x.2.2.1)]⟩),(3,⟨0,44,.var [.i .i64 (x.2.2.2.1),.i .i64 (x.2.2.2.2)]⟩)]⟩) (fun x ↦ decHas p x.1 x.2.1 x.2.2.1 x.2.2.2.1 x.2.2.2.2) (fun x ↦ B14 p d x.1 x.2.1 x.2.2.1 x.2.2.2.1 x.2.2.2.2) [2,3,5] [2,3] (((0:Int),p.vec,p.cloud,d.rep,d.num)) (show B14 p d (0:Int) p.vec p.cloud d.rep d.num from(by exact⟨rfl,rfl,rfl,rfl,by omega,by omega,fun j hj=>by omega⟩)) ?_
 rintro⟨i4,v5,c6,r7,n8⟩ h_9
 obtain⟨h10,h11,h12,h13,h14,h15,h16⟩:v5=p.vec∧c6=p.cloud∧r7=d.rep∧n8=d.num∧0≤i4∧i4≤(↑p.cloud.length:Int)∧∀(j:Nat),(↑j:Int) < i4→A50 p.cloud[j]! d=false:=h_9
 refine sq<|rD cx [2,3,5,31] [2,3] (tL 3 A9 c6 (zB 4 (i4 <(↑c6.length:Int)))) (fun h17=>?_) fun h17=>?_
 refine sK<|sn<|sq<|bL 1<|sq<|rG cx [2,3,5,6] [2,3,6] (fA (0≤i4) (fG A9 c6 i4.toNat (fR 3 (fN 3 3 (oR 3 (A9 c6[i4.toNat]!) z0)))))<|sn<|sq<|B1 (σ':=⟨[(2,.ptr (2) (0) (0) (0)),(3,.ptr (3) (0) (0) (0)),(5,.i .i64 (i4)),(57,.b (decide (c6[i4.toNat]!.rep=r7∧c6[i4.toNat]!.lo≤n8∧n8≤c6[i4.toNat]!.hi)))],[(2,⟨0,26,.var [.sl (List.map c3 v5),.sl (List.map A9 c6)]⟩),(3,⟨0,44,.var [.i .i64 (r7),.i .i64 (n8)]⟩)]⟩) ?_ ?_
 refine A5 (c6[i4.toNat]!.rep=r7) (fun h_19=>?_) (fun h_19=>?_)
 refine A5 (c6[i4.toNat]!.lo≤n8) (fun h_20=>?_) (fun h_20=>?_)
 refine rG cx [2,3,5,57] [2,3] (tT 4 (A4 h_19) (tT 10 (A4 h_20) (tB 17 (n8≤c6[i4.toNat]!.hi) (tD 18 (decide (n8≤c6[i4.toNat]!.hi)) (c6[i4.toNat]!.rep=r7∧c6[i4.toNat]!.lo≤n8∧n8≤c6[i4.toNat]!.hi) (by simp only [eq_true h_19,eq_true h_20,tsl]) z0)))) ?_
 exact⟨rfl,by kernel_rfl⟩
 refine rG cx [2,3,5,57] [2,3] (tT 4 (A4 h_19) (tT 10 (A0 h_20) (tD 18 false (c6[i4.toNat]!.rep=r7∧c6[i4.toNat]!.lo≤n8∧n8≤c6[i4.toNat]!.hi) (by simp only [eq_true h_19,eq_false h_20,tsl]) z0))) ?_
 exact⟨rfl,by kernel_rfl⟩
 refine rG cx [2,3,5,57] [2,3] (tT 4 (A0 h_19) (tD 18 false (c6[i4.toNat]!.rep=r7∧c6[i4.toNat]!.lo≤n8∧n8≤c6[i4.toNat]!.hi) (by simp only [eq_false h_19,tsl]) z0)) ?_
 exact⟨rfl,by kernel_rfl⟩
 refine sn<|dC (c6[i4.toNat]!.rep=r7∧c6[i4.toNat]!.lo≤n8∧n8≤c6[i4.toNat]!.hi) (fun h21=>?_) fun h21=>?_
 refine sq<|rG cx [4] [] z0<|sn<|rT<|bR<|nR<|nR<|bR<|nR<|qR (.b (true)) (.eq ?g5);rotate_left
 refine sK<|bN<|sn<|rG cx [2,3,5] [2,3] (tT 1 (B4 (by omega) (by subst h10 h11 h12 h13;omega):AV.i .i64 (IntKind.i64.wrap (i4+1))=AV.i .i64 (i4+1)) z0) ?_
 refine sn<|nX ((i4+1,v5,c6,r7,n8)) (show((↑p.cloud.length:Int)-(i4+1)).toNat <((↑p.cloud.length:Int)-i4).toNat from(by subst h10 h11 h12 h13;omega)) (show B14 p d (i4+1) v5 c6 r7 n8 from ?g8);rotate_left
 refine eX 0<|nE<|nE<|bH<|sn<|sq<|rG cx [4] [] z0<|sn<|rT<|qR (.b (false)) (.eq ?g9);rotate_left
 case g5 =>
  revert h0 h3 i4 v5 c6 r7 n8 h10 h11 h12 h13 h14 h15 h16 h17 h21
  intro h h1 i v c r n k0 k1 k2 k3 k4 k5 k6 k7 k8
  subst k0 k1 k2 k3
  have:(p.cloud.any fun s=>A50 s d)=true:=List.any_eq_true.2 ⟨_,D9 (l:=p.cloud) (i:=i.toNat) (by omega),decide_eq_true k8⟩
  unfold C7
  rw[Classical.not_not.1 h,this]
  simp
 case g8 =>
  subst h10 h11 h12 h13
  refine⟨rfl,rfl,rfl,rfl,by omega,by omega,fun j hj=>?_⟩
  by_cases e:j=i4.toNat
  ·rw[e];exact decide_eq_false h21
  ·exact h16 j (by omega)
 case g9 =>
  subst h10 h11 h12 h13
  have e:=B02 p.cloud d
  rw[B73 fun j hj=>h16 j (by omega)]at e
  unfold C7
  rw[decide_eq_false h3,← e]
  simp
theorem Ag2(a b:Past)(h1:a.vec.length≤9223372036854775807)(h2:a.cloud.length≤9223372036854775807):Con Tryz.prog 86 [.agg (c26 a),.agg (c26 b)] (.b (decide (a=b))) :=
 by
 refine sC A6 [.tmp 4] 59 Tryz.func86 ?_
 intro e0 cx
 refine sq<|rG cx [2,3] [2,3] z0<|sn<|sq<|sq<|B1 (σ':=⟨[(2,.ptr (2) (0) (0) (0)),(3,.ptr (3) (0) (0) (0)),(22,.b (decide (¬(↑a.vec.length:Int)=(↑b.vec.length:Int)∨¬(↑a.cloud.length:Int)=(↑b.cloud.length:Int))))],[(2,⟨0,26,.var [.sl (List.map c3 a.vec),.sl (List.map A9 a.cloud)]⟩),(3,⟨0,26,.var [.sl (List.map c3 b.vec),.sl (List.map A9 b.cloud)]⟩)]⟩) ?_ ?_
 refine A5 (¬(↑a.vec.length:Int)=(↑b.vec.length:Int)) (fun h_1=>?_) (fun h_1=>?_)
 refine rG cx [2,3,22] [2,3] (tL 2 c3 a.vec (tL 5 c3 b.vec (tT 6 (H2 h_1:AV.b ((↑a.vec.length:Int) !=(↑b.vec.length:Int))=AV.b true) (tD 15 true (¬(↑a.vec.length:Int)=(↑b.vec.length:Int)∨¬(↑a.cloud.length:Int)=(↑b.cloud.length:Int)) (by simp only [eq_false h_1,tsl]) z0)))) ?_
 exact⟨rfl,by kernel_rfl⟩
 refine rG cx [2,3,22] [2,3] (tL 2 c3 a.vec (tL 5 c3 b.vec (tN 6 (↑a.vec.length:Int) (↑b.vec.length:Int) (tT 7 (A0 h_1) (tL 10 A9 a.cloud (tL 13 A9 b.cloud (tN 14 (↑a.cloud.length:Int) (↑b.cloud.length:Int) (tT 15 (by first | (simp only [eq_false h_1,tsl];done) | simp_all:AV.b (decide ¬(↑a.cloud.length:Int)=(↑b.cloud.length:Int))=AV.b (decide (¬(↑a.vec.length:Int)=(↑b.vec.length:Int)∨¬(↑a.cloud.length:Int)=(↑b.cloud.length:Int)))) z0)))))))) ?_
 exact⟨rfl,by kernel_rfl⟩
 refine sn<|dC (¬(↑a.vec.length:Int)=(↑b.vec.length:Int)∨¬(↑a.cloud.length:Int)=(↑b.cloud.length:Int)) (fun hh2=>?_) fun hh2=>?_
 refine sq<|rG cx [4] [] z0<|sn<|rT<|nR<|qR (.b (false)) (.eq (by rw[decide_eq_false];rintro rfl;exact hh2.elim (fun k=>k rfl) (fun k=>k rfl)))
 refine sK<|sn<|sq<|sq<|rG cx [2,3,5] [2,3] z0<|sn<|bL 0<|sL (X:=Int×List Int×List Span×List Int×List Span) (fun x=>⟨[(2,.ptr (2) (0) (0) (0)),(3,.ptr (3) (0) (0) (0)),(5,.i .i64 (x.1))],[(2,⟨0,26,.var [.sl (List.map c3 x.2.1),.sl (List.map A9 x.2.2.1)]⟩),(3,⟨0,26,.var [.sl (List.map c3 x.2.2.2.1),.sl (List.map A9 x.2.2.2.2)]⟩)]⟩) (fun x ↦ decSV a x.1 x.2.1 x.2.2.1 x.2.2.2.1 x.2.2.2.2) (fun x ↦ B9w a b x.1 x.2.1 x.2.2.1 x.2.2.2.1 x.2.2.2.2) [2,3,5] [2,3] (((0:Int),a.vec,a.cloud,b.vec,b.cloud)) (show B9w a b (0:Int) a.vec a.cloud b.vec b.cloud from(by exact⟨rfl,rfl,rfl,rfl,by omega,by omega,fun j hj=>by omega⟩)) ?_
 rintro⟨i3,v4,c5,w6,e7⟩ h_8
 obtain⟨h9,h10,h11,h12,h13,h14,h15⟩:v4=a.vec∧c5=a.cloud∧w6=b.vec∧e7=b.cloud∧0≤i3∧i3≤(↑a.vec.length:Int)∧∀(j:Nat),(↑j:Int) < i3→a.vec[j]! = b.vec[j]!:=h_8
 refine sq<|rD cx [2,3,5,27] [2,3] (tL 3 c3 v4 (zB 4 (i3 <(↑v4.length:Int)))) (fun h16=>?_) fun h16=>?_
 refine sK<|sn<|sq<|bL 1<|sq<|rA cx [2,3,5,40] [2,3] (fA (0≤i3) (fG c3 v4 i3.toNat (fR 1 (fA (0≤i3) (fP ((List.map c3 w6)[i3.toNat]?=some (c3 w6[i3.toNat]!)) (by subst h9 h10 h11 h12;exact F3 (by omega)) (fR 1 (tN 10 v4[i3.toNat]! w6[i3.toNat]! (oR 3 (c3 v4[i3.toNat]!) (oR 8 (c3 w6[i3.toNat]!) z0))))))))) ?_
 refine sn<|dC (¬v4[i3.toNat]! = w6[i3.toNat]!) (fun h17=>?_) fun h17=>?_
 refine sq<|rG cx [4] [] z0<|sn<|rT<|bR<|nR<|nR<|bR<|nR<|qR (.b (false)) (.eq (by subst h9 h10 h11 h12;rw[decide_eq_false];rintro rfl;exact h17 rfl))
 refine sK<|bN<|sn<|rG cx [2,3,5] [2,3] (tT 1 (B4 (by omega) (by subst h9 h10 h11 h12;omega):AV.i .i64 (IntKind.i64.wrap (i3+1))=AV.i .i64 (i3+1)) z0) ?_
 refine sn<|nX ((i3+1,v4,c5,w6,e7)) (show((↑a.vec.length:Int)-(i3+1)).toNat <((↑a.vec.length:Int)-i3).toNat from(by subst h9 h10 h11 h12;omega)) (show B9w a b (i3+1) v4 c5 w6 e7 from ?g6);rotate_left
 refine eX 0<|nE<|nE<|bH<|sn<|sq<|sq<|rG cx [2,3,6] [2,3] z0<|sn<|bL 2<|sL (X:=Int×List Int×List Span×List Int×List Span) (fun x=>⟨[(2,.ptr (2) (0) (0) (0)),(3,.ptr (3) (0) (0) (0)),(6,.i .i64 (x.1))],[(2,⟨0,26,.var [.sl (List.map c3 x.2.1),.sl (List.map A9 x.2.2.1)]⟩),(3,⟨0,26,.var [.sl (List.map c3 x.2.2.2.1),.sl (List.map A9 x.2.2.2.2)]⟩)]⟩) (fun x ↦ decSC a x.1 x.2.1 x.2.2.1 x.2.2.2.1 x.2.2.2.2) (fun x ↦ B9x a b x.1 x.2.1 x.2.2.1 x.2.2.2.1 x.2.2.2.2) [2,3,6] [2,3] (((0:Int),v4,c5,w6,e7)) (show B9x a b (0:Int) v4 c5 w6 e7 from(by exact⟨h9,h10,h11,h12,by omega,by omega,fun j hj=>by omega⟩)) ?_
 rintro⟨i18,v19,c20,w21,e22⟩ h_23
 obtain⟨h24,h25,h26,h27,h28,h29,h30⟩:v19=a.vec∧c20=a.cloud∧w21=b.vec∧e22=b.cloud∧0≤i18∧i18≤(↑a.cloud.length:Int)∧∀(j:Nat),(↑j:Int) < i18→a.cloud[j]! = b.cloud[j]!:=h_23
 refine sq<|rD cx [2,3,6,45] [2,3] (tL 3 A9 c20 (zB 4 (i18 <(↑c20.length:Int)))) (fun h31=>?_) fun h31=>?_
 refine sK<|sn<|sq<|bL 3<|sq<|rA cx [2,3,6,58] [2,3] (fA (0≤i18) (fG A9 c20 i18.toNat (fR 3 (fN 3 3 (fA (0≤i18) (fP ((List.map A9 e22)[i18.toNat]?=some (A9 e22[i18.toNat]!)) (by subst h24 h25 h26 h27;exact F3 (by omega)) (fR 3 (fN 3 3 (fT (X5 (eq141 c20[i18.toNat]! e22[i18.toNat]!)) (oR 3 (A9 c20[i18.toNat]!) (oR 8 (A9 e22[i18.toNat]!) (oA 10 (.b (decide ¬c20[i18.toNat]! = e22[i18.toNat]!)) z0)))))))))))) ?_
 refine sn<|dC (¬c20[i18.toNat]! = e22[i18.toNat]!) (fun h32=>?_) fun h32=>?_
 refine sq<|rG cx [4] [] z0<|sn<|rT<|bR<|nR<|nR<|bR<|nR<|qR (.b (false)) (.eq (by subst h24 h25 h26 h27;rw[decide_eq_false];rintro rfl;exact h32 rfl))
 refine sK<|bN<|sn<|rG cx [2,3,6] [2,3] (tT 1 (B4 (by omega) (by subst h24 h25 h26 h27;omega):AV.i .i64 (IntKind.i64.wrap (i18+1))=AV.i .i64 (i18+1)) z0) ?_
 refine sn<|nX ((i18+1,v19,c20,w21,e22)) (show((↑a.cloud.length:Int)-(i18+1)).toNat <((↑a.cloud.length:Int)-i18).toNat from(by subst h24 h25 h26 h27;omega)) (show B9x a b (i18+1) v19 c20 w21 e22 from ?g12);rotate_left
 refine eX 2<|nE<|nE<|bH<|sn<|sq<|rG cx [4] [] z0<|sn<|rT<|qR (.b (true)) (.eq ?g13);rotate_left
 case g6 =>
  subst h9 h10 h11 h12
  refine⟨rfl,rfl,rfl,rfl,by omega,by omega,fun j hj=>?_⟩
  by_cases e7:j=i3.toNat
  ·rw[e7];exact Classical.not_not.1 h17
  ·exact h15 j (by omega)
 case g12 =>
  subst h24 h25 h26 h27
  refine⟨rfl,rfl,rfl,rfl,by omega,by omega,fun l hl=>?_⟩
  by_cases e7:l=i18.toNat
  ·rw[e7];exact Classical.not_not.1 h32
  ·exact h30 l (by omega)
 case g13 =>
  subst h9 h25
  have e1:a.vec=b.vec:=I5 (by omega) fun i18 hj=>h15 i18 (by omega)
  have e2:a.cloud=b.cloud:=I5 (by omega) fun i18 hj=>h30 i18 (by omega)
  rw[decide_eq_true]
  cases a;cases b
  simp only at e1 e2
  rw[e1,e2]
end Go.Proofs.YtphcaholhacnpaaGreat
namespace Go.Proofs.YtphcaholhacnpaaGreat
open Go.E
set_option maxRecDepth 100000
set_option maxHeartbeats 4000000
def leI(a b:Int):Bool:=decide (a≤b)
def A53(A B:List Int)(i j:Int)(s:List Int):Prop:=s++List.merge (A.drop i.toNat) (B.drop j.toNat) leI=List.merge A B leI
def B58(A B:List Int)(i j:Int)(s:List Int):Prop:=0≤i∧i≤A.length∧0≤j∧j≤B.length∧(s.length:Int)=i+j∧A53 A B i j s
def dec37(A B:List Int)(i j:Int)(s:List Int):Nat:=(A.length+B.length-i-j).toNat
def hA(l:List Int):List Int:=(List.take ((l.length:Int).tdiv 2).toNat l).mergeSort leI
def hB(l:List Int):List Int:=(List.drop ((l.length:Int).tdiv 2).toNat l).mergeSort leI
theorem hA_len(l:List Int):(hA l).length=((l.length:Int).tdiv 2).toNat:=by
 unfold hA
 rw[List.length_mergeSort,List.length_take,Int.tdiv_eq_ediv_of_nonneg (by omega)]
 omega
theorem hB_len(l:List Int):(hB l).length=l.length-((l.length:Int).tdiv 2).toNat:=by
 unfold hB
 rw[List.length_mergeSort,List.length_drop]
theorem B9y(l:List Int):0≤(l.length:Int).tdiv 2∧2*(l.length:Int).tdiv 2≤l.length∧(l.length:Int)≤2*(l.length:Int).tdiv 2+1:=by
 rw[Int.tdiv_eq_ediv_of_nonneg (by omega)]
 omega
theorem A9w(a b c:Int)(h1:leI a b=true)(h2:leI b c=true):leI a c=true:=by simp only [leI,decide_eq_true_eq]at *;omega
theorem A9x(a b:Int):(leI a b || leI b a)=true:=by simp only [leI,Bool.or_eq_true,decide_eq_true_eq];omega
theorem B59(l:List Int):List.merge (hA l) (hB l) leI=l.mergeSort leI:=by
 refine List.Perm.eq_of_pairwise (le:=fun x y=>leI x y=true) (fun a b _ _ h1 h2=>by simp only [leI,decide_eq_true_eq]at *;omega) ?_ (List.pairwise_mergeSort A9w A9x l) ?_
 ·exact List.pairwise_merge A9w A9x _ _ (List.pairwise_mergeSort A9w A9x _) (List.pairwise_mergeSort A9w A9x _)
 ·refine(List.merge_perm_append leI).trans (((List.mergeSort_perm _ _).append (List.mergeSort_perm _ _)).trans ?_)
  rw[List.take_append_drop]
  exact(List.mergeSort_perm _ _).symm
theorem M9{α:Type}[Inhabited α]{l:List α}{i:Int}(h0:0≤i)(h:i < l.length):l.drop i.toNat=l[i.toNat]! :: l.drop (i+1).toNat:=by
 rw[show(i+1).toNat=i.toNat+1 by omega,getElem!_pos l i.toNat (by omega),← List.drop_eq_getElem_cons]
theorem mrgL{A B:List Int}{i j:Int}{s:List Int}(h0:0≤i)(hi:i < A.length)(j0:0≤j)(hj:j=B.length∨(j < B.length∧A[i.toNat]!≤B[j.toNat]!))(h:A53 A B i j s):A53 A B (i+1) j (s++[A[i.toNat]!]):=by
 unfold A53 at *
 rw[← h,List.append_assoc]
 congr 1
 rw[M9 h0 hi]
 rcases hj with hj | ⟨hj,hle⟩
 ·rw[List.drop_of_length_le (l:=B) (by omega)];simp
 ·rw[M9 j0 hj,List.cons_merge_cons,if_pos (by simpa [leI]using hle)];simp
theorem mrgR{A B:List Int}{i j:Int}{s:List Int}(h0:0≤i)(j0:0≤j)(hj:j < B.length)(hi:¬ i < A.length∨(i < A.length∧¬ A[i.toNat]!≤B[j.toNat]!))(h:A53 A B i j s):A53 A B i (j+1) (s++[B[j.toNat]!]):=by
 unfold A53 at *
 rw[← h,List.append_assoc]
 congr 1
 rw[M9 j0 hj]
 rcases hi with hi | ⟨hi,hle⟩
 ·rw[List.drop_of_length_le (l:=A) (by omega)];simp
 ·rw[M9 h0 hi,List.cons_merge_cons,if_neg (by simpa [leI]using hle)];simp
theorem mrgE{l:List Int}{i j:Int}{s:List Int}(hi:¬ i <(hA l).length)(hj:¬ j <(hB l).length)(h:A53 (hA l) (hB l) i j s):s=l.mergeSort leI:=by
 unfold A53 at h
 rw[List.drop_of_length_le (by omega),List.drop_of_length_le (by omega)]at h
 rw[← B59,← h]
 simp
theorem B15{l:List Int}(h:(l.length:Int) < 2):l.mergeSort leI=l:=by
 match l with
 | []=>simp
 | [a]=>simp
 | a :: b :: l=>simp only [List.length_cons]at h;omega
theorem Am9(l:List Int)(n:Nat)(hn:l.length≤n)(ih:∀ m:List Int,m.length < n→m.length*8≤140737488351232→Con Tryz.prog 238 [.sl (m.map c3)] (.sl ((m.mergeSort leI).map c3)))(hb:l.length*8≤140737488351232):Con Tryz.prog 238 [.sl (l.map c3)] (.sl ((l.mergeSort leI).map c3)) :=
 by
 have b1:=B9y l
 have b2:=hA_len l
 have b3:=hB_len l
 refine lN 0 c3 (l) Tryz.func238 fun hl_0=>sC A6 [.tmp 2] 79 Tryz.func238 ?_
 intro e0 cx
 refine sq<|rG cx [0] [] z0<|sn<|sq<|rD cx [0,10] [] (tL 1 c3 l (zB 2 ((↑l.length:Int) <(2:Int)))) (fun h0=>?_) fun h0=>?_
 refine sq<|rG cx [2] [11] (fR 3 (fR 1 (fR 1 (fX c3 l 1 (fS c3 [] c3 l (fP (((List.map c3 []).length+(List.map c3 l).length)*(8:Nat)≤(140737488355328:Nat)) (by(simp only [Go.maxLen,List.length_map,List.length_append,List.length_cons,List.length_nil];omega)) (fM c3 [] l (oV 2 { rows:=some (List.map c3 ([]++l)) } z0))))))))<|sn<|rT<|nR<|qR (.sl (List.map c3 ([]++l))) (.eq (by rw[B15 h0];rfl))
 refine sK<|sn<|sq<|rG cx [0,3] [] (tL 2 c3 l (tT 3 (B4 (by omega) (by omega):AV.i .i64 (IntKind.i64.wrap ((↑l.length:Int).tdiv (2:Int)))=AV.i .i64 ((↑l.length:Int).tdiv (2:Int))) (tT 4 (B4b c3 l ((↑l.length:Int).tdiv (2:Int)).toNat:AV.sl (List.drop (Int.toNat (0:Int)) (List.take ((↑l.length:Int).tdiv (2:Int)).toNat (List.map c3 l)))=AV.sl (List.map c3 (List.take ((↑l.length:Int).tdiv (2:Int)).toNat l))) (fO ((0:Int)≤(0:Int)) (fP (0≤(↑l.length:Int).tdiv (2:Int)) (by omega) (fP ((↑l.length:Int).tdiv 2≤(↑(List.map c3 l).length:Int)) (by rw[List.length_map];omega) (fX c3 l 1 (fP (Con Tryz.prog (238:FuncId) [AV.sl (List.map c3 (List.take ((↑l.length:Int).tdiv (2:Int)).toNat l))] (AV.sl (List.map c3 ((List.take ((↑l.length:Int).tdiv (2:Int)).toNat l).mergeSort leI)))) (ih (List.take ((↑l.length:Int).tdiv (2:Int)).toNat l) (by show(List.take ((l.length:Int).tdiv 2).toNat l).length < n;rw[List.length_take];omega) (by show(List.take ((l.length:Int).tdiv 2).toNat l).length*8≤140737488351232;rw[List.length_take];omega)) (oA 5 (.sl (List.map c3 ((List.take ((↑l.length:Int).tdiv (2:Int)).toNat l).mergeSort leI))) z0))))))))) ?_
 refine sn<|sq<|rG cx [0,3,4] [] (tL 2 c3 l (tT 3 (B4 (by omega) (by omega):AV.i .i64 (IntKind.i64.wrap ((↑l.length:Int).tdiv (2:Int)))=AV.i .i64 ((↑l.length:Int).tdiv (2:Int))) (tT 4 (Ak0 c3 l ((↑l.length:Int).tdiv (2:Int)).toNat:AV.sl (List.drop ((↑l.length:Int).tdiv (2:Int)).toNat (List.take (none.getD (↑(List.map c3 l).length:Int)).toNat (List.map c3 l)))=AV.sl (List.map c3 (List.drop ((↑l.length:Int).tdiv (2:Int)).toNat l))) (fP (0≤(↑l.length:Int).tdiv (2:Int)) (by omega) (fP ((↑l.length:Int).tdiv 2≤none.getD (↑(List.map c3 l).length:Int)) (by show _≤((List.map c3 l).length:Int);rw[List.length_map];omega) (fP (none.getD (↑(List.map c3 l).length:Int)≤(↑(List.map c3 l).length:Int)) (by exact Int.le_refl _) (fX c3 l 1 (fP (Con Tryz.prog (238:FuncId) [AV.sl (List.map c3 (List.drop ((↑l.length:Int).tdiv (2:Int)).toNat l))] (AV.sl (List.map c3 ((List.drop ((↑l.length:Int).tdiv (2:Int)).toNat l).mergeSort leI)))) (ih (List.drop ((↑l.length:Int).tdiv (2:Int)).toNat l) (by rw[List.length_drop];omega) (by rw[List.length_drop];omega)) (oA 5 (.sl (List.map c3 ((List.drop ((↑l.length:Int).tdiv (2:Int)).toNat l).mergeSort leI))) z0))))))))) ?_
 refine sn<|sq<|rG cx [3,4,5] [28] (tL 1 c3 l (fR (0:Int) (fR (↑l.length:Int) (fO ((8:Nat)*l.length≤(281474976710656:Nat)) (fP (l.length≤maxLen) (by(simp only [Go.maxLen];omega)) (oV 2 { n:=l.length,flat:=true } z0))))))<|sn<|sq<|rG cx [3,4,5,6,7] [28] z0<|sn<|sq<|bL 0<|sL (X:=Int×Int×List Int) (fun x=>⟨[(3,.sl (List.map c3 ((List.take ((↑l.length:Int).tdiv (2:Int)).toNat l).mergeSort leI))),(4,.sl (List.map c3 ((List.drop ((↑l.length:Int).tdiv (2:Int)).toNat l).mergeSort leI))),(5,.own 28 0),(6,.i .i64 (x.1)),(7,.i .i64 (x.2.1))],[(28,⟨0,3,.row 1 (List.map c3 x.2.2)⟩)]⟩) (fun x ↦ dec37 (hA l) (hB l) x.1 x.2.1 x.2.2) (fun x ↦ B58 (hA l) (hB l) x.1 x.2.1 x.2.2) [3,4,5,6,7] [28] (((0:Int),(0:Int),[])) (show B58 (hA l) (hB l) (0:Int) (0:Int) []from(by exact⟨by omega,by omega,by omega,by omega,rfl,rfl⟩)) ?_
 rintro⟨i1,j2,s3⟩ h_4
 obtain⟨h5,h6,h7,h8,h9,h10⟩:0≤i1∧i1≤(↑(hA l).length:Int)∧0≤j2∧j2≤(↑(hB l).length:Int)∧(↑s3.length:Int)=i1+j2∧A53 (hA l) (hB l) i1 j2 s3:=h_4
 refine sq<|sq<|B1 (σ':=⟨[(3,.sl (List.map c3 ((List.take ((↑l.length:Int).tdiv (2:Int)).toNat l).mergeSort leI))),(4,.sl (List.map c3 ((List.drop ((↑l.length:Int).tdiv (2:Int)).toNat l).mergeSort leI))),(5,.own 28 0),(6,.i .i64 (i1)),(7,.i .i64 (j2)),(38,.b (decide (i1 <(↑((List.take ((↑l.length:Int).tdiv (2:Int)).toNat l).mergeSort leI).length:Int)∨j2 <(↑((List.drop ((↑l.length:Int).tdiv (2:Int)).toNat l).mergeSort leI).length:Int))))],[(28,⟨0,3,.row 1 (List.map c3 s3)⟩)]⟩) ?_ ?_
 refine A5 (i1 <(↑((List.take ((↑l.length:Int).tdiv (2:Int)).toNat l).mergeSort leI).length:Int)) (fun h_12=>?_) (fun h_12=>?_)
 refine rG cx [3,4,5,6,7,38] [28] (tL 2 c3 ((List.take ((↑l.length:Int).tdiv (2:Int)).toNat l).mergeSort leI) (tT 3 (A4 h_12) (tD 9 true (i1 <(↑((List.take ((↑l.length:Int).tdiv (2:Int)).toNat l).mergeSort leI).length:Int)∨j2 <(↑((List.drop ((↑l.length:Int).tdiv (2:Int)).toNat l).mergeSort leI).length:Int)) (by simp only [eq_true h_12,tsl]) z0))) ?_
 exact⟨rfl,by kernel_rfl⟩
 refine rG cx [3,4,5,6,7,38] [28] (tL 2 c3 ((List.take ((↑l.length:Int).tdiv (2:Int)).toNat l).mergeSort leI) (tT 3 (A0 h_12) (tL 7 c3 ((List.drop ((↑l.length:Int).tdiv (2:Int)).toNat l).mergeSort leI) (tB 8 (j2 <(↑((List.drop ((↑l.length:Int).tdiv (2:Int)).toNat l).mergeSort leI).length:Int)) (tD 9 (decide (j2 <(↑((List.drop ((↑l.length:Int).tdiv (2:Int)).toNat l).mergeSort leI).length:Int))) (i1 <(↑((List.take ((↑l.length:Int).tdiv (2:Int)).toNat l).mergeSort leI).length:Int)∨j2 <(↑((List.drop ((↑l.length:Int).tdiv (2:Int)).toNat l).mergeSort leI).length:Int)) (by simp only [eq_false h_12,tsl]) z0))))) ?_
 exact⟨rfl,by kernel_rfl⟩
 refine sn<|dC (i1 <(↑((List.take ((↑l.length:Int).tdiv (2:Int)).toNat l).mergeSort leI).length:Int)∨j2 <(↑((List.drop ((↑l.length:Int).tdiv (2:Int)).toNat l).mergeSort leI).length:Int)) (fun h13=>?_) fun h13=>?_
 refine sK<|sn<|bL 1<|sq<|B1 (σ':=⟨[(3,.sl (List.map c3 ((List.take ((↑l.length:Int).tdiv (2:Int)).toNat l).mergeSort leI))),(4,.sl (List.map c3 ((List.drop ((↑l.length:Int).tdiv (2:Int)).toNat l).mergeSort leI))),(5,.own 28 0),(6,.i .i64 (i1)),(7,.i .i64 (j2)),(59,.b (decide (j2=(↑((List.drop ((↑l.length:Int).tdiv (2:Int)).toNat l).mergeSort leI).length:Int)∨i1 <(↑((List.take ((↑l.length:Int).tdiv (2:Int)).toNat l).mergeSort leI).length:Int)∧((List.take ((↑l.length:Int).tdiv (2:Int)).toNat l).mergeSort leI)[i1.toNat]!≤((List.drop ((↑l.length:Int).tdiv (2:Int)).toNat l).mergeSort leI)[j2.toNat]!)))],[(28,⟨0,3,.row 1 (List.map c3 s3)⟩)]⟩) ?_ ?_
 refine A5 (j2=(↑((List.drop ((↑l.length:Int).tdiv (2:Int)).toNat l).mergeSort leI).length:Int)) (fun h15=>?_) (fun h15=>?_)
 refine rA cx [3,4,5,6,7,59] [28] (tL 2 c3 ((List.drop ((↑l.length:Int).tdiv (2:Int)).toNat l).mergeSort leI) (tT 3 (A4 h15) (tD 20 true (j2=(↑((List.drop ((↑l.length:Int).tdiv (2:Int)).toNat l).mergeSort leI).length:Int)∨i1 <(↑((List.take ((↑l.length:Int).tdiv (2:Int)).toNat l).mergeSort leI).length:Int)∧((List.take ((↑l.length:Int).tdiv (2:Int)).toNat l).mergeSort leI)[i1.toNat]!≤((List.drop ((↑l.length:Int).tdiv (2:Int)).toNat l).mergeSort leI)[j2.toNat]!) (by simp only [eq_true h15,tsl]) z0))) ?_
 exact⟨rfl,by kernel_rfl⟩
 refine A5 (i1 <(↑((List.take ((↑l.length:Int).tdiv (2:Int)).toNat l).mergeSort leI).length:Int)) (fun h16=>?_) (fun h16=>?_)
 refine rA cx [3,4,5,6,7,59] [28] (tL 2 c3 ((List.drop ((↑l.length:Int).tdiv (2:Int)).toNat l).mergeSort leI) (tT 3 (A0 h15) (tL 7 c3 ((List.take ((↑l.length:Int).tdiv (2:Int)).toNat l).mergeSort leI) (tT 8 (A4 h16) (fA (0≤i1) (fG c3 ((List.take ((↑l.length:Int).tdiv (2:Int)).toNat l).mergeSort leI) i1.toNat (fR 1 (fA (0≤j2) (fP ((List.map c3 ((List.drop ((↑l.length:Int).tdiv (2:Int)).toNat l).mergeSort leI))[j2.toNat]?=some (c3 ((List.drop ((↑l.length:Int).tdiv (2:Int)).toNat l).mergeSort leI)[j2.toNat]!)) (by exact F3 (xs:=hB l) (by have:¬ j2=(hB l).length:=h15;omega)) (fR 1 (tB 18 (((List.take ((↑l.length:Int).tdiv (2:Int)).toNat l).mergeSort leI)[i1.toNat]!≤((List.drop ((↑l.length:Int).tdiv (2:Int)).toNat l).mergeSort leI)[j2.toNat]!) (tD 20 (decide (((List.take ((↑l.length:Int).tdiv (2:Int)).toNat l).mergeSort leI)[i1.toNat]!≤((List.drop ((↑l.length:Int).tdiv (2:Int)).toNat l).mergeSort leI)[j2.toNat]!)) (j2=(↑((List.drop ((↑l.length:Int).tdiv (2:Int)).toNat l).mergeSort leI).length:Int)∨i1 <(↑((List.take ((↑l.length:Int).tdiv (2:Int)).toNat l).mergeSort leI).length:Int)∧((List.take ((↑l.length:Int).tdiv (2:Int)).toNat l).mergeSort leI)[i1.toNat]!≤((List.drop ((↑l.length:Int).tdiv (2:Int)).toNat l).mergeSort leI)[j2.toNat]!) (by simp only [eq_false h15,eq_true h16,tsl]) (oR 12 (c3 ((List.take ((↑l.length:Int).tdiv (2:Int)).toNat l).mergeSort leI)[i1.toNat]!) (oR 16 (c3 ((List.drop ((↑l.length:Int).tdiv (2:Int)).toNat l).mergeSort leI)[j2.toNat]!) z0)))))))))))))) ?_
 exact⟨rfl,by kernel_rfl⟩
 refine rA cx [3,4,5,6,7,59] [28] (tL 2 c3 ((List.drop ((↑l.length:Int).tdiv (2:Int)).toNat l).mergeSort leI) (tT 3 (A0 h15) (tL 7 c3 ((List.take ((↑l.length:Int).tdiv (2:Int)).toNat l).mergeSort leI) (tT 8 (A0 h16) (tD 20 false (j2=(↑((List.drop ((↑l.length:Int).tdiv (2:Int)).toNat l).mergeSort leI).length:Int)∨i1 <(↑((List.take ((↑l.length:Int).tdiv (2:Int)).toNat l).mergeSort leI).length:Int)∧((List.take ((↑l.length:Int).tdiv (2:Int)).toNat l).mergeSort leI)[i1.toNat]!≤((List.drop ((↑l.length:Int).tdiv (2:Int)).toNat l).mergeSort leI)[j2.toNat]!) (by simp only [eq_false h15,eq_false h16,tsl]) z0))))) ?_
 exact⟨rfl,by kernel_rfl⟩
 refine sn<|dC (j2=(↑((List.drop ((↑l.length:Int).tdiv (2:Int)).toNat l).mergeSort leI).length:Int)∨i1 <(↑((List.take ((↑l.length:Int).tdiv (2:Int)).toNat l).mergeSort leI).length:Int)∧((List.take ((↑l.length:Int).tdiv (2:Int)).toNat l).mergeSort leI)[i1.toNat]!≤((List.drop ((↑l.length:Int).tdiv (2:Int)).toNat l).mergeSort leI)[j2.toNat]!) (fun h17=>?_) fun h17=>?_
 refine sq<|rG cx [3,4,5,6,7] [28] (fA (0≤i1) (fG c3 ((List.take ((↑l.length:Int).tdiv (2:Int)).toNat l).mergeSort leI) i1.toNat (fR 1 (fR 3 (fR 1 (fR 1 (fX c3 [((List.take ((↑l.length:Int).tdiv (2:Int)).toNat l).mergeSort leI)[i1.toNat]!] 1 (fP ((List.map c3 s3).length+(List.map c3 [((List.take ((↑l.length:Int).tdiv (2:Int)).toNat l).mergeSort leI)[i1.toNat]!]).length≤maxLen) (by simp only [List.length_map,List.length_cons,List.length_nil,Go.maxLen];omega) (fP (((List.map c3 s3).length+(List.map c3 [((List.take ((↑l.length:Int).tdiv (2:Int)).toNat l).mergeSort leI)[i1.toNat]!]).length)*(8:Nat)≤(140737488355328:Nat)) (by simp only [List.length_map,List.length_cons,List.length_nil];omega) (fM c3 s3 [((List.take ((↑l.length:Int).tdiv (2:Int)).toNat l).mergeSort leI)[i1.toNat]!] (oR 3 (c3 ((List.take ((↑l.length:Int).tdiv (2:Int)).toNat l).mergeSort leI)[i1.toNat]!) (oV 6 { rows:=some (List.map c3 (s3++[((List.take ((↑l.length:Int).tdiv (2:Int)).toNat l).mergeSort leI)[i1.toNat]!])) } z0)))))))))))) ?_
 refine sn<|rG cx [3,4,5,6,7] [28] (tT 1 (B4 (by omega) (by omega):AV.i .i64 (IntKind.i64.wrap (i1+1))=AV.i .i64 (i1+1)) z0) ?_
 refine bN<|sn<|nX ((i1+1,j2,s3++[((List.take ((↑l.length:Int).tdiv (2:Int)).toNat l).mergeSort leI)[i1.toNat]!])) (show((↑(hA l).length:Int)+(↑(hB l).length:Int)-(i1+1)-j2).toNat <((↑(hA l).length:Int)+(↑(hB l).length:Int)-i1-j2).toNat from(by have k6':i1 <(hA l).length∨j2 <(hB l).length:=h13;have k7':j2=(hB l).length∨i1 <(hA l).length∧(hA l)[i1.toNat]!≤(hB l)[j2.toNat]!:=h17;omega)) (show B58 (hA l) (hB l) (i1+1) j2 (s3++[((List.take ((↑l.length:Int).tdiv (2:Int)).toNat l).mergeSort leI)[i1.toNat]!])from ?g20);rotate_left
 refine sq<|rG cx [3,4,5,6,7] [28] (fA (0≤j2) (fP ((List.map c3 ((List.drop ((↑l.length:Int).tdiv (2:Int)).toNat l).mergeSort leI))[j2.toNat]?=some (c3 ((List.drop ((↑l.length:Int).tdiv (2:Int)).toNat l).mergeSort leI)[j2.toNat]!)) (by have k6':i1 <(hA l).length∨j2 <(hB l).length:=h13;have k7':¬(j2=(hB l).length∨i1 <(hA l).length∧(hA l)[i1.toNat]!≤(hB l)[j2.toNat]!):=h17;exact F3 (xs:=hB l) (by omega)) (fR 1 (fR 3 (fR 1 (fR 1 (fX c3 [((List.drop ((↑l.length:Int).tdiv (2:Int)).toNat l).mergeSort leI)[j2.toNat]!] 1 (fP ((List.map c3 s3).length+(List.map c3 [((List.drop ((↑l.length:Int).tdiv (2:Int)).toNat l).mergeSort leI)[j2.toNat]!]).length≤maxLen) (by simp only [List.length_map,List.length_cons,List.length_nil,Go.maxLen];omega) (fP (((List.map c3 s3).length+(List.map c3 [((List.drop ((↑l.length:Int).tdiv (2:Int)).toNat l).mergeSort leI)[j2.toNat]!]).length)*(8:Nat)≤(140737488355328:Nat)) (by simp only [List.length_map,List.length_cons,List.length_nil];omega) (fM c3 s3 [((List.drop ((↑l.length:Int).tdiv (2:Int)).toNat l).mergeSort leI)[j2.toNat]!] (oR 3 (c3 ((List.drop ((↑l.length:Int).tdiv (2:Int)).toNat l).mergeSort leI)[j2.toNat]!) (oV 6 { rows:=some (List.map c3 (s3++[((List.drop ((↑l.length:Int).tdiv (2:Int)).toNat l).mergeSort leI)[j2.toNat]!])) } z0)))))))))))) ?_
 refine sn<|rG cx [3,4,5,6,7] [28] (tT 1 (B4 (by omega) (by omega):AV.i .i64 (IntKind.i64.wrap (j2+1))=AV.i .i64 (j2+1)) z0) ?_
 refine bN<|sn<|nX ((i1,j2+1,s3++[((List.drop ((↑l.length:Int).tdiv (2:Int)).toNat l).mergeSort leI)[j2.toNat]!])) (show((↑(hA l).length:Int)+(↑(hB l).length:Int)-i1-(j2+1)).toNat <((↑(hA l).length:Int)+(↑(hB l).length:Int)-i1-j2).toNat from(by have k6':i1 <(hA l).length∨j2 <(hB l).length:=h13;have k7':¬(j2=(hB l).length∨i1 <(hA l).length∧(hA l)[i1.toNat]!≤(hB l)[j2.toNat]!):=h17;omega)) (show B58 (hA l) (hB l) i1 (j2+1) (s3++[((List.drop ((↑l.length:Int).tdiv (2:Int)).toNat l).mergeSort leI)[j2.toNat]!])from ?g26);rotate_left
 refine eX 0<|nE<|nE<|bH<|sn<|sq<|rG cx [2] [28] z0<|sn<|rT<|qR (.sl (List.map c3 s3)) (.eq ?g27);rotate_left
 case g20 =>
  have k6':i1 <(hA l).length∨j2 <(hB l).length:=h13
  have k7':j2=(hB l).length∨i1 <(hA l).length∧(hA l)[i1.toNat]!≤(hB l)[j2.toNat]!:=h17
  have hi:i1 <(hA l).length:=by omega
  refine⟨by omega,by omega,by omega,by omega,by rw[List.length_append];simp only [List.length_cons,List.length_nil];omega,mrgL h5 hi h7 ?_ h10⟩
  by_cases e:j2=(hB l).length
  ·exact .inl e
  ·exact .inr ⟨by omega,(k7'.resolve_left e).2⟩
 case g26 =>
  have k6':i1 <(hA l).length∨j2 <(hB l).length:=h13
  have k7':¬(j2=(hB l).length∨i1 <(hA l).length∧(hA l)[i1.toNat]!≤(hB l)[j2.toNat]!):=h17
  have hj:j2 <(hB l).length:=by omega
  refine⟨by omega,by omega,by omega,by omega,by rw[List.length_append];simp only [List.length_cons,List.length_nil];omega,mrgR h5 h7 hj ?_ h10⟩
  by_cases e:i1 <(hA l).length
  ·exact .inr ⟨e,fun k=>k7' (.inr ⟨e,k⟩)⟩
  ·exact .inl e
 case g27 =>
  have k6':¬(i1 <(hA l).length∨j2 <(hB l).length):=h13
  rw[mrgE (fun k=>k6' (.inl k)) (fun k=>k6' (.inr k)) h10]
theorem B16:∀(n:Nat) (l:List Int),l.length≤n→l.length*8≤140737488351232→Con Tryz.prog 238 [.sl (l.map c3)] (.sl ((l.mergeSort leI).map c3))
 | 0,l,h,hb=>Am9 l 0 h (fun m hm=>by omega) hb
 | n+1,l,h,hb=>Am9 l (n+1) h (fun m hm hb'=>B16 n m (by omega) hb') hb
theorem B7l(l:List Int)(hb:l.length*8≤140737488351232):Con Tryz.prog 238 [.sl (l.map c3)] (.sl ((l.mergeSort leI).map c3)):=B16 l.length l (Nat.le_refl _) hb
end Go.Proofs.YtphcaholhacnpaaGreat
namespace Go.Proofs.YtphcaholhacnpaaGreat
open Go.E
set_option maxRecDepth 100000
set_option maxHeartbeats 4000000
def cntI(l:List Int)(n:Int):Nat:=l.countP (fun x=>decide (x≤n))
def C9(l:List Run):List Int:=l.flatMap fun r=>[r.lo,r.hi+1]
def sw:List Int→List Int→Nat→List Int
 | [],[],_=>[]
 | [],b :: B,d=>(if d=1 then[b]else[])++sw [] B (d-1)
 | a :: A,[],d=>(if d=0 then[a]else[])++sw A [] (d+1)
 | a :: A,b :: B,d=>if a≤b then(if d=0 then[a]else[])++sw A (b :: B) (d+1)else(if d=1 then[b]else[])++sw (a :: A) B (d-1)
termination_by A B _=>A.length+B.length
theorem Ag3(n:Int):cntI [] n=0:=rfl
theorem I1(a:Int)(l:List Int)(n:Int):cntI (a :: l) n=cntI l n+if a≤n then 1 else 0:=by
 unfold cntI
 rw[List.countP_cons]
 by_cases h:a≤n <;> simp [h]
theorem cnt_zero{l:List Int}{n:Int}(h:∀ x∈l,n < x):cntI l n=0:=by
 unfold cntI
 rw[List.countP_eq_zero]
 intro x hx
 have:=h x hx
 simp
 omega
theorem B9z(l:List Int)(n:Int):cntI l n≤l.length:=List.countP_le_length
structure VW (A B:List Int) (d:Nat):Prop where
 sA:A.Pairwise (fun x y=>x≤y)
 sB:B.Pairwise (fun x y=>x≤y)
 len:d+A.length=B.length
 cov:∀ n:Int,cntI B (n+1)≤d+cntI A n
theorem VW.in_{a b:Int}{A B:List Int}{d:Nat}(h:VW (a :: A) (b :: B) d)(hab:a≤b):VW A (b :: B) (d+1):=by
 refine⟨(List.pairwise_cons.1 h.sA).2,h.sB,by have:=h.len;simp only [List.length_cons]at *;omega,fun n=>?_⟩
 have:=h.cov n
 rw[I1 a A]at this
 split at this <;> omega
theorem VW.pos{a b:Int}{A B:List Int}{d:Nat}(h:VW (a :: A) (b :: B) d)(hab:b < a):1≤d:=by
 have h1:=h.cov (b-1)
 have h2:=(List.pairwise_cons.1 h.sA).1
 rw[show b-1+1=b by omega,I1 b B,if_pos (Int.le_refl b)]at h1
 rw[cnt_zero (l:=a :: A) fun x hx=>by
  rcases List.mem_cons.1 hx with rfl | hx
  ·omega
  ·have:=h2 x hx;omega]at h1
 omega
theorem VW.out{a b:Int}{A B:List Int}{d:Nat}(h:VW (a :: A) (b :: B) d)(hab:b < a):VW (a :: A) B (d-1):=by
 have hp:=h.pos hab
 have hB:=List.pairwise_cons.1 h.sB
 refine⟨h.sA,hB.2,by have:=h.len;simp only [List.length_cons]at *;omega,fun n=>?_⟩
 have:=h.cov n
 rw[I1 b B]at this
 by_cases e:b≤n+1
 ·rw[if_pos e]at this;omega
 ·rw[cnt_zero (l:=B) fun x hx=>by have:=hB.1 x hx;omega]
  omega
theorem VW.end_{b:Int}{B:List Int}{d:Nat}(h:VW [] (b :: B) d):1≤d∧VW [] B (d-1):=by
 have hl:=h.len
 simp only [List.length_cons,List.length_nil]at hl
 have hB:=List.pairwise_cons.1 h.sB
 exact⟨by omega,h.sA,hB.2,by simp only [List.length_nil];omega,fun n=>by have:=B9z B (n+1);omega⟩
theorem VW.strict{a b:Int}{A B:List Int}(h:VW (a :: A) (b :: B) 0):a < b:=by
 have h1:=h.cov (a-1)
 have h2:=(List.pairwise_cons.1 h.sA).1
 rw[show a-1+1=a by omega,cnt_zero (l:=a :: A) fun x hx=>by
  rcases List.mem_cons.1 hx with rfl | hx
  ·omega
  ·have:=h2 x hx;omega,I1 b B]at h1
 by_cases e:b≤a
 ·rw[if_pos e]at h1;omega
 ·omega
def SwZ(A B:List Int):Prop:=∃ R:List Run,sw A B 0=C9 R∧R.Pairwise (fun x y=>x.hi+1 < y.lo)∧(∀ r∈R,r.lo≤r.hi∧r.lo∈A∧r.hi+1∈B)∧∀ n,inR R n↔cntI B n < cntI A n
def SwP(A B:List Int)(d:Nat):Prop:=∃(x:Int) (R:List Run),sw A B d=x :: C9 R∧x∈B∧R.Pairwise (fun x y=>x.hi+1 < y.lo)∧(∀ r∈R,x < r.lo∧r.lo≤r.hi∧r.lo∈A∧r.hi+1∈B)∧∀ n,(n < x∨inR R n)↔cntI B n < d+cntI A n
theorem A7i:∀(k:Nat) (A B:List Int) (d:Nat),A.length+B.length=k→VW A B d→(d=0→SwZ A B)∧(0 < d→SwP A B d)
 | k,[],[],d,_,h=>by
  have hd:=h.len
  simp only [List.length_nil]at hd
  refine⟨fun _=>⟨[],?_,List.Pairwise.nil,fun r hr=>(by cases hr),fun n=>?_⟩,fun h0=>by omega⟩
  ·rw[sw];try rfl
  ·rw[Ag3];simp [inR]
 | k,a :: A,[],d,_,h=>by have:=h.len;simp only [List.length_cons,List.length_nil]at this;omega
 | 0,[],b :: B,d,hk,h=>by simp only [List.length_cons]at hk;omega
 | 0,a :: A,b :: B,d,hk,h=>by simp only [List.length_cons]at hk;omega
 | k+1,[],b :: B,d,hk,h=>by
  obtain⟨hd,h'⟩:=h.end_
  have ih:=A7i k [] B (d-1) (by simp only [List.length_cons,List.length_nil]at *;omega) h'
  have hB:=List.pairwise_cons.1 h.sB
  have low:∀ n:Int,n < b→cntI (b :: B) n=0∧cntI B n=0:=fun n hn=>by
   have:cntI B n=0:=cnt_zero fun x hx=>by have:=hB.1 x hx;omega
   rw[I1,if_neg (by omega)];omega
  refine⟨fun h0=>by omega,fun _=>?_⟩
  by_cases e:d=1
  ·obtain⟨R,r1,r2,r3,r4⟩:=ih.1 (by omega)
   refine⟨b,R,?_,by simp,r2,fun r hr=>absurd (r3 r hr).2.1 (by simp),fun n=>?_⟩
   ·rw[sw,if_pos e,show d-1=0 by omega,r1];rfl
   ·rw[r4 n,I1,Ag3]
    by_cases hn:b≤n
    ·rw[if_pos hn];omega
    ·have:=low n (by omega);rw[if_neg hn];omega
  ·obtain⟨x,R,r1,r2,r3,r4,r5⟩:=ih.2 (by omega)
   refine⟨x,R,?_,by simp [r2],r3,fun r hr=>absurd (r4 r hr).2.2.1 (by simp),fun n=>?_⟩
   ·rw[sw,if_neg e,r1];rfl
   ·rw[r5 n,I1,Ag3]
    by_cases hn:b≤n
    ·rw[if_pos hn];omega
    ·have:=low n (by omega);rw[if_neg hn];omega
 | k+1,a :: A,b :: B,d,hk,h=>by
  have hA:=List.pairwise_cons.1 h.sA
  have hB:=List.pairwise_cons.1 h.sB
  have lowA:∀ n:Int,n < a→cntI (a :: A) n=0∧cntI A n=0:=fun n hn=>by
   have:cntI A n=0:=cnt_zero fun x hx=>by have:=hA.1 x hx;omega
   rw[I1,if_neg (by omega)];omega
  have lowB:∀ n:Int,n < b→cntI (b :: B) n=0∧cntI B n=0:=fun n hn=>by
   have:cntI B n=0:=cnt_zero fun x hx=>by have:=hB.1 x hx;omega
   rw[I1,if_neg (by omega)];omega
  by_cases hab:a≤b
  ·obtain⟨x,R,r1,r2,r3,r4,r5⟩:=(A7i k A (b :: B) (d+1) (by simp only [List.length_cons]at *;omega) (h.in_ hab)).2 (by omega)
   have hx:b≤x:=by
    rcases List.mem_cons.1 r2 with rfl | r2
    ·omega
    ·exact hB.1 x r2
   constructor
   ·rintro rfl
    have hs:=h.strict
    refine⟨⟨a,x-1⟩ :: R,?_,List.pairwise_cons.2 ⟨fun r hr=>?_,r3⟩,fun r hr=>?_,fun n=>?_⟩
    ·rw[sw,if_pos hab,if_pos rfl,r1];simp [C9]
    ·have:=(r4 r hr).1;simp only;omega
    ·rcases List.mem_cons.1 hr with rfl | hr
     ·simp only;exact⟨by omega,by simp,by rw[show x-1+1=x by omega];exact r2⟩
     ·have:=r4 r hr;exact⟨this.2.1,by simp [this.2.2.1],this.2.2.2⟩
    ·have h5:=r5 n
     rw[O0,I1 a A]
     simp only
     by_cases hn:a≤n
     ·rw[if_pos hn]
      constructor
      ·rintro(g | g)
       ·have:=h5.1 (.inl (by omega));omega
       ·have:=h5.1 (.inr g);omega
      ·intro g
       rcases h5.2 (by omega)with g | g
       ·exact .inl ⟨hn,by omega⟩
       ·exact .inr g
     ·rw[if_neg hn]
      have l1:=lowA n (by omega)
      constructor
      ·rintro(g | ⟨r,hr,g1,g2⟩)
       ·omega
       ·have:=hA.1 _ (r4 r hr).2.2.1;omega
      ·intro g;omega
   ·intro h0
    refine⟨x,R,?_,r2,r3,fun r hr=>?_,fun n=>?_⟩
    ·rw[sw,if_pos hab,if_neg (by omega),r1];rfl
    ·have:=r4 r hr;exact⟨this.1,this.2.1,by simp [this.2.2.1],this.2.2.2⟩
    ·rw[r5 n,I1 a A]
     by_cases hn:a≤n
     ·rw[if_pos hn];omega
     ·have l1:=lowA n (by omega)
      have l2:=lowB n (by omega)
      rw[if_neg hn];omega
  ·have hd:=h.pos (by omega)
   have ih:=A7i k (a :: A) B (d-1) (by simp only [List.length_cons]at *;omega) (h.out (by omega))
   refine⟨fun h0=>by omega,fun _=>?_⟩
   by_cases e:d=1
   ·obtain⟨R,r1,r2,r3,r4⟩:=ih.1 (by omega)
    refine⟨b,R,?_,by simp,r2,fun r hr=>?_,fun n=>?_⟩
    ·rw[sw,if_neg hab,if_pos e,show d-1=0 by omega,r1];rfl
    ·have:=r3 r hr
     refine⟨?_,this.1,this.2.1,by simp [this.2.2]⟩
     rcases List.mem_cons.1 this.2.1 with g | g
     ·omega
     ·have:=hA.1 _ g;omega
    ·rw[r4 n,I1 b B]
     by_cases hn:b≤n
     ·rw[if_pos hn];omega
     ·have:=lowB n (by omega);rw[if_neg hn];omega
   ·obtain⟨x,R,r1,r2,r3,r4,r5⟩:=ih.2 (by omega)
    refine⟨x,R,?_,by simp [r2],r3,fun r hr=>?_,fun n=>?_⟩
    ·rw[sw,if_neg hab,if_neg e,r1];rfl
    ·have:=r4 r hr;exact⟨this.1,this.2.1,this.2.2.1,by simp [this.2.2.2]⟩
    ·rw[r5 n,I1 b B]
     by_cases hn:b≤n
     ·rw[if_pos hn];omega
     ·have:=lowB n (by omega);have:=lowA n (by omega);rw[if_neg hn];omega
def B7m(l:List Run):List Int:=(J9 l).map fun r=>r.lo
def A9y(l:List Run):List Int:=(J9 l).map fun r=>r.hi+1
def Ba0(l:List Run):List Int:=(B7m l).mergeSort leI
def Ag4(l:List Run):List Int:=(A9y l).mergeSort leI
theorem A64(l:List Int):(l.mergeSort leI).Pairwise (fun x y=>x≤y):=by
 have:=List.pairwise_mergeSort A9w A9x l
 exact this.imp fun h=>by simpa [leI]using h
theorem An0(l:List Int)(n:Int):cntI (l.mergeSort leI) n=cntI l n:=(List.mergeSort_perm l leI).countP_eq _
theorem A9z{α:Type}{p q:α→Bool}:∀ {l:List α},(∀ x∈l,p x=true→q x=true)→(l.countP p < l.countP q↔∃ x∈l,q x=true∧¬ p x=true)
 | [],_=>by simp
 | x :: l,h=>by
  have ih:=A9z (p:=p) (q:=q) (l:=l) fun y hy=>h y (by simp [hy])
  have hle:=List.countP_mono_left (l:=l) (p:=p) (q:=q) fun y hy=>h y (by simp [hy])
  have hx:=h x (by simp)
  rw[List.countP_cons,List.countP_cons]
  have ex:(∃ y∈x :: l,q y=true∧¬ p y=true)↔(q x=true∧¬ p x=true)∨∃ y∈l,q y=true∧¬ p y=true:=by simp
  rw[ex,← ih]
  by_cases h1:p x=true
  ·have h2:=hx h1
   rw[if_pos h1,if_pos h2]
   constructor
   ·intro g;exact .inr (by omega)
   ·rintro(g | g)
    ·exact absurd h1 g.2
    ·omega
  ·by_cases h2:q x=true
   ·rw[if_neg h1,if_pos h2]
    constructor
    ·intro _;exact .inl ⟨h2,h1⟩
    ·intro _;omega
   ·rw[if_neg h1,if_neg h2]
    constructor
    ·intro g;exact .inr (by omega)
    ·rintro(g | g)
     ·exact absurd g.1 h2
     ·omega
theorem Ba1(l:List Run)(n:Int):inR (J9 l) n↔1≤n∧n≤1000000000∧inR l n:=by
 constructor
 ·rintro⟨r,hr,h1,h2⟩
  unfold J9 at hr
  obtain⟨hr,_⟩:=List.mem_filter.1 hr
  obtain⟨x,hx,rfl⟩:=List.mem_map.1 hr
  simp only [E5]at h1 h2
  exact⟨by omega,by omega,x,hx,by omega,by omega⟩
 ·rintro⟨h1,h2,x,hx,h3,h4⟩
  refine⟨E5 x,?_,?_,?_⟩
  ·unfold J9
   refine List.mem_filter.2 ⟨List.mem_map.2 ⟨x,hx,rfl⟩,?_⟩
   show decide ((E5 x).lo≤(E5 x).hi)=true
   rw[decide_eq_true_iff]
   show max x.lo 1≤min x.hi 1000000000
   omega
  ·simp only [E5];omega
  ·simp only [E5];omega
theorem B17(l:List Run)(n:Int):cntI (Ba0 l) n=(J9 l).countP fun r=>decide (r.lo≤n):=by
 unfold Ba0 B7m
 rw[An0,cntI,List.countP_map]
 rfl
theorem An1(l:List Run)(n:Int):cntI (Ag4 l) n=(J9 l).countP fun r=>decide (r.hi+1≤n):=by
 unfold Ag4 A9y
 rw[An0,cntI,List.countP_map]
 rfl
theorem An2(l:List Run):VW (Ba0 l) (Ag4 l) 0:=by
 refine⟨A64 _,A64 _,?_,fun n=>?_⟩
 ·unfold Ba0 Ag4 B7m A9y
  rw[List.length_mergeSort,List.length_mergeSort]
  simp
 ·rw[B17,An1,Nat.zero_add]
  refine List.countP_mono_left fun r hr h=>?_
  have:=H3 r hr
  unfold A1d at this
  simp only [decide_eq_true_eq]at *
  omega
theorem B18(l:List Run):sw (Ba0 l) (Ag4 l) 0=C9 (nrm l):=by
 obtain⟨R,r1,r2,r3,r4⟩:=(A7i _ _ _ _ rfl (An2 l)).1 rfl
 rw[r1]
 congr 1
 have bd:∀ r∈R,1≤r.lo∧r.hi≤1000000000:=fun r hr=>by
  obtain⟨_,h1,h2⟩:=r3 r hr
  have h1:=(List.mergeSort_perm _ _).subset h1
  have h2:=(List.mergeSort_perm _ _).subset h2
  obtain⟨x,hx,ex⟩:=List.mem_map.1 h1
  obtain⟨y,hy,ey⟩:=List.mem_map.1 h2
  have gx:=H3 x hx
  have gy:=H3 y hy
  unfold A1d okR at gx gy
  omega
 refine O3 ⟨r2,fun r hr=>?_⟩ (E1 l) fun n=>?_
 ·have:=bd r hr;have:=(r3 r hr).1;omega
 ·rw[r4 n,Q6,B17,An1,← Ba1,A9z fun r hr h=>by
   have:=H3 r hr
   unfold A1d at this
   simp only [decide_eq_true_eq]at *
   omega]
  unfold inR
  constructor
  ·rintro⟨r,hr,h1,h2⟩
   simp only [decide_eq_true_eq]at h1 h2
   exact⟨r,hr,h1,by omega⟩
  ·rintro⟨r,hr,h1,h2⟩
   exact⟨r,hr,by simp only [decide_eq_true_eq];exact h1,by simp only [decide_eq_true_eq];omega⟩
end Go.Proofs.YtphcaholhacnpaaGreat
namespace Go.Proofs.YtphcaholhacnpaaGreat
open Go.E
set_option maxRecDepth 100000
set_option maxHeartbeats 4000000
theorem A65(l:List Run):(C9 l).length=2*l.length:=by
 unfold C9
 induction l with
 | nil=>rfl
 | cons r l ih=>simp only [List.flatMap_cons,List.length_append,List.length_cons,List.length_nil,ih];omega
end Go.Proofs.YtphcaholhacnpaaGreat
namespace Go.Proofs.YtphcaholhacnpaaGreat
open Go.E
set_option maxRecDepth 100000
set_option maxHeartbeats 4000000
def H0(f:Bool→Bool→Bool):List Int→List Int→Bool→Bool→Bool→List Int
 | p :: a,q :: b,x,y,w =>
  if p < q then(if f (!x) y=w then[]else[p])++H0 f a (q :: b) (!x) y (f (!x) y)
  else if p=q then(if f (!x) (!y)=w then[]else[p])++H0 f a b (!x) (!y) (f (!x) (!y))
  else(if f x (!y)=w then[]else[q])++H0 f (p :: a) b x (!y) (f x (!y))
 | p :: a,[],x,y,w=>(if f (!x) y=w then[]else[p])++H0 f a [] (!x) y (f (!x) y)
 | [],q :: b,x,y,w=>(if f x (!y)=w then[]else[q])++H0 f [] b x (!y) (f x (!y))
 | [],[],_,_,_=>[]
termination_by a b=>a.length+b.length
theorem S9(f:Bool→Bool→Bool)(x y w:Bool):H0 f [] [] x y w=[]:=by rw[H0]
theorem A7j(f:Bool→Bool→Bool)(p:Int)(a:List Int)(x y w:Bool):H0 f (p :: a) [] x y w=(if f (!x) y=w then[]else[p])++H0 f a [] (!x) y (f (!x) y):=by rw[H0]
theorem A7k(f:Bool→Bool→Bool)(q:Int)(b:List Int)(x y w:Bool):H0 f [] (q :: b) x y w=(if f x (!y)=w then[]else[q])++H0 f [] b x (!y) (f x (!y)):=by rw[H0]
theorem A32(f:Bool→Bool→Bool)(p q:Int)(a b:List Int)(x y w:Bool):H0 f (p :: a) (q :: b) x y w =
  if p < q then(if f (!x) y=w then[]else[p])++H0 f a (q :: b) (!x) y (f (!x) y)
  else if p=q then(if f (!x) (!y)=w then[]else[p])++H0 f a b (!x) (!y) (f (!x) (!y))
  else(if f x (!y)=w then[]else[q])++H0 f (p :: a) b x (!y) (f x (!y)):=by rw[H0]
def A54:List Int→Int→Bool
 | [],_=>false
 | p :: a,n=>decide (p≤n) ^^ A54 a n
def A7l(a:List Int):Prop:=a.Pairwise fun x y=>x < y
theorem An3{n:Int}:∀ {a:List Int},(∀ p∈a,n < p)→A54 a n=false
 | [],_=>rfl
 | p :: a,h=>by
  have h1:=h p (by simp)
  rw[A54,An3 (a:=a) fun q hq=>h q (by simp [hq])]
  simp
  omega
theorem A7m{n:Int}:∀ {a:List Int},(∀ p∈a,p≤n)→A54 a n=decide (a.length % 2=1)
 | [],_=>rfl
 | p :: a,h=>by
  have h1:=h p (by simp)
  rw[A54,A7m (a:=a) fun q hq=>h q (by simp [hq]),decide_eq_true h1,List.length_cons]
  by_cases k:a.length % 2=1
  ·have k2:¬(a.length+1) % 2=1:=by omega
   rw[decide_eq_true k,decide_eq_false k2];rfl
  ·have k2:(a.length+1) % 2=1:=by omega
   rw[decide_eq_false k,decide_eq_true k2];rfl
theorem A49(c w w':Bool)(p n:Int)(r:List Int)(hp:p≤n)(hc:(w' ^^ A54 r n)=c):(w ^^ A54 ((if w'=w then[]else[p])++r) n)=c:=by
 rw[← hc]
 split
 ·rename_i e;rw[e];rfl
 ·rename_i e
  show(w ^^ (decide (p≤n) ^^ A54 r n))=_
  rw[decide_eq_true hp]
  cases w <;> cases w' <;> simp_all
theorem V8(f:Bool→Bool→Bool):∀(k:Nat) (a b:List Int),a.length+b.length≤k→∀(x y w:Bool),∀ e∈H0 f a b x y w,e∈a∨e∈b:=by
 intro k
 induction k with
 | zero =>
  intro a b hk x y w e he
  have h1:a=[]:=List.eq_nil_of_length_eq_zero (by omega)
  have h2:b=[]:=List.eq_nil_of_length_eq_zero (by omega)
  subst h1 h2
  rw[S9]at he
  cases he
 | succ k ih =>
  have hd:∀(c:Prop) [Decidable c] (p e:Int) (m:List Int),e∈(if c then[]else[p])++m→e=p∨e∈m:=by
   intro c _ p e m h
   rcases List.mem_append.1 h with h | h
   ·split at h
    ·cases h
    ·exact .inl (by simpa using h)
   ·exact .inr h
  intro a b hk x y w e he
  cases a with
  | nil =>
   cases b with
   | nil=>rw[S9]at he;cases he
   | cons q b =>
    rw[A7k]at he
    rcases hd _ _ _ _ he with rfl | he
    ·exact .inr (by simp)
    ·rcases ih _ _ (by simp only [List.length_cons,List.length_nil]at hk ⊢;omega) _ _ _ e he with h | h
     ·exact .inl h
     ·exact .inr (by simp [h])
  | cons p a =>
   cases b with
   | nil =>
    rw[A7j]at he
    rcases hd _ _ _ _ he with rfl | he
    ·exact .inl (by simp)
    ·rcases ih _ _ (by simp only [List.length_cons,List.length_nil]at hk ⊢;omega) _ _ _ e he with h | h
     ·exact .inl (by simp [h])
     ·exact .inr h
   | cons q b =>
    simp only [List.length_cons]at hk
    rw[A32]at he
    split at he
    ·rcases hd _ _ _ _ he with rfl | he
     ·exact .inl (by simp)
     ·rcases ih _ _ (by simp only [List.length_cons];omega) _ _ _ e he with h | h
      ·exact .inl (by simp [h])
      ·exact .inr h
    ·split at he
     ·rcases hd _ _ _ _ he with rfl | he
      ·exact .inl (by simp)
      ·rcases ih _ _ (by omega) _ _ _ e he with h | h
       ·exact .inl (by simp [h])
       ·exact .inr (by simp [h])
     ·rcases hd _ _ _ _ he with rfl | he
      ·exact .inr (by simp)
      ·rcases ih _ _ (by simp only [List.length_cons];omega) _ _ _ e he with h | h
       ·exact .inl h
       ·exact .inr (by simp [h])
theorem B19(f:Bool→Bool→Bool):∀(k:Nat) (a b:List Int),a.length+b.length≤k→A7l a→A7l b→∀(x y w:Bool),A7l (H0 f a b x y w):=by
 intro k
 induction k with
 | zero =>
  intro a b hk _ _ x y w
  have h1:a=[]:=List.eq_nil_of_length_eq_zero (by omega)
  have h2:b=[]:=List.eq_nil_of_length_eq_zero (by omega)
  subst h1 h2
  rw[S9]
  exact List.Pairwise.nil
 | succ k ih =>
  have hd:∀(c:Prop) [Decidable c] (p:Int) (m:List Int),A7l m→(∀ e∈m,p < e)→A7l ((if c then[]else[p])++m):=by
   intro c _ p m hm hp
   split
   ·exact hm
   ·exact List.pairwise_cons.2 ⟨hp,hm⟩
  intro a b hk ha hb x y w
  cases a with
  | nil =>
   cases b with
   | nil=>rw[S9];exact List.Pairwise.nil
   | cons q b =>
    have pb:=List.pairwise_cons.1 hb
    rw[A7k]
    refine hd _ _ _ (ih _ _ (by simp only [List.length_cons,List.length_nil]at hk ⊢;omega) ha pb.2 _ _ _) fun e he=>?_
    rcases V8 f _ _ _ (Nat.le_refl _) _ _ _ e he with h | h
    ·cases h
    ·exact pb.1 e h
  | cons p a =>
   have pa:=List.pairwise_cons.1 ha
   cases b with
   | nil =>
    rw[A7j]
    refine hd _ _ _ (ih _ _ (by simp only [List.length_cons,List.length_nil]at hk ⊢;omega) pa.2 hb _ _ _) fun e he=>?_
    rcases V8 f _ _ _ (Nat.le_refl _) _ _ _ e he with h | h
    ·exact pa.1 e h
    ·cases h
   | cons q b =>
    have pb:=List.pairwise_cons.1 hb
    simp only [List.length_cons]at hk
    rw[A32]
    split
    ·refine hd _ _ _ (ih _ _ (by simp only [List.length_cons];omega) pa.2 hb _ _ _) fun e he=>?_
     rcases V8 f _ _ _ (Nat.le_refl _) _ _ _ e he with h | h
     ·exact pa.1 e h
     ·rcases List.mem_cons.1 h with rfl | h
      ·assumption
      ·have:=pb.1 e h;omega
    ·split
     ·rename_i e0
      refine hd _ _ _ (ih _ _ (by omega) pa.2 pb.2 _ _ _) fun e he=>?_
      rcases V8 f _ _ _ (Nat.le_refl _) _ _ _ e he with h | h
      ·exact pa.1 e h
      ·have:=pb.1 e h;omega
     ·refine hd _ _ _ (ih _ _ (by simp only [List.length_cons];omega) ha pb.2 _ _ _) fun e he=>?_
      rcases V8 f _ _ _ (Nat.le_refl _) _ _ _ e he with h | h
      ·rcases List.mem_cons.1 h with rfl | h
       ·omega
       ·have:=pa.1 e h;omega
      ·exact pb.1 e h
theorem B5a(f:Bool→Bool→Bool):∀(k:Nat) (a b:List Int),a.length+b.length≤k→A7l a→A7l b→∀(x y:Bool) (n:Int),(f x y ^^ A54 (H0 f a b x y (f x y)) n)=f (x ^^ A54 a n) (y ^^ A54 b n):=by
 intro k
 induction k with
 | zero =>
  intro a b hk _ _ x y n
  have h1:a=[]:=List.eq_nil_of_length_eq_zero (by omega)
  have h2:b=[]:=List.eq_nil_of_length_eq_zero (by omega)
  subst h1 h2
  rw[S9]
  simp [A54]
 | succ k ih =>
  intro a b hk ha hb x y n
  -- below everything nothing turns
  by_cases hlow:(∀ e∈a,n < e)∧∀ e∈b,n < e
  ·rw[An3 hlow.1,An3 hlow.2,An3 fun e he=>by
    rcases V8 f _ _ _ (Nat.le_refl _) _ _ _ e he with h | h
    ·exact hlow.1 e h
    ·exact hlow.2 e h]
   simp
  ·have flip:∀(p:Int) (m:List Int) (z:Bool),p≤n→(z ^^ A54 (p :: m) n)=((!z) ^^ A54 m n):=by
    intro p m z hp
    rw[A54,decide_eq_true hp]
    cases z <;> simp
   cases a with
   | nil =>
    cases b with
    | nil=>exact absurd ⟨fun e he=>(by cases he),fun e he=>(by cases he)⟩ hlow
    | cons q b =>
     have pb:=List.pairwise_cons.1 hb
     have hq:q≤n:=Int.not_lt.1 fun h=>hlow ⟨fun e he=>(by cases he),fun e he=>by
      rcases List.mem_cons.1 he with rfl | he
      ·exact h
      ·have:=pb.1 e he;omega⟩
     rw[A7k,flip q b y hq]
     exact A49 _ _ _ _ _ _ hq (ih _ _ (by simp only [List.length_cons,List.length_nil]at hk ⊢;omega) ha pb.2 _ _ n)
   | cons p a =>
    have pa:=List.pairwise_cons.1 ha
    cases b with
    | nil =>
     have hp:p≤n:=Int.not_lt.1 fun h=>hlow ⟨fun e he=>by
      rcases List.mem_cons.1 he with rfl | he
      ·exact h
      ·have:=pa.1 e he;omega,fun e he=>(by cases he)⟩
     rw[A7j,flip p a x hp]
     exact A49 _ _ _ _ _ _ hp (ih _ _ (by simp only [List.length_cons,List.length_nil]at hk ⊢;omega) pa.2 hb _ _ n)
    | cons q b =>
     have pb:=List.pairwise_cons.1 hb
     simp only [List.length_cons]at hk
     have hm:p≤n∨q≤n:=by
      apply Classical.byContradiction
      intro h
      refine hlow ⟨fun e he=>?_,fun e he=>?_⟩
      ·rcases List.mem_cons.1 he with rfl | he
       ·omega
       ·have:=pa.1 e he;omega
      ·rcases List.mem_cons.1 he with rfl | he
       ·omega
       ·have:=pb.1 e he;omega
     rw[A32]
     split
     ·have hp:p≤n:=by omega
      rw[flip p a x hp]
      exact A49 _ _ _ _ _ _ hp (ih _ _ (by simp only [List.length_cons];omega) pa.2 hb _ _ n)
     ·split
      ·rename_i e0
       have hp:p≤n:=by omega
       rw[flip p a x hp,flip q b y (by omega)]
       exact A49 _ _ _ _ _ _ hp (ih _ _ (by omega) pa.2 pb.2 _ _ n)
      ·have hq:q≤n:=by omega
       rw[flip q b y hq]
       exact A49 _ _ _ _ _ _ hq (ih _ _ (by simp only [List.length_cons];omega) ha pb.2 _ _ n)
def A4a:List Int→List Run
 | p :: q :: t=>⟨p,q-1⟩ :: A4a t
 | _=>[]
theorem Z9(r:Run)(l:List Run):C9 (r :: l)=r.lo ::(r.hi+1) :: C9 l:=rfl
theorem A0o:∀ t:List Int,t.length % 2=0→C9 (A4a t)=t
 | [],_=>rfl
 | [p],h=>by simp at h
 | p :: q :: t,h=>by
  rw[A4a,Z9,A0o t (by simp only [List.length_cons]at h;omega)]
  simp only
  rw[show q-1+1=q by omega]
theorem Aa0:∀ t:List Int,∀ r∈A4a t,r.lo∈t∧r.hi+1∈t
 | [],r,hr=>by cases hr
 | [p],r,hr=>by cases hr
 | p :: q :: t,r,hr=>by
  rw[A4a]at hr
  rcases List.mem_cons.1 hr with rfl | hr
  ·simp
  ·have:=Aa0 t r hr
   exact⟨by simp [this.1],by simp [this.2]⟩
theorem Aa1:∀ t:List Int,A7l t→(∀ e∈t,1≤e∧e≤1000000001)→M0 (A4a t)
 | [],_,_=>Q5
 | [p],_,_=>Q5
 | p :: q :: t,h,hb=>by
  have h1:=List.pairwise_cons.1 h
  have h2:=List.pairwise_cons.1 h1.2
  have ih:=Aa1 t h2.2 fun e he=>hb e (by simp [he])
  have hp:=hb p (by simp)
  have hq:=hb q (by simp)
  have hpq:=h1.1 q (by simp)
  rw[A4a]
  refine⟨List.pairwise_cons.2 ⟨fun r hr=>?_,ih.1⟩,fun r hr=>?_⟩
  ·have:=h2.1 _ (Aa0 t r hr).1
   simp only
   omega
  ·rcases List.mem_cons.1 hr with rfl | hr
   ·simp only;omega
   ·exact ih.2 r hr
theorem A4b:∀ {l:List Run} {e:Int},e∈C9 l→∃ r∈l,e=r.lo∨e=r.hi+1
 | [],e,h=>by cases h
 | r :: l,e,h=>by
  rw[Z9]at h
  rcases List.mem_cons.1 h with rfl | h
  ·exact⟨r,by simp,.inl rfl⟩
  ·rcases List.mem_cons.1 h with rfl | h
   ·exact⟨r,by simp,.inr rfl⟩
   ·obtain⟨x,hx,k⟩:=A4b h
    exact⟨x,by simp [hx],k⟩
theorem T0:∀ {l:List Run},M0 l→A7l (C9 l)
 | [],_=>List.Pairwise.nil
 | r :: l,h=>by
  have hr:=h.2 r (by simp)
  have pa:=(List.pairwise_cons.1 h.1).1
  rw[Z9]
  have big:∀ e∈C9 l,r.hi+1 < e:=by
   intro e he
   obtain⟨x,hx,k⟩:=A4b he
   have h1:=pa x hx
   have h2:=h.2 x (by simp [hx])
   omega
  refine List.pairwise_cons.2 ⟨fun e he=>?_,List.pairwise_cons.2 ⟨big,T0 (G6 h)⟩⟩
  rcases List.mem_cons.1 he with rfl | he
  ·omega
  ·have:=big e he;omega
theorem A4c:∀ {l:List Run},M0 l→∀ n,A54 (C9 l) n=true↔inR l n
 | [],_,n=>by simp [C9,A54,inR]
 | r :: l,h,n=>by
  have hr:=h.2 r (by simp)
  have ih:=A4c (G6 h) n
  have lt:inR l n→r.hi+1 < n:=A76 h
  rw[Z9,O0,← ih]
  rw[← ih]at lt
  simp only [A54]
  by_cases h1:r.lo≤n
  ·by_cases h2:r.hi+1≤n
   ·rw[decide_eq_true h1,decide_eq_true h2]
    simp only [Bool.true_bne,Bool.not_not,Bool.true_xor]
    constructor
    ·exact fun k=>.inr k
    ·rintro(k | k)
     ·omega
     ·exact k
   ·rw[decide_eq_true h1,decide_eq_false h2]
    cases e:A54 (C9 l) n with
    | true=>have:=lt e;omega
    | false=>simp;omega
  ·have h2:¬ r.hi+1≤n:=by omega
   rw[decide_eq_false h1,decide_eq_false h2]
   cases e:A54 (C9 l) n with
   | true=>have:=lt e;omega
   | false=>simp;omega
theorem V9{l:List Run}(h:M0 l):∀ e∈C9 l,1≤e∧e≤1000000001:=by
 intro e he
 obtain⟨r,hr,k⟩:=A4b he
 have:=h.2 r hr
 omega
def hasL(l:List Run)(n:Int):Bool:=l.any fun r=>decide (r.lo≤n∧n≤r.hi)
theorem A7n{l:List Run}{n:Int}:hasL l n=true↔inR l n:=by
 unfold hasL inR
 rw[List.any_eq_true]
 simp only [decide_eq_true_eq]
theorem At7(f:Bool→Bool→Bool)(hf:f false false=false){A B C:List Run}(hA:M0 A)(hB:M0 B)(hC:M0 C)(h:∀ n,inR C n↔f (hasL A n) (hasL B n)=true) :
  H0 f (C9 A) (C9 B) false false false=C9 C:=by
 have hp:=fun n=>B5a f _ (C9 A) (C9 B) (Nat.le_refl _) (T0 hA) (T0 hB) false false n
 rw[hf]at hp
 have hr:=B19 f _ (C9 A) (C9 B) (Nat.le_refl _) (T0 hA) (T0 hB) false false false
 have hm:=V8 f _ (C9 A) (C9 B) (Nat.le_refl _) false false false
 generalize H0 f (C9 A) (C9 B) false false false=t at hp hr hm ⊢
 have hb:∀ e∈t,1≤e∧e≤1000000001:=fun e he=>by
  rcases hm e he with k | k
  ·exact V9 hA e k
  ·exact V9 hB e k
 simp only [Bool.false_xor,Bool.false_bne]at hp
 have he:t.length % 2=0:=by
  have h1:=hp 1000000001
  rw[A7m fun e he=>(hb e he).2,A7m fun e he=>(V9 hA e he).2,A7m fun e he=>(V9 hB e he).2,A65,A65,decide_eq_false (by omega:¬ 2*A.length % 2=1),decide_eq_false (by omega:¬ 2*B.length % 2=1),hf,decide_eq_false_iff_not]at h1
  omega
 have hs:=Aa1 t hr hb
 rw[← A0o t he]
 congr 1
 refine O3 hs hC fun n=>?_
 rw[h,← A4c hs,A0o t he,hp]
 have d:∀ {l:List Run},M0 l→A54 (C9 l) n=hasL l n:=fun {l} hl=>by
  rw[Bool.eq_iff_iff,A7n];exact A4c hl n
 rw[d hA,d hB]
def N0(rule:Int)(x y:Bool):Bool:=decide (rule=1) && x && y || decide (rule=2) && x && !y
def Av5(i:Int):Bool:=decide (i % 2=1)
def A2i(f:Bool→Bool→Bool)(a b:List Int)(i j:Int)(w:Bool)(t:List Int):Prop:=t++H0 f (a.drop i.toNat) (b.drop j.toNat) (Av5 i) (Av5 j) w=H0 f a b false false false
theorem A00{i:Int}(h:0≤i):Av5 (i+1)=!Av5 i:=by
 unfold Av5
 by_cases k:i % 2=1
 ·rw[decide_eq_true k,decide_eq_false (by omega)];rfl
 ·rw[decide_eq_false k,decide_eq_true (by omega)];rfl
theorem At8{a:List Int}{i:Int}(h0:0≤i)(h:i < a.length):a.drop i.toNat=a[i.toNat]! :: a.drop (i+1).toNat:=by
 rw[show(i+1).toNat=i.toNat+1 by omega,getElem!_pos a i.toNat (by omega)]
 exact List.drop_eq_getElem_cons (by omega)
theorem A66{a:List Int}{i:Int}(h:¬ i < a.length):a.drop i.toNat=[]:=List.drop_of_length_le (by omega)
theorem B1a{f:Bool→Bool→Bool}{a b:List Int}{i j i' j' u:Int}{w w':Bool}{t t':List Int}(h0:0≤i)(j0:0≤j)(ho:i < a.length∨j < b.length)
  (hu:u=if ¬ j < b.length∨(i < a.length∧a[i.toNat]! < b[j.toNat]!)then a[i.toNat]! else b[j.toNat]!)
  (hi:i'=if i < a.length∧a[i.toNat]! = u then i+1 else i) (hj:j'=if j < b.length∧b[j.toNat]! = u then j+1 else j)
  (hw:w'=f (Av5 i') (Av5 j')) (ht:t'=if w'=w then t else t++[u]) (h:A2i f a b i j w t):A2i f a b i' j' w' t':=by
 have fin:∀ r:List Int,t'++r=t++((if w'=w then[]else[u])++r):=by
  intro r
  rw[ht]
  split <;> simp
 unfold A2i at *
 rw[fin,← h]
 congr 1
 by_cases hi1:i < a.length
 ·by_cases hj1:j < b.length
  ·rw[At8 h0 hi1,At8 j0 hj1,A32]
   by_cases k:a[i.toNat]! < b[j.toNat]!
   ·rw[if_pos (.inr ⟨hi1,k⟩)]at hu
    rw[hu,if_pos ⟨hi1,rfl⟩]at hi
    rw[hu,if_neg (fun c=>by omega)]at hj
    rw[if_pos k,hi,hj,hw,hi,hj,A00 h0,hu,At8 j0 hj1]
   ·rw[if_neg (fun c=>by omega)]at hu
    rw[if_neg k]
    by_cases e:a[i.toNat]! = b[j.toNat]!
    ·rw[hu,if_pos ⟨hi1,e⟩]at hi
     rw[hu,if_pos ⟨hj1,rfl⟩]at hj
     rw[if_pos e,hi,hj,hw,hi,hj,A00 h0,A00 j0,hu,e]
    ·rw[hu,if_neg (fun c=>e c.2)]at hi
     rw[hu,if_pos ⟨hj1,rfl⟩]at hj
     rw[if_neg e,hi,hj,hw,hi,hj,A00 j0,hu,At8 h0 hi1]
  ·rw[At8 h0 hi1,A66 hj1,A7j]
   rw[if_pos (.inl hj1)]at hu
   rw[hu,if_pos ⟨hi1,rfl⟩]at hi
   rw[hu,if_neg (fun c=>hj1 c.1)]at hj
   rw[hi,hj,hw,hi,hj,A00 h0,hu,A66 hj1]
 ·have hj1:j < b.length:=by omega
  rw[A66 hi1,At8 j0 hj1,A7k]
  rw[if_neg (fun c=>by omega)]at hu
  rw[if_neg (fun c=>hi1 c.1)]at hi
  rw[hu,if_pos ⟨hj1,rfl⟩]at hj
  rw[hi,hj,hw,hi,hj,A00 j0,hu,A66 hi1]
theorem B5b{f:Bool→Bool→Bool}{a b:List Int}{i j:Int}{w:Bool}{t:List Int}(h1:¬ i < a.length)(h2:¬ j < b.length)(h:A2i f a b i j w t):t=H0 f a b false false false:=by
 unfold A2i at h
 rw[A66 h1,A66 h2,S9,List.append_nil]at h
 exact h
end Go.Proofs.YtphcaholhacnpaaGreat
namespace Go.Proofs.YtphcaholhacnpaaGreat
open Go.E
set_option maxRecDepth 100000
set_option maxHeartbeats 4000000
def A4s(lo hi:List Int):List Run:=List.zipWith (fun a b=>⟨a,b⟩) lo hi
def A4d(lo hi:List Int)(i:Int)(l:List Int):Prop:=l=B7m ((A4s lo hi).take i.toNat)
def X8(lo hi:List Int)(i:Int)(l:List Int):Prop:=l=A9y ((A4s lo hi).take i.toNat)
def B5c(lo hi:List Int)(i:Int)(a b:List Int):Prop:=0≤i∧i≤lo.length∧(a.length:Int)≤i∧(b.length:Int)=a.length∧A4d lo hi i a∧X8 lo hi i b
def decTa(lo:List Int)(i:Int)(a b:List Int):Nat:=(lo.length-i).toNat
def B5d(A B:List Int)(i j:Int)(t:List Int):Prop:=VW (A.drop i.toNat) (B.drop j.toNat) (i-j).toNat∧j≤i∧t++sw (A.drop i.toNat) (B.drop j.toNat) (i-j).toNat=sw A B 0
def At9(A B:List Int)(d j i:Int)(t:List Int):Prop:=0≤i∧i≤A.length∧0≤j∧j≤B.length∧d=i-j∧(t.length:Int)≤i+j∧B5d A B i j t
def decTb(A B:List Int)(d j i:Int)(t:List Int):Nat:=(A.length+B.length-i-j).toNat
theorem A7o{A B:List Int}{i j:Int}{t:List Int}(h0:0≤i)(hi:i≤A.length)(j0:0≤j)(jl:j≤B.length)(h:B5d A B i j t):A.length=B.length:=by
 have:=h.1.len
 have:=h.2.1
 simp only [List.length_drop]at *
 omega
theorem B1b{A B:List Int}{i j:Int}{t:List Int}(h0:0≤i)(hi:i < A.length)(j0:0≤j)(jl:j≤B.length)(hle:A[i.toNat]!≤B[j.toNat]!)(h:B5d A B i j t) :
  B5d A B (i+1) j (if i-j=0 then t++[A[i.toNat]!]else t):=by
 have hl:=A7o h0 (by omega) j0 jl h
 obtain⟨v,hji,e⟩:=h
 have hj:j < B.length:=by omega
 rw[M9 h0 hi,M9 j0 hj]at v e
 rw[sw,if_pos hle]at e
 refine⟨?_,by omega,?_⟩
 ·rw[M9 j0 hj,show(i+1-j).toNat=(i-j).toNat+1 by omega];exact v.in_ hle
 ·rw[← e,M9 j0 hj,show(i+1-j).toNat=(i-j).toNat+1 by omega]
  by_cases z:i-j=0
  ·rw[if_pos z,if_pos (show(i-j).toNat=0 by omega),List.append_assoc]
  ·rw[if_neg z,if_neg (show ¬(i-j).toNat=0 by omega)];rfl
theorem A7p{A B:List Int}{i j:Int}{t:List Int}(h0:0≤i)(hi:i≤A.length)(j0:0≤j)(jl:j≤B.length)(ho:i < A.length∨j < B.length)(hn:¬(i < A.length∧A[i.toNat]!≤B[j.toNat]!))(h:B5d A B i j t) :
  j < B.length∧j < i∧B5d A B i (j+1) (if i-j-1=0 then t++[B[j.toNat]!]else t):=by
 have hl:=A7o h0 hi j0 jl h
 obtain⟨v,hji,e⟩:=h
 have hj:j < B.length:=by omega
 rw[M9 j0 hj]at v e
 by_cases hA:i < A.length
 ·have hba:B[j.toNat]! < A[i.toNat]!:=by have:¬ A[i.toNat]!≤B[j.toNat]!:=fun k=>hn ⟨hA,k⟩;omega
  rw[M9 h0 hA]at v e
  have hp:=v.pos hba
  rw[sw,if_neg (by omega)]at e
  refine⟨hj,by omega,?_,by omega,?_⟩
  ·rw[M9 h0 hA,show(i-(j+1)).toNat=(i-j).toNat-1 by omega];exact v.out hba
  ·rw[← e,M9 h0 hA,show(i-(j+1)).toNat=(i-j).toNat-1 by omega]
   by_cases z:i-j-1=0
   ·rw[if_pos z,if_pos (show(i-j).toNat=1 by omega),List.append_assoc]
   ·rw[if_neg z,if_neg (show ¬(i-j).toNat=1 by omega)];rfl
 ·rw[List.drop_of_length_le (l:=A) (by omega)]at v e
  have hp:=v.end_
  rw[sw]at e
  refine⟨hj,by omega,?_,by omega,?_⟩
  ·rw[List.drop_of_length_le (l:=A) (by omega),show(i-(j+1)).toNat=(i-j).toNat-1 by omega];exact hp.2
  ·rw[← e,List.drop_of_length_le (l:=A) (by omega),show(i-(j+1)).toNat=(i-j).toNat-1 by omega]
   by_cases z:i-j-1=0
   ·rw[if_pos z,if_pos (show(i-j).toNat=1 by omega),List.append_assoc]
   ·rw[if_neg z,if_neg (show ¬(i-j).toNat=1 by omega)];rfl
theorem B5e{A B:List Int}{i j:Int}{t:List Int}(ho:¬(i < A.length∨j < B.length))(h:B5d A B i j t):t=sw A B 0:=by
 have e:=h.2.2
 rw[List.drop_of_length_le (by omega),List.drop_of_length_le (by omega),sw,List.append_nil]at e
 exact e
theorem Ag5{lo hi:List Int}(h:lo.length=hi.length):(A4s lo hi).length=lo.length:=by
 unfold A4s;rw[List.length_zipWith];omega
theorem An4{lo hi:List Int}{i:Int}(h:lo.length=hi.length)(h0:0≤i)(hi':i < lo.length):(A4s lo hi).take (i+1).toNat=(A4s lo hi).take i.toNat++[⟨lo[i.toNat]!,hi[i.toNat]!⟩]:=by
 rw[← C8 h0 (by rw[Ag5 h];exact hi')]
 congr 2
 have:=Ag5 h
 rw[getElem!_pos (A4s lo hi) i.toNat (by omega),getElem!_pos lo i.toNat (by omega),getElem!_pos hi i.toNat (by omega)]
 simp [A4s]
theorem B1c(a:List Run)(r:Run):B7m (a++[r])=B7m a++if(E5 r).lo≤(E5 r).hi then[(E5 r).lo]else[]:=by
 unfold B7m
 rw[A3p,A1e,List.map_append]
 split <;> rfl
theorem An5(a:List Run)(r:Run):A9y (a++[r])=A9y a++if(E5 r).lo≤(E5 r).hi then[(E5 r).hi+1]else[]:=by
 unfold A9y
 rw[A3p,A1e,List.map_append]
 split <;> rfl
theorem B5f{lo hi:List Int}{i:Int}{a b:List Int}(h:lo.length=hi.length)(h0:0≤i)(hl:i < lo.length)(hc:max lo[i.toNat]! 1≤min hi[i.toNat]! 1000000000)(ha:A4d lo hi i a)(hb:X8 lo hi i b) :
  A4d lo hi (i+1) (a++[max lo[i.toNat]! 1])∧X8 lo hi (i+1) (b++[min hi[i.toNat]! 1000000000+1]):=by
 unfold A4d X8 at *
 have hc':(E5 ⟨lo[i.toNat]!,hi[i.toNat]!⟩).lo≤(E5 ⟨lo[i.toNat]!,hi[i.toNat]!⟩).hi:=hc
 rw[An4 h h0 hl,B1c,An5,← ha,← hb,if_pos hc',if_pos hc']
 exact⟨rfl,rfl⟩
theorem B1d{lo hi:List Int}{i:Int}{a b:List Int}(h:lo.length=hi.length)(h0:0≤i)(hl:i < lo.length)(hc:¬ max lo[i.toNat]! 1≤min hi[i.toNat]! 1000000000)(ha:A4d lo hi i a)(hb:X8 lo hi i b) :
  A4d lo hi (i+1) a∧X8 lo hi (i+1) b:=by
 unfold A4d X8 at *
 have hc':¬(E5 ⟨lo[i.toNat]!,hi[i.toNat]!⟩).lo≤(E5 ⟨lo[i.toNat]!,hi[i.toNat]!⟩).hi:=hc
 rw[An4 h h0 hl,B1c,An5,← ha,← hb,if_neg hc',if_neg hc',List.append_nil,List.append_nil]
 exact⟨rfl,rfl⟩
theorem Aa2{lo hi:List Int}{i:Int}{a b:List Int}(h:lo.length=hi.length)(hl:¬ i < lo.length)(ha:A4d lo hi i a)(hb:X8 lo hi i b):a.mergeSort leI=Ba0 (A4s lo hi)∧b.mergeSort leI=Ag4 (A4s lo hi):=by
 unfold A4d X8 at *
 have:=Ag5 h
 rw[ha,hb,List.take_of_length_le (by omega)]
 exact⟨rfl,rfl⟩
theorem Au0(l:List Run):B5d (Ba0 l) (Ag4 l) 0 0 []:=⟨An2 l,by omega,by simp⟩
theorem con206(lo hi:List Int)(h:lo.length=hi.length)(hb:lo.length*16≤140737488351232):Con Tryz.prog 206 [.sl (lo.map c3),.sl (hi.map c3)] (.sl ((C9 (nrm (A4s lo hi))).map c3)) :=
 by
 refine lN 0 c3 (lo) Tryz.func206 fun hl_0=>lN 1 c3 (hi) Tryz.func206 fun hl_1=>sC A6 [.tmp 4] 98 Tryz.func206 ?_
 intro e0 cx
 refine sq<|rG cx [0,1] [] z0<|sn<|sq<|rG cx [0,1,5,6] [] z0<|sn<|sq<|sq<|rG cx [0,1,5,6,7] [] z0<|sn<|bL 0<|E0 5 1005 3 1 (σ':=⟨[(0,.sl (List.map c3 lo)),(1,.sl (List.map c3 hi)),(5,.own 1005 0),(6,.nl),(7,.i .i64 ((0:Int)))],[(1005,⟨0,3,.row 1 (List.map c3 [])⟩)]⟩) (by kernel_rfl)<|E0 6 1006 3 1 (σ':=⟨[(0,.sl (List.map c3 lo)),(1,.sl (List.map c3 hi)),(5,.own 1005 0),(6,.own 1006 0),(7,.i .i64 ((0:Int)))],[(1005,⟨0,3,.row 1 (List.map c3 [])⟩),(1006,⟨0,3,.row 1 (List.map c3 [])⟩)]⟩) (by kernel_rfl)<|sL (X:=Int×List Int×List Int) (fun x=>⟨[(0,.sl (List.map c3 lo)),(1,.sl (List.map c3 hi)),(5,.own 1005 0),(6,.own 1006 0),(7,.i .i64 (x.1))],[(1005,⟨0,3,.row 1 (List.map c3 x.2.1)⟩),(1006,⟨0,3,.row 1 (List.map c3 x.2.2)⟩)]⟩) (fun x ↦ decTa lo x.1 x.2.1 x.2.2) (fun x ↦ B5c lo hi x.1 x.2.1 x.2.2) [0,1,5,6,7] [1005,1006] (((0:Int),[],[])) (show B5c lo hi (0:Int) [] []from ?g0) ?_;rotate_left
 rintro⟨i0,a1,b2⟩ h_3
 obtain⟨hh4,hh5,hh6,hh7,h8,h9⟩:0≤i0∧i0≤(↑lo.length:Int)∧(↑a1.length:Int)≤i0∧(↑b2.length:Int)=(↑a1.length:Int)∧A4d lo hi i0 a1∧X8 lo hi i0 b2:=h_3
 refine sq<|rD cx [0,1,5,6,7,17] [1005,1006] (tL 2 c3 lo (zB 3 (i0 <(↑lo.length:Int)))) (fun h10=>?_) fun h10=>?_
 refine sK<|sn<|sq<|bL 1<|sq<|rA cx [0,1,5,6,7,8,9] [1005,1006] (fA (0≤i0) (fG c3 lo i0.toNat (fR 1 (tT 4 (A2v:AV.i .i64 (if(1:Int) > lo[i0.toNat]! then(1:Int)else lo[i0.toNat]!)=AV.i .i64 (max lo[i0.toNat]! (1:Int))) (fA (0≤i0) (fG c3 hi i0.toNat (fR 1 (tT 9 (A2w:AV.i .i64 (if(1000000000:Int) < hi[i0.toNat]! then(1000000000:Int)else hi[i0.toNat]!)=AV.i .i64 (min hi[i0.toNat]! (1000000000:Int))) (oR 2 (c3 lo[i0.toNat]!) (oR 7 (c3 hi[i0.toNat]!) z0))))))))))<|sn<|rD cx [0,1,5,6,7,8,9,32] [1005,1006] (zB 2 (max lo[i0.toNat]! 1≤min hi[i0.toNat]! (1000000000:Int))) (fun h11=>?_) fun h11=>?_
 refine sq<|rG cx [0,1,5,6,7,9] [1005,1006] (fR 3 (fR 1 (fR 1 (fX c3 [max lo[i0.toNat]! (1:Int)] 1 (fS c3 a1 c3 [max lo[i0.toNat]! (1:Int)] (fP (((List.map c3 a1).length+(List.map c3 [max lo[i0.toNat]! (1:Int)]).length)*(8:Nat)≤(140737488355328:Nat)) (by(simp only [Go.maxLen,List.length_map,List.length_append,List.length_cons,List.length_nil];omega)) (fM c3 a1 [max lo[i0.toNat]! (1:Int)] (oV 3 { rows:=some (List.map c3 (a1++[max lo[i0.toNat]! (1:Int)])) } z0))))))))<|sn<|rG cx [0,1,5,6,7] [1005,1006] (tW 2 (min hi[i0.toNat]! (1000000000:Int)+(1:Int)) (fR 3 (fR 1 (fR 1 (fX c3 [min hi[i0.toNat]! (1000000000:Int)+(1:Int)] 1 (fS c3 b2 c3 [min hi[i0.toNat]! (1000000000:Int)+(1:Int)] (fP (((List.map c3 b2).length+(List.map c3 [min hi[i0.toNat]! (1000000000:Int)+(1:Int)]).length)*(8:Nat)≤(140737488355328:Nat)) (by(simp only [Go.maxLen,List.length_map,List.length_append,List.length_cons,List.length_nil];omega)) (fM c3 b2 [min hi[i0.toNat]! (1000000000:Int)+(1:Int)] (oV 4 { rows:=some (List.map c3 (b2++[min hi[i0.toNat]! (1000000000:Int)+(1:Int)])) } z0)))))))))<|bN<|sn<|rG cx [0,1,5,6,7] [1005,1006] (tW 1 (i0+1) z0)<|sn<|nX ((i0+1,a1++[max lo[i0.toNat]! (1:Int)],b2++[min hi[i0.toNat]! (1000000000:Int)+(1:Int)])) (show((↑lo.length:Int)-(i0+1)).toNat <((↑lo.length:Int)-i0).toNat from(by omega)) (show B5c lo hi (i0+1) (a1++[max lo[i0.toNat]! (1:Int)]) (b2++[min hi[i0.toNat]! (1000000000:Int)+(1:Int)])from ?g1);rotate_left
 refine sK<|bN<|sn<|rG cx [0,1,5,6,7] [1005,1006] (tW 1 (i0+1) z0)<|sn<|nX ((i0+1,a1,b2)) (show((↑lo.length:Int)-(i0+1)).toNat <((↑lo.length:Int)-i0).toNat from(by omega)) (show B5c lo hi (i0+1) a1 b2 from ?g2);rotate_left
 refine eX 0<|nE<|nE<|bH<|sn<|sq<|rG cx [5,6] [1006] (fT (B7l (a1) (by omega)) (oA 1 (.sl (List.map c3 (a1.mergeSort leI))) z0))<|sn<|sq<|rG cx [5,6] [] (fT (B7l (b2) (by omega)) (oA 1 (.sl (List.map c3 (b2.mergeSort leI))) z0))<|sn<|sq<|rG cx [5,6,10] [] z0<|sn<|sq<|rG cx [5,6,10,11,12] [] z0<|sn<|sq<|sq<|rG cx [5,6,10,11,12,13] [] z0<|sn<|bL 2<|E0 10 1010 3 1 (σ':=⟨[(5,.sl (List.map c3 (a1.mergeSort leI))),(6,.sl (List.map c3 (b2.mergeSort leI))),(10,.own 1010 0),(11,.i .i64 ((0:Int))),(12,.i .i64 ((0:Int))),(13,.i .i64 ((0:Int)))],[(1010,⟨0,3,.row 1 (List.map c3 [])⟩)]⟩) (by kernel_rfl)<|sL (X:=Int×Int×Int×List Int) (fun x=>⟨[(5,.sl (List.map c3 (a1.mergeSort leI))),(6,.sl (List.map c3 (b2.mergeSort leI))),(10,.own 1010 0),(11,.i .i64 (x.1)),(12,.i .i64 (x.2.1)),(13,.i .i64 (x.2.2.1))],[(1010,⟨0,3,.row 1 (List.map c3 x.2.2.2)⟩)]⟩) (fun x ↦ decTb (a1.mergeSort leI) (b2.mergeSort leI) x.1 x.2.1 x.2.2.1 x.2.2.2) (fun x ↦ At9 (a1.mergeSort leI) (b2.mergeSort leI) x.1 x.2.1 x.2.2.1 x.2.2.2) [5,6,10,11,12,13] [1010] (((0:Int),(0:Int),(0:Int),[])) (show At9 (a1.mergeSort leI) (b2.mergeSort leI) (0:Int) (0:Int) (0:Int) []from ?g3) ?_;rotate_left
 rintro⟨d12,j13,i14,t15⟩ h_16
 obtain⟨h17,h18,h19,h20,h21,h22,h23⟩:0≤i14∧i14≤(↑(a1.mergeSort leI).length:Int)∧0≤j13∧j13≤(↑(b2.mergeSort leI).length:Int)∧d12=i14-j13∧(↑t15.length:Int)≤i14+j13∧B5d (a1.mergeSort leI) (b2.mergeSort leI) i14 j13 t15:=h_16
 refine sq<|sq<|B1 (σ':=⟨[(5,.sl (List.map c3 (a1.mergeSort leI))),(6,.sl (List.map c3 (b2.mergeSort leI))),(10,.own 1010 0),(11,.i .i64 (d12)),(12,.i .i64 (j13)),(13,.i .i64 (i14)),(55,.b (decide (i14 <(↑(a1.mergeSort leI).length:Int)∨j13 <(↑(b2.mergeSort leI).length:Int))))],[(1010,⟨0,3,.row 1 (List.map c3 t15)⟩)]⟩) ?_ ?_
 refine A5 (i14 <(↑(a1.mergeSort leI).length:Int)) (fun h_25=>?_) (fun h_25=>?_)
 refine rG cx [5,6,10,11,12,13,55] [1010] (tL 2 c3 (a1.mergeSort leI) (tT 3 (A4 h_25) (tD 9 true (i14 <(↑(a1.mergeSort leI).length:Int)∨j13 <(↑(b2.mergeSort leI).length:Int)) (by simp only [eq_true h_25,tsl]) z0))) ?_
 exact⟨rfl,by kernel_rfl⟩
 refine rG cx [5,6,10,11,12,13,55] [1010] (tL 2 c3 (a1.mergeSort leI) (tT 3 (A0 h_25) (tL 7 c3 (b2.mergeSort leI) (tB 8 (j13 <(↑(b2.mergeSort leI).length:Int)) (tD 9 (decide (j13 <(↑(b2.mergeSort leI).length:Int))) (i14 <(↑(a1.mergeSort leI).length:Int)∨j13 <(↑(b2.mergeSort leI).length:Int)) (by simp only [eq_false h_25,tsl]) z0))))) ?_
 exact⟨rfl,by kernel_rfl⟩
 refine sn<|dC (i14 <(↑(a1.mergeSort leI).length:Int)∨j13 <(↑(b2.mergeSort leI).length:Int)) (fun h26=>?_) fun h26=>?_
 refine sK<|sn<|bL 3<|sq<|B1 (σ':=⟨[(5,.sl (List.map c3 (a1.mergeSort leI))),(6,.sl (List.map c3 (b2.mergeSort leI))),(10,.own 1010 0),(11,.i .i64 (d12)),(12,.i .i64 (j13)),(13,.i .i64 (i14)),(70,.b (decide (i14 <(↑(a1.mergeSort leI).length:Int)∧(a1.mergeSort leI)[i14.toNat]!≤(b2.mergeSort leI)[j13.toNat]!)))],[(1010,⟨0,3,.row 1 (List.map c3 t15)⟩)]⟩) ?_ ?_
 refine A5 (i14 <(↑(a1.mergeSort leI).length:Int)) (fun h28=>?_) (fun h28=>?_)
 refine rA cx [5,6,10,11,12,13,70] [1010] (tL 2 c3 (a1.mergeSort leI) (tT 3 (A4 h28) (fA (0≤i14) (fG c3 (a1.mergeSort leI) i14.toNat (fR 1 (fA (0≤j13) (fP ((List.map c3 (b2.mergeSort leI))[j13.toNat]?=some (c3 (b2.mergeSort leI)[j13.toNat]!)) ?g4 (fR 1 (tB 13 ((a1.mergeSort leI)[i14.toNat]!≤(b2.mergeSort leI)[j13.toNat]!) (tD 14 (decide ((a1.mergeSort leI)[i14.toNat]!≤(b2.mergeSort leI)[j13.toNat]!)) (i14 <(↑(a1.mergeSort leI).length:Int)∧(a1.mergeSort leI)[i14.toNat]!≤(b2.mergeSort leI)[j13.toNat]!) (by simp only [eq_true h28,tsl]) (oR 7 (c3 (a1.mergeSort leI)[i14.toNat]!) (oR 11 (c3 (b2.mergeSort leI)[j13.toNat]!) z0)))))))))))) ?_;rotate_left
 exact⟨rfl,by kernel_rfl⟩
 refine rA cx [5,6,10,11,12,13,70] [1010] (tL 2 c3 (a1.mergeSort leI) (tT 3 (A0 h28) (tD 14 false (i14 <(↑(a1.mergeSort leI).length:Int)∧(a1.mergeSort leI)[i14.toNat]!≤(b2.mergeSort leI)[j13.toNat]!) (by simp only [eq_false h28,tsl]) z0))) ?_
 exact⟨rfl,by kernel_rfl⟩
 refine sn<|dC (i14 <(↑(a1.mergeSort leI).length:Int)∧(a1.mergeSort leI)[i14.toNat]!≤(b2.mergeSort leI)[j13.toNat]!) (fun h29=>?_) fun h29=>?_
 refine sq<|rD cx [5,6,10,11,12,13,72] [1010] (zB 1 (d12=0)) (fun h30=>?_) fun h30=>?_
 refine rG cx [5,6,10,11,12,13] [1010] (fA (0≤i14) (fG c3 (a1.mergeSort leI) i14.toNat (fR 1 (fR 3 (fR 1 (fR 1 (fX c3 [(a1.mergeSort leI)[i14.toNat]!] 1 (fP ((List.map c3 t15).length+(List.map c3 [(a1.mergeSort leI)[i14.toNat]!]).length≤maxLen) ?g5 (fP (((List.map c3 t15).length+(List.map c3 [(a1.mergeSort leI)[i14.toNat]!]).length)*(8:Nat)≤(140737488355328:Nat)) ?g6 (fM c3 t15 [(a1.mergeSort leI)[i14.toNat]!] (oR 3 (c3 (a1.mergeSort leI)[i14.toNat]!) (oV 6 { rows:=some (List.map c3 (t15++[(a1.mergeSort leI)[i14.toNat]!])) } z0)))))))))))) ?_;rotate_left 2
 refine sn<|sq<|rG cx [5,6,10,11,12,13] [1010] (tW 1 (d12+1) z0)<|sn<|rG cx [5,6,10,11,12,13] [1010] (tT 1 (B4 (by omega) ?g7:AV.i .i64 (IntKind.i64.wrap (i14+1))=AV.i .i64 (i14+1)) z0) ?_;rotate_left
 refine bN<|sn<|nX ((d12+1,j13,i14+1,t15++[(a1.mergeSort leI)[i14.toNat]!])) (show((↑(a1.mergeSort leI).length:Int)+(↑(b2.mergeSort leI).length:Int)-(i14+1)-j13).toNat <((↑(a1.mergeSort leI).length:Int)+(↑(b2.mergeSort leI).length:Int)-i14-j13).toNat from(by omega)) (show At9 (a1.mergeSort leI) (b2.mergeSort leI) (d12+1) j13 (i14+1) (t15++[(a1.mergeSort leI)[i14.toNat]!])from ?g8);rotate_left
 refine sK<|sn<|sq<|rG cx [5,6,10,11,12,13] [1010] (tT 1 (B4 ?g9 ?g10:AV.i .i64 (IntKind.i64.wrap (d12+1))=AV.i .i64 (d12+1)) z0) ?_;rotate_left 2
 refine sn<|rG cx [5,6,10,11,12,13] [1010] (tT 1 (B4 (by omega) ?g11:AV.i .i64 (IntKind.i64.wrap (i14+1))=AV.i .i64 (i14+1)) z0) ?_;rotate_left
 refine bN<|sn<|nX ((d12+1,j13,i14+1,t15)) (show((↑(a1.mergeSort leI).length:Int)+(↑(b2.mergeSort leI).length:Int)-(i14+1)-j13).toNat <((↑(a1.mergeSort leI).length:Int)+(↑(b2.mergeSort leI).length:Int)-i14-j13).toNat from(by omega)) (show At9 (a1.mergeSort leI) (b2.mergeSort leI) (d12+1) j13 (i14+1) t15 from ?g12);rotate_left
 refine sq<|rG cx [5,6,10,11,12,13] [1010] (tT 1 (B4 ?g13 ?g14:AV.i .i64 (IntKind.i64.wrap (d12-1))=AV.i .i64 (d12-1)) z0) ?_;rotate_left 2
 refine sn<|sq<|rD cx [5,6,10,11,12,13,87] [1010] (zB 1 (d12-1=(0:Int))) (fun h31=>?_) fun h31=>?_
 refine rG cx [5,6,10,11,12,13] [1010] (fA (0≤j13) (fP ((List.map c3 (b2.mergeSort leI))[j13.toNat]?=some (c3 (b2.mergeSort leI)[j13.toNat]!)) ?g15 (fR 1 (fR 3 (fR 1 (fR 1 (fX c3 [(b2.mergeSort leI)[j13.toNat]!] 1 (fP ((List.map c3 t15).length+(List.map c3 [(b2.mergeSort leI)[j13.toNat]!]).length≤maxLen) ?g16 (fP (((List.map c3 t15).length+(List.map c3 [(b2.mergeSort leI)[j13.toNat]!]).length)*(8:Nat)≤(140737488355328:Nat)) ?g17 (fM c3 t15 [(b2.mergeSort leI)[j13.toNat]!] (oR 3 (c3 (b2.mergeSort leI)[j13.toNat]!) (oV 6 { rows:=some (List.map c3 (t15++[(b2.mergeSort leI)[j13.toNat]!])) } z0)))))))))))) ?_;rotate_left 3
 refine sn<|rG cx [5,6,10,11,12,13] [1010] (tT 1 (B4 (by omega) ?g18:AV.i .i64 (IntKind.i64.wrap (j13+1))=AV.i .i64 (j13+1)) z0) ?_;rotate_left
 refine bN<|sn<|nX ((d12-1,j13+1,i14,t15++[(b2.mergeSort leI)[j13.toNat]!])) (show((↑(a1.mergeSort leI).length:Int)+(↑(b2.mergeSort leI).length:Int)-i14-(j13+1)).toNat <((↑(a1.mergeSort leI).length:Int)+(↑(b2.mergeSort leI).length:Int)-i14-j13).toNat from(by omega)) (show At9 (a1.mergeSort leI) (b2.mergeSort leI) (d12-1) (j13+1) i14 (t15++[(b2.mergeSort leI)[j13.toNat]!])from ?g19);rotate_left
 refine sK<|sn<|rG cx [5,6,10,11,12,13] [1010] (tT 1 (B4 (by omega) ?g20:AV.i .i64 (IntKind.i64.wrap (j13+1))=AV.i .i64 (j13+1)) z0) ?_;rotate_left
 refine bN<|sn<|nX ((d12-1,j13+1,i14,t15)) (show((↑(a1.mergeSort leI).length:Int)+(↑(b2.mergeSort leI).length:Int)-i14-(j13+1)).toNat <((↑(a1.mergeSort leI).length:Int)+(↑(b2.mergeSort leI).length:Int)-i14-j13).toNat from(by omega)) (show At9 (a1.mergeSort leI) (b2.mergeSort leI) (d12-1) (j13+1) i14 t15 from ?g21);rotate_left
 refine eX 2<|nE<|nE<|bH<|sn<|sq<|rG cx [4] [1010] z0<|sn<|rT<|qR (.sl (List.map c3 t15)) (.eq ?g22);rotate_left
 rotate_left
 revert i0 a1 b2 hh4 hh5 hh6 hh7 h8 h9 h10 h11;rotate_left
 revert i0 a1 b2 hh4 hh5 hh6 hh7 h8 h9 h10 h11;rotate_left
 revert i0 a1 b2 hh4 hh5 hh6 hh7 h8 h9 h10;rotate_left
 revert i0 a1 b2 hh4 hh5 hh6 hh7 h8 h9 h10 d12 j13 i14 t15 h17 h18 h19 h20 h21 h22 h23 h26 h28;rotate_left
 revert i0 a1 b2 hh4 hh5 hh6 hh7 h8 h9 h10 d12 j13 i14 t15 h17 h18 h19 h20 h21 h22 h23 h26 h29 h30;rotate_left
 revert i0 a1 b2 hh4 hh5 hh6 hh7 h8 h9 h10 d12 j13 i14 t15 h17 h18 h19 h20 h21 h22 h23 h26 h29 h30;rotate_left
 revert i0 a1 b2 hh4 hh5 hh6 hh7 h8 h9 h10 d12 j13 i14 t15 h17 h18 h19 h20 h21 h22 h23 h26 h29 h30;rotate_left
 revert i0 a1 b2 hh4 hh5 hh6 hh7 h8 h9 h10 d12 j13 i14 t15 h17 h18 h19 h20 h21 h22 h23 h26 h29 h30;rotate_left
 revert i0 a1 b2 hh4 hh5 hh6 hh7 h8 h9 h10 d12 j13 i14 t15 h17 h18 h19 h20 h21 h22 h23 h26 h29 h30;rotate_left
 revert i0 a1 b2 hh4 hh5 hh6 hh7 h8 h9 h10 d12 j13 i14 t15 h17 h18 h19 h20 h21 h22 h23 h26 h29 h30;rotate_left
 revert i0 a1 b2 hh4 hh5 hh6 hh7 h8 h9 h10 d12 j13 i14 t15 h17 h18 h19 h20 h21 h22 h23 h26 h29 h30;rotate_left
 revert i0 a1 b2 hh4 hh5 hh6 hh7 h8 h9 h10 d12 j13 i14 t15 h17 h18 h19 h20 h21 h22 h23 h26 h29 h30;rotate_left
 revert i0 a1 b2 hh4 hh5 hh6 hh7 h8 h9 h10 d12 j13 i14 t15 h17 h18 h19 h20 h21 h22 h23 h26 h29;rotate_left
 revert i0 a1 b2 hh4 hh5 hh6 hh7 h8 h9 h10 d12 j13 i14 t15 h17 h18 h19 h20 h21 h22 h23 h26 h29;rotate_left
 revert i0 a1 b2 hh4 hh5 hh6 hh7 h8 h9 h10 d12 j13 i14 t15 h17 h18 h19 h20 h21 h22 h23 h26 h29 h31;rotate_left
 revert i0 a1 b2 hh4 hh5 hh6 hh7 h8 h9 h10 d12 j13 i14 t15 h17 h18 h19 h20 h21 h22 h23 h26 h29 h31;rotate_left
 revert i0 a1 b2 hh4 hh5 hh6 hh7 h8 h9 h10 d12 j13 i14 t15 h17 h18 h19 h20 h21 h22 h23 h26 h29 h31;rotate_left
 revert i0 a1 b2 hh4 hh5 hh6 hh7 h8 h9 h10 d12 j13 i14 t15 h17 h18 h19 h20 h21 h22 h23 h26 h29 h31;rotate_left
 revert i0 a1 b2 hh4 hh5 hh6 hh7 h8 h9 h10 d12 j13 i14 t15 h17 h18 h19 h20 h21 h22 h23 h26 h29 h31;rotate_left
 revert i0 a1 b2 hh4 hh5 hh6 hh7 h8 h9 h10 d12 j13 i14 t15 h17 h18 h19 h20 h21 h22 h23 h26 h29 h31;rotate_left
 revert i0 a1 b2 hh4 hh5 hh6 hh7 h8 h9 h10 d12 j13 i14 t15 h17 h18 h19 h20 h21 h22 h23 h26 h29 h31;rotate_left
 revert i0 a1 b2 hh4 hh5 hh6 hh7 h8 h9 h10 d12 j13 i14 t15 h17 h18 h19 h20 h21 h22 h23 h26;rotate_left
 case g0=>exact⟨by omega,by omega,by simp,by simp,by simp [A4d,B7m,J9],by simp [X8,A9y,J9]⟩
 case g1=>intro i a b h0 h1 h2 h3 h4 h5 h6 h7;have:=B5f h h0 h6 h7 h4 h5;exact⟨by omega,by omega,by simp only [List.length_append,List.length_cons,List.length_nil];omega,by simp only [List.length_append,List.length_cons,List.length_nil];omega,this.1,this.2⟩
 case g2=>intro i a b h0 h1 h2 h3 h4 h5 h6 h7;have:=B1d h h0 h6 h7 h4 h5;exact⟨by omega,by omega,by omega,by omega,this.1,this.2⟩
 case g3=>intro i a b h0 h1 h2 h3 h4 h5 h6;obtain⟨e1,e2⟩:=Aa2 h h6 h4 h5;rw[e1,e2];exact⟨by omega,by omega,by omega,by omega,by omega,by simp,Au0 _⟩
 case g4=>intro i a b h0 h1 h2 h3 h4 h5 h6 d j k t k0 k1 k2 k3 k4 k5 k6 k7 k8;have:=A7o k0 k1 k2 k3 k6;have:=k6.2.1;exact F3 (by omega)
 case g8 =>
  intro i a b h0 h1 h2 h3 h4 h5 h6 d j k t k0 k1 k2 k3 k4 k5 k6 k7 k8 k9
  have:=B1b k0 k8.1 k2 k3 k8.2 k6
  rw[if_pos (by omega)]at this
  exact⟨by omega,by omega,by omega,by omega,by omega,by simp only [List.length_append,List.length_cons,List.length_nil];omega,this⟩
 case g12 =>
  intro i a b h0 h1 h2 h3 h4 h5 h6 d j k t k0 k1 k2 k3 k4 k5 k6 k7 k8 k9
  have:=B1b k0 k8.1 k2 k3 k8.2 k6
  rw[if_neg (by omega)]at this
  exact⟨by omega,by omega,by omega,by omega,by omega,by omega,this⟩
 case g15=>intro i a b h0 h1 h2 h3 h4 h5 h6 d j k t k0 k1 k2 k3 k4 k5 k6 k7 k8 k9;have:=A7p k0 k1 k2 k3 k7 k8 k6;exact F3 (by omega)
 case g19 =>
  intro i a b h0 h1 h2 h3 h4 h5 h6 d j k t k0 k1 k2 k3 k4 k5 k6 k7 k8 k9
  obtain⟨q1,q2,this⟩:=A7p k0 k1 k2 k3 k7 k8 k6
  rw[if_pos (by omega)]at this
  exact⟨by omega,by omega,by omega,by omega,by omega,by simp only [List.length_append,List.length_cons,List.length_nil];omega,this⟩
 case g21 =>
  intro i a b h0 h1 h2 h3 h4 h5 h6 d j k t k0 k1 k2 k3 k4 k5 k6 k7 k8 k9
  obtain⟨q1,q2,this⟩:=A7p k0 k1 k2 k3 k7 k8 k6
  rw[if_neg (by omega)]at this
  exact⟨by omega,by omega,by omega,by omega,by omega,by omega,this⟩
 case g22 =>
  intro i a b h0 h1 h2 h3 h4 h5 h6 d j k t k0 k1 k2 k3 k4 k5 k6 k7
  obtain⟨e1,e2⟩:=Aa2 h h6 h4 h5
  rw[e1,e2]at k6 k7
  rw[B5e k7 k6,B18]
 all_goals
  intros
  simp only [List.length_mergeSort,List.length_map,List.length_cons,List.length_nil,Go.maxLen]at *
  omega
end Go.Proofs.YtphcaholhacnpaaGreat
namespace Go.Proofs.YtphcaholhacnpaaGreat
open Go.E
set_option maxRecDepth 100000
set_option maxHeartbeats 4000000
def Bh3(s:Nat→List Int):List AV:=E2 c3 16 s
def tnS(U:Nat→List Run)(r:Nat):List Int:=C9 (U r)
def zT(A B:Nat→List Int)(r:Nat):List Run:=A4s (A r) (B r)
def A7q(A B:Nat→List Int):Prop:=∀ r:Nat,r < 16→(A r).length=(B r).length
def Ba2(ps:List Past)(i:Int)(A B:Nat→List Int):Prop:=0≤i∧i≤ps.length∧A7q A B∧A5r ps i (zT A B)
def decMa(ps:List Past)(i:Int)(A B:Nat→List Int):Nat:=(ps.length-i).toNat
def Ba3(ps:List Past)(i j:Int)(A B:Nat→List Int):Prop:=0≤j∧j≤(ps[i.toNat]!).vec.length∧j≤16∧A7q A B∧V1 ps i j (zT A B)
def decMb(ps:List Past)(i j:Int)(A B:Nat→List Int):Nat:=((ps[i.toNat]!).vec.length-j).toNat
def B5g(ps:List Past)(i j:Int)(A B:Nat→List Int):Prop:=0≤j∧j≤(ps[i.toNat]!).cloud.length∧A7q A B∧P3 ps i j (zT A B)
def decMc(ps:List Past)(i j:Int)(A B:Nat→List Int):Nat:=((ps[i.toNat]!).cloud.length-j).toNat
def An6(U:Nat→List Run)(r:Int)(S:Nat→List Int):Prop:=∀ k:Nat,(k:Int) < r→S k=tnS (D5 U) k
def Ba4(A2 B2:Nat→List Int)(r:Int)(A B S:Nat→List Int):Prop:=A=A2∧B=B2∧0≤r∧r≤16∧An6 (zT A2 B2) r S
def decMd(r:Int)(A B S:Nat→List Int):Nat:=(16-r).toNat
theorem B7n{A B:Nat→List Int}{k:Nat}{x y:Int}(h:(A k).length=(B k).length)(r:Nat):zT (J8 A k (A k++[x])) (J8 B k (B k++[y])) r=J8 (zT A B) k (zT A B k++[⟨x,y⟩]) r:=by
 unfold zT J8
 by_cases e:r=k
 ·rw[if_pos e,if_pos e,if_pos e]
  unfold A4s
  rw[List.zipWith_append h]
  rfl
 ·rw[if_neg e,if_neg e,if_neg e]
theorem Aa3{A B:Nat→List Int}{k:Nat}{x y:Int}(h:A7q A B):A7q (J8 A k (A k++[x])) (J8 B k (B k++[y])):=by
 intro r hr
 have:=h r hr
 unfold J8
 by_cases e:r=k
 ·rw[if_pos e,if_pos e,List.length_append,List.length_append];subst e;simp only [List.length_cons,List.length_nil];omega
 ·rw[if_neg e,if_neg e];exact this
theorem B1e{A B:Nat→List Int}(h:A7q A B){r:Nat}(hr:r < 16):(A r).length=(zT A B r).length∧(B r).length=(zT A B r).length:=by
 have:=h r hr
 unfold zT A4s
 rw[List.length_zipWith]
 omega
theorem Ag6{U:Nat→List Run}{r:Int}{S:Nat→List Int}(h0:0≤r)(h:An6 U r S):An6 U (r+1) (J8 S r.toNat (tnS (D5 U) r.toNat)):=by
 intro k hk
 unfold J8
 by_cases e:k=r.toNat
 ·rw[if_pos e,e]
 ·rw[if_neg e];exact h k (by omega)
theorem B7o (ps : List Past) (hb : A08 ps * 16 ≤ 140737488351232) : Con Tryz.prog 162 [.sl (ps.map c26)] (.agg (Bh3 (tnS (D5 (A8 ps))))) :=
  by
  refine lN 0 c26 (ps) Tryz.func162 fun hl_0=>sC A6 [.cell 2 144] 116 Tryz.func162 ?_
  intro e0 cx
  refine sq<|rG cx [0,2] [2] z0<|sn<|sq<|rG cx [0,2,3,4] [2,3,4] z0<|sn<|sq<|sq<|rG cx [0,2,3,4,5] [2,3,4] z0<|sn<|bL 0<|A1a 3 3 1 100300 16 (σ':=⟨[(0,.sl (List.map c26 ps)),(2,.ptr (2) (0) (0) (0)),(3,.ptr (3) (0) (0) (0)),(4,.ptr (4) (0) (0) (0)),(5,.i .i64 ((0:Int)))],[(2,⟨0,144,.var [.nl,.nl,.nl,.nl,.nl,.nl,.nl,.nl,.nl,.nl,.nl,.nl,.nl,.nl,.nl,.nl]⟩),(3,⟨0,142,.var (F9 100300 16)⟩),(4,⟨0,142,.arr [.nl,.nl,.nl,.nl,.nl,.nl,.nl,.nl,.nl,.nl,.nl,.nl,.nl,.nl,.nl,.nl]⟩)]++C1 100300 3 1 16 (c3) (fun x ↦ [])⟩) (by kernel_rfl)<|A1a 4 3 1 100400 16 (σ':=⟨[(0,.sl (List.map c26 ps)),(2,.ptr (2) (0) (0) (0)),(3,.ptr (3) (0) (0) (0)),(4,.ptr (4) (0) (0) (0)),(5,.i .i64 ((0:Int)))],[(2,⟨0,144,.var [.nl,.nl,.nl,.nl,.nl,.nl,.nl,.nl,.nl,.nl,.nl,.nl,.nl,.nl,.nl,.nl]⟩),(3,⟨0,142,.var (F9 100300 16)⟩),(4,⟨0,142,.var (F9 100400 16)⟩)]++C1 100300 3 1 16 (c3) (fun x ↦ [])++C1 100400 3 1 16 (c3) (fun x ↦ [])⟩) (by kernel_rfl)<|sL (X:=Int×(Nat→List Int)×(Nat→List Int)) (fun x=>⟨[(0,.sl (List.map c26 ps)),(2,.ptr (2) (0) (0) (0)),(3,.ptr (3) (0) (0) (0)),(4,.ptr (4) (0) (0) (0)),(5,.i .i64 (x.1))],[(2,⟨0,144,.var [.nl,.nl,.nl,.nl,.nl,.nl,.nl,.nl,.nl,.nl,.nl,.nl,.nl,.nl,.nl,.nl]⟩),(3,⟨0,142,.var (F9 100300 16)⟩),(4,⟨0,142,.var (F9 100400 16)⟩)]++C1 100300 3 1 16 (c3) (x.2.1)++C1 100400 3 1 16 (c3) (x.2.2)⟩) (fun x ↦ decMa ps x.1 x.2.1 x.2.2) (fun x ↦ Ba2 ps x.1 x.2.1 x.2.2) [0,2,3,4,5] ([2,3,4]++List.range' 100300 16++List.range' 100400 16) (((0:Int),fun x ↦ [],fun x ↦ [])) (show Ba2 ps (0:Int) (fun x ↦ []) fun x ↦ []from ?g0) ?_;rotate_left
  rintro⟨i0,A1,B2⟩ h_3
  obtain⟨hh4,hh5,h6,h7⟩:0≤i0∧i0≤(↑ps.length:Int)∧A7q A1 B2∧A5r ps i0 (zT A1 B2):=h_3
  refine sq<|rD cx [0,2,3,4,5,14] ([2,3,4]++List.range' 100300 16++List.range' 100400 16) (tL 2 c26 ps (zB 3 (i0 <(↑ps.length:Int)))) (fun h8=>?_) fun h8=>?_
  refine sK<|sn<|sq<|bL 1<|sq<|sq<|rG cx [0,2,3,4,5,6] ([2,3,4]++List.range' 100300 16++List.range' 100400 16) z0<|sn<|bL 2<|sL (X:=Int×(Nat→List Int)×(Nat→List Int)) (fun x=>⟨[(0,.sl (List.map c26 ps)),(2,.ptr (2) (0) (0) (0)),(3,.ptr (3) (0) (0) (0)),(4,.ptr (4) (0) (0) (0)),(5,.i .i64 (i0)),(6,.i .i64 (x.1))],[(2,⟨0,144,.var [.nl,.nl,.nl,.nl,.nl,.nl,.nl,.nl,.nl,.nl,.nl,.nl,.nl,.nl,.nl,.nl]⟩),(3,⟨0,142,.var (F9 100300 16)⟩),(4,⟨0,142,.var (F9 100400 16)⟩)]++C1 100300 3 1 16 (c3) (x.2.1)++C1 100400 3 1 16 (c3) (x.2.2)⟩) (fun x ↦ decMb ps i0 x.1 x.2.1 x.2.2) (fun x ↦ Ba3 ps i0 x.1 x.2.1 x.2.2) [0,2,3,4,5,6] ([2,3,4]++List.range' 100300 16++List.range' 100400 16) (((0:Int),A1,B2)) (show Ba3 ps i0 (0:Int) A1 B2 from ?g1) ?_;rotate_left
  rintro⟨j9,A10,B11⟩ h_12
  obtain⟨h13,h14,h15,h16,h17⟩:0≤j9∧j9≤(↑ps[i0.toNat]!.vec.length:Int)∧j9≤16∧A7q A10 B11∧V1 ps i0 j9 (zT A10 B11):=h_12
  refine sq<|sq<|B1 (σ':=⟨[(0,.sl (List.map c26 ps)),(2,.ptr (2) (0) (0) (0)),(3,.ptr (3) (0) (0) (0)),(4,.ptr (4) (0) (0) (0)),(5,.i .i64 (i0)),(6,.i .i64 (j9)),(28,.b (decide (j9 <(↑ps[i0.toNat]!.vec.length:Int)∧j9 <(16:Int))))],[(2,⟨0,144,.var [.nl,.nl,.nl,.nl,.nl,.nl,.nl,.nl,.nl,.nl,.nl,.nl,.nl,.nl,.nl,.nl]⟩),(3,⟨0,142,.var (F9 100300 16)⟩),(4,⟨0,142,.var (F9 100400 16)⟩)]++C1 100300 3 1 16 (c3) (A10)++C1 100400 3 1 16 (c3) (B11)⟩) ?_ ?_
  refine A5 (j9 <(↑ps[i0.toNat]!.vec.length:Int)) (fun h_19=>?_) (fun h_19=>?_)
  refine rG cx [0,2,3,4,5,6,28] ([2,3,4]++List.range' 100300 16++List.range' 100400 16) (fA (0≤i0) (fG c26 ps i0.toNat (fR 2 (tL 6 c3 ps[i0.toNat]!.vec (tT 7 (A4 h_19) (tB 10 (j9 <(16:Int)) (tD 11 (decide (j9 <(16:Int))) (j9 <(↑ps[i0.toNat]!.vec.length:Int)∧j9 <(16:Int)) (by simp only [eq_true h_19,tsl]) (oR 3 (c26 ps[i0.toNat]!) z0)))))))) ?_
  exact⟨rfl,by kernel_rfl⟩
  refine rG cx [0,2,3,4,5,6,28] ([2,3,4]++List.range' 100300 16++List.range' 100400 16) (fA (0≤i0) (fG c26 ps i0.toNat (fR 2 (tL 6 c3 ps[i0.toNat]!.vec (tT 7 (A0 h_19) (tD 11 false (j9 <(↑ps[i0.toNat]!.vec.length:Int)∧j9 <(16:Int)) (by simp only [eq_false h_19,tsl]) (oR 3 (c26 ps[i0.toNat]!) z0))))))) ?_
  exact⟨rfl,by kernel_rfl⟩
  refine sn<|dC (j9 <(↑ps[i0.toNat]!.vec.length:Int)∧j9 <(16:Int)) (fun h20=>?_) fun h20=>?_
  refine sK<|sn<|sq<|bL 3<|sq<|B4f (F:=fun kx=>⟨[(0,.sl (List.map c26 ps)),(2,.ptr (2) (0) (0) (0)),(3,.ptr (3) (0) (0) (0)),(4,.ptr (4) (0) (0) (0)),(5,.i .i64 (i0)),(6,.i .i64 (kx)),(28,.b (decide (kx <(↑ps[i0.toNat]!.vec.length:Int)∧kx <(16:Int))))],[(2,⟨0,144,.var [.nl,.nl,.nl,.nl,.nl,.nl,.nl,.nl,.nl,.nl,.nl,.nl,.nl,.nl,.nl,.nl]⟩),(3,⟨0,142,.var (F9 100300 16)⟩),(4,⟨0,142,.var (F9 100400 16)⟩)]++C1 100300 3 1 16 (c3) (A10)++C1 100400 3 1 16 (c3) (B11)⟩) (G:=fun kx=>⟨[(0,.sl (List.map c26 ps)),(2,.ptr (2) (0) (0) (0)),(3,.ptr (3) (0) (0) (0)),(4,.ptr (4) (0) (0) (0)),(5,.i .i64 (i0)),(6,.i .i64 (kx))],[(2,⟨0,144,.var [.nl,.nl,.nl,.nl,.nl,.nl,.nl,.nl,.nl,.nl,.nl,.nl,.nl,.nl,.nl,.nl]⟩),(3,⟨0,142,.var (F9 100300 16)⟩),(4,⟨0,142,.var (F9 100400 16)⟩)]++C1 100300 3 1 16 (c3) (J8 A10 kx.toNat (A10 kx.toNat++[(1:Int)]))++C1 100400 3 1 16 (c3) (B11)⟩) (A:=fun kx=>(0≤kx)∧(kx <(↑(16:Nat):Int))∧(3=(3:Nat))∧((1:Nat)=1)∧([AV.i .i64 (0:Int)].length=(1:Nat))∧(∀(r:List AV),r∈List.map c3 [(1:Int)]→r.length=1)∧((List.map c3 (A10 kx.toNat)).length+(List.map c3 [(1:Int)]).length≤maxLen)∧(((List.map c3 (A10 kx.toNat)).length+(List.map c3 [(1:Int)]).length)*(8:Nat)≤(140737488355328:Nat))∧(List.map c3 (A10 kx.toNat)++List.map c3 [(1:Int)]=List.map c3 (A10 kx.toNat++[(1:Int)]))∧(0≤kx)∧(kx <(↑(16:Nat):Int))) cx (fun kx=>[(5,{ rows:=some (List.map c3 (A10 kx.toNat++[(1:Int)])) })]) [0,2,3,4,5,6] ([2,3,4]++List.range' 100300 16++List.range' 100400 16) (j9) (by(with_reducible assumption)) (by omega) (by kernel_rfl) (by kernel_rfl) ⟨(by show _=_;kernel_rfl),(by show _=_;kernel_rfl),(by show _=_;kernel_rfl),(by show _=_;kernel_rfl),(by show _=_;kernel_rfl),(by show _=_;kernel_rfl),(by show _=_;kernel_rfl),(by show _=_;kernel_rfl),(by show _=_;kernel_rfl),(by show _=_;kernel_rfl),(by show _=_;kernel_rfl),(by show _=_;kernel_rfl),(by show _=_;kernel_rfl),(by show _=_;kernel_rfl),(by show _=_;kernel_rfl),(by show _=_;kernel_rfl)⟩ ⟨(by(with_reducible assumption)),(by omega),(by kernel_rfl),(by kernel_rfl),(by kernel_rfl),(by(with_reducible refine M6 (fun _=>?_) _;kernel_rfl)),?g2,?g3,(by(with_reducible refine X3 ?_;kernel_rfl)),(by(with_reducible assumption)),(by omega)⟩ ?_;rotate_left 2
  refine sn<|Z2 (F:=fun kx=>⟨[(0,.sl (List.map c26 ps)),(2,.ptr (2) (0) (0) (0)),(3,.ptr (3) (0) (0) (0)),(4,.ptr (4) (0) (0) (0)),(5,.i .i64 (i0)),(6,.i .i64 (kx))],[(2,⟨0,144,.var [.nl,.nl,.nl,.nl,.nl,.nl,.nl,.nl,.nl,.nl,.nl,.nl,.nl,.nl,.nl,.nl]⟩),(3,⟨0,142,.var (F9 100300 16)⟩),(4,⟨0,142,.var (F9 100400 16)⟩)]++C1 100300 3 1 16 (c3) (J8 A10 kx.toNat (A10 kx.toNat++[(1:Int)]))++C1 100400 3 1 16 (c3) (B11)⟩) (G:=fun kx=>⟨[(0,.sl (List.map c26 ps)),(2,.ptr (2) (0) (0) (0)),(3,.ptr (3) (0) (0) (0)),(4,.ptr (4) (0) (0) (0)),(5,.i .i64 (i0)),(6,.i .i64 (kx))],[(2,⟨0,144,.var [.nl,.nl,.nl,.nl,.nl,.nl,.nl,.nl,.nl,.nl,.nl,.nl,.nl,.nl,.nl,.nl]⟩),(3,⟨0,142,.var (F9 100300 16)⟩),(4,⟨0,142,.var (F9 100400 16)⟩)]++C1 100300 3 1 16 (c3) (J8 A10 kx.toNat (A10 kx.toNat++[(1:Int)]))++C1 100400 3 1 16 (c3) (J8 B11 kx.toNat (B11 kx.toNat++[ps[i0.toNat]!.vec[kx.toNat]!]))⟩) (A:=fun kx=>(0≤kx)∧(kx <(↑(16:Nat):Int))∧(0≤i0)∧((List.map c26 ps)[i0.toNat]?=some (c26 ps[i0.toNat]!))∧((c26 ps[i0.toNat]!).length=(2:Nat))∧(0≤kx)∧((List.map c3 ps[i0.toNat]!.vec)[kx.toNat]?=some (c3 ps[i0.toNat]!.vec[kx.toNat]!))∧((c3 ps[i0.toNat]!.vec[kx.toNat]!).length=(1:Nat))∧(3=(3:Nat))∧((1:Nat)=1)∧([AV.i .i64 (0:Int)].length=(1:Nat))∧(∀(r:List AV),r∈List.map c3 [ps[i0.toNat]!.vec[kx.toNat]!]→r.length=1)∧((List.map c3 (B11 kx.toNat)).length+(List.map c3 [ps[i0.toNat]!.vec[kx.toNat]!]).length≤maxLen)∧(((List.map c3 (B11 kx.toNat)).length+(List.map c3 [ps[i0.toNat]!.vec[kx.toNat]!]).length)*(8:Nat)≤(140737488355328:Nat))∧(List.map c3 (B11 kx.toNat)++List.map c3 [ps[i0.toNat]!.vec[kx.toNat]!]=List.map c3 (B11 kx.toNat++[ps[i0.toNat]!.vec[kx.toNat]!]))∧(0≤kx)∧(kx <(↑(16:Nat):Int))) cx (fun kx=>[(6,{ row:=(c26 ps[i0.toNat]!) }),(10,{ row:=(c3 ps[i0.toNat]!.vec[kx.toNat]!) }),(13,{ rows:=some (List.map c3 (B11 kx.toNat++[ps[i0.toNat]!.vec[kx.toNat]!])) })]) [0,2,3,4,5,6] ([2,3,4]++List.range' 100300 16++List.range' 100400 16) (j9) (by(with_reducible assumption)) (by omega) (by kernel_rfl) (by kernel_rfl) ⟨(by show _=_;kernel_rfl),(by show _=_;kernel_rfl),(by show _=_;kernel_rfl),(by show _=_;kernel_rfl),(by show _=_;kernel_rfl),(by show _=_;kernel_rfl),(by show _=_;kernel_rfl),(by show _=_;kernel_rfl),(by show _=_;kernel_rfl),(by show _=_;kernel_rfl),(by show _=_;kernel_rfl),(by show _=_;kernel_rfl),(by show _=_;kernel_rfl),(by show _=_;kernel_rfl),(by show _=_;kernel_rfl),(by show _=_;kernel_rfl)⟩ ⟨(by(with_reducible assumption)),(by omega),(by(with_reducible assumption)),(by(with_reducible refine F3 ?_;omega)),(by kernel_rfl),(by(with_reducible assumption)),(by(with_reducible refine F3 ?_;omega)),(by kernel_rfl),(by kernel_rfl),(by kernel_rfl),(by kernel_rfl),(by(with_reducible refine M6 (fun _=>?_) _;kernel_rfl)),?g4,?g5,(by(with_reducible refine X3 ?_;kernel_rfl)),(by(with_reducible assumption)),(by omega)⟩ ?_;rotate_left 2
  refine bN<|sn<|rG cx [0,2,3,4,5,6] ([2,3,4]++List.range' 100300 16++List.range' 100400 16) (tW 1 (j9+1) z0)<|sn<|nX ((j9+1,J8 A10 j9.toNat (A10 j9.toNat++[(1:Int)]),J8 B11 j9.toNat (B11 j9.toNat++[ps[i0.toNat]!.vec[j9.toNat]!]))) (show((↑ps[i0.toNat]!.vec.length:Int)-(j9+1)).toNat <((↑ps[i0.toNat]!.vec.length:Int)-j9).toNat from(by omega)) (show Ba3 ps i0 (j9+1) (J8 A10 j9.toNat (A10 j9.toNat++[(1:Int)])) (J8 B11 j9.toNat (B11 j9.toNat++[ps[i0.toNat]!.vec[j9.toNat]!]))from ?g6);rotate_left
  refine eX 2<|nE<|nE<|bH<|sn<|sq<|rG cx [0,2,3,4,5,7] ([2,3,4]++List.range' 100300 16++List.range' 100400 16) z0<|sn<|bL 4<|sL (X:=Int×(Nat→List Int)×(Nat→List Int)) (fun x=>⟨[(0,.sl (List.map c26 ps)),(2,.ptr (2) (0) (0) (0)),(3,.ptr (3) (0) (0) (0)),(4,.ptr (4) (0) (0) (0)),(5,.i .i64 (i0)),(7,.i .i64 (x.1))],[(2,⟨0,144,.var [.nl,.nl,.nl,.nl,.nl,.nl,.nl,.nl,.nl,.nl,.nl,.nl,.nl,.nl,.nl,.nl]⟩),(3,⟨0,142,.var (F9 100300 16)⟩),(4,⟨0,142,.var (F9 100400 16)⟩)]++C1 100300 3 1 16 (c3) (x.2.1)++C1 100400 3 1 16 (c3) (x.2.2)⟩) (fun x ↦ decMc ps i0 x.1 x.2.1 x.2.2) (fun x ↦ B5g ps i0 x.1 x.2.1 x.2.2) [0,2,3,4,5,7] ([2,3,4]++List.range' 100300 16++List.range' 100400 16) (((0:Int),A10,B11)) (show B5g ps i0 (0:Int) A10 B11 from ?g7) ?_;rotate_left
  rintro⟨j21,A22,B23⟩ h_24
  obtain⟨h25,h26,h27,h28⟩:0≤j21∧j21≤(↑ps[i0.toNat]!.cloud.length:Int)∧A7q A22 B23∧P3 ps i0 j21 (zT A22 B23):=h_24
  refine sq<|rD cx [0,2,3,4,5,7,60] ([2,3,4]++List.range' 100300 16++List.range' 100400 16) (fA (0≤i0) (fG c26 ps i0.toNat (fR 2 (tL 6 A9 ps[i0.toNat]!.cloud (oR 3 (c26 ps[i0.toNat]!) (zB 7 (j21 <(↑ps[i0.toNat]!.cloud.length:Int)))))))) (fun h29=>?_) fun h29=>?_
  refine sK<|sn<|sq<|bL 5<|sq<|rG cx [0,2,3,4,5,7,8] ([2,3,4]++List.range' 100300 16++List.range' 100400 16++[8]) (fA (0≤i0) (fG c26 ps i0.toNat (fR 2 (fA (0≤j21) (fG A9 ps[i0.toNat]!.cloud j21.toNat (fR 3 (fN 3 3 (oR 2 (c26 ps[i0.toNat]!) (oR 6 (A9 ps[i0.toNat]!.cloud[j21.toNat]!) z0)))))))))<|sn<|sq<|B1 (σ':=⟨[(0,.sl (List.map c26 ps)),(2,.ptr (2) (0) (0) (0)),(3,.ptr (3) (0) (0) (0)),(4,.ptr (4) (0) (0) (0)),(5,.i .i64 (i0)),(7,.i .i64 (j21)),(8,.ptr (8) (0) (0) (0)),(78,.b (decide (0≤ps[i0.toNat]!.cloud[j21.toNat]!.rep∧ps[i0.toNat]!.cloud[j21.toNat]!.rep <(16:Int))))],[(2,⟨0,144,.var [.nl,.nl,.nl,.nl,.nl,.nl,.nl,.nl,.nl,.nl,.nl,.nl,.nl,.nl,.nl,.nl]⟩),(3,⟨0,142,.var (F9 100300 16)⟩),(4,⟨0,142,.var (F9 100400 16)⟩)]++C1 100300 3 1 16 (c3) (A22)++C1 100400 3 1 16 (c3) (B23)++[(8,⟨0,141,.var [.i .i64 (ps[i0.toNat]!.cloud[j21.toNat]!.rep),.i .i64 (ps[i0.toNat]!.cloud[j21.toNat]!.lo),.i .i64 (ps[i0.toNat]!.cloud[j21.toNat]!.hi)]⟩)]⟩) ?_ ?_
  refine A5 (0≤ps[i0.toNat]!.cloud[j21.toNat]!.rep) (fun h_31=>?_) (fun h_31=>?_)
  refine rG cx [0,2,3,4,5,7,8,78] ([2,3,4]++List.range' 100300 16++List.range' 100400 16++[8]) (tT 2 (A4 h_31) (tB 6 (ps[i0.toNat]!.cloud[j21.toNat]!.rep <(16:Int)) (tD 7 (decide (ps[i0.toNat]!.cloud[j21.toNat]!.rep <(16:Int))) (0≤ps[i0.toNat]!.cloud[j21.toNat]!.rep∧ps[i0.toNat]!.cloud[j21.toNat]!.rep <(16:Int)) (by simp only [eq_true h_31,tsl]) z0))) ?_
  exact⟨rfl,by kernel_rfl⟩
  refine rG cx [0,2,3,4,5,7,8,78] ([2,3,4]++List.range' 100300 16++List.range' 100400 16++[8]) (tT 2 (A0 h_31) (tD 7 false (0≤ps[i0.toNat]!.cloud[j21.toNat]!.rep∧ps[i0.toNat]!.cloud[j21.toNat]!.rep <(16:Int)) (by simp only [eq_false h_31,tsl]) z0)) ?_
  exact⟨rfl,by kernel_rfl⟩
  refine sn<|dC (0≤ps[i0.toNat]!.cloud[j21.toNat]!.rep∧ps[i0.toNat]!.cloud[j21.toNat]!.rep <(16:Int)) (fun h32=>?_) fun h32=>?_
  refine sq<|Z2 (F:=fun kx=>⟨[(0,.sl (List.map c26 ps)),(2,.ptr (2) (0) (0) (0)),(3,.ptr (3) (0) (0) (0)),(4,.ptr (4) (0) (0) (0)),(5,.i .i64 (i0)),(7,.i .i64 (j21)),(8,.ptr (8) (0) (0) (0)),(78,.b (decide (0≤kx∧kx <(16:Int))))],[(2,⟨0,144,.var [.nl,.nl,.nl,.nl,.nl,.nl,.nl,.nl,.nl,.nl,.nl,.nl,.nl,.nl,.nl,.nl]⟩),(3,⟨0,142,.var (F9 100300 16)⟩),(4,⟨0,142,.var (F9 100400 16)⟩)]++C1 100300 3 1 16 (c3) (A22)++C1 100400 3 1 16 (c3) (B23)++[(8,⟨0,141,.var [.i .i64 (kx),.i .i64 (ps[i0.toNat]!.cloud[j21.toNat]!.lo),.i .i64 (ps[i0.toNat]!.cloud[j21.toNat]!.hi)]⟩)]⟩) (G:=fun kx=>⟨[(0,.sl (List.map c26 ps)),(2,.ptr (2) (0) (0) (0)),(3,.ptr (3) (0) (0) (0)),(4,.ptr (4) (0) (0) (0)),(5,.i .i64 (i0)),(7,.i .i64 (j21)),(8,.ptr (8) (0) (0) (0))],[(2,⟨0,144,.var [.nl,.nl,.nl,.nl,.nl,.nl,.nl,.nl,.nl,.nl,.nl,.nl,.nl,.nl,.nl,.nl]⟩),(3,⟨0,142,.var (F9 100300 16)⟩),(4,⟨0,142,.var (F9 100400 16)⟩)]++C1 100300 3 1 16 (c3) (J8 A22 kx.toNat (A22 kx.toNat++[ps[i0.toNat]!.cloud[j21.toNat]!.lo]))++C1 100400 3 1 16 (c3) (B23)++[(8,⟨0,141,.var [.i .i64 (kx),.i .i64 (ps[i0.toNat]!.cloud[j21.toNat]!.lo),.i .i64 (ps[i0.toNat]!.cloud[j21.toNat]!.hi)]⟩)]⟩) (A:=fun kx=>(0≤kx)∧(kx <(↑(16:Nat):Int))∧(3=(3:Nat))∧((1:Nat)=1)∧([AV.i .i64 (0:Int)].length=(1:Nat))∧(∀(r:List AV),r∈List.map c3 [ps[i0.toNat]!.cloud[j21.toNat]!.lo]→r.length=1)∧((List.map c3 (A22 kx.toNat)).length+(List.map c3 [ps[i0.toNat]!.cloud[j21.toNat]!.lo]).length≤maxLen)∧(((List.map c3 (A22 kx.toNat)).length+(List.map c3 [ps[i0.toNat]!.cloud[j21.toNat]!.lo]).length)*(8:Nat)≤(140737488355328:Nat))∧(List.map c3 (A22 kx.toNat)++List.map c3 [ps[i0.toNat]!.cloud[j21.toNat]!.lo]=List.map c3 (A22 kx.toNat++[ps[i0.toNat]!.cloud[j21.toNat]!.lo]))∧(0≤kx)∧(kx <(↑(16:Nat):Int))) cx (fun kx=>[(9,{ rows:=some (List.map c3 (A22 kx.toNat++[ps[i0.toNat]!.cloud[j21.toNat]!.lo])) })]) [0,2,3,4,5,7,8] ([2,3,4]++List.range' 100300 16++List.range' 100400 16++[8]) (ps[i0.toNat]!.cloud[j21.toNat]!.rep) (by omega) (by omega) (by kernel_rfl) (by kernel_rfl) ⟨(by show _=_;kernel_rfl),(by show _=_;kernel_rfl),(by show _=_;kernel_rfl),(by show _=_;kernel_rfl),(by show _=_;kernel_rfl),(by show _=_;kernel_rfl),(by show _=_;kernel_rfl),(by show _=_;kernel_rfl),(by show _=_;kernel_rfl),(by show _=_;kernel_rfl),(by show _=_;kernel_rfl),(by show _=_;kernel_rfl),(by show _=_;kernel_rfl),(by show _=_;kernel_rfl),(by show _=_;kernel_rfl),(by show _=_;kernel_rfl)⟩ ⟨(by omega),(by omega),(by kernel_rfl),(by kernel_rfl),(by kernel_rfl),(by(with_reducible refine M6 (fun _=>?_) _;kernel_rfl)),?g8,?g9,(by(with_reducible refine X3 ?_;kernel_rfl)),(by omega),(by omega)⟩ ?_;rotate_left 2
  refine sn<|Z2 (F:=fun kx=>⟨[(0,.sl (List.map c26 ps)),(2,.ptr (2) (0) (0) (0)),(3,.ptr (3) (0) (0) (0)),(4,.ptr (4) (0) (0) (0)),(5,.i .i64 (i0)),(7,.i .i64 (j21)),(8,.ptr (8) (0) (0) (0))],[(2,⟨0,144,.var [.nl,.nl,.nl,.nl,.nl,.nl,.nl,.nl,.nl,.nl,.nl,.nl,.nl,.nl,.nl,.nl]⟩),(3,⟨0,142,.var (F9 100300 16)⟩),(4,⟨0,142,.var (F9 100400 16)⟩)]++C1 100300 3 1 16 (c3) (J8 A22 kx.toNat (A22 kx.toNat++[ps[i0.toNat]!.cloud[j21.toNat]!.lo]))++C1 100400 3 1 16 (c3) (B23)++[(8,⟨0,141,.var [.i .i64 (kx),.i .i64 (ps[i0.toNat]!.cloud[j21.toNat]!.lo),.i .i64 (ps[i0.toNat]!.cloud[j21.toNat]!.hi)]⟩)]⟩) (G:=fun kx=>⟨[(0,.sl (List.map c26 ps)),(2,.ptr (2) (0) (0) (0)),(3,.ptr (3) (0) (0) (0)),(4,.ptr (4) (0) (0) (0)),(5,.i .i64 (i0)),(7,.i .i64 (j21))],[(2,⟨0,144,.var [.nl,.nl,.nl,.nl,.nl,.nl,.nl,.nl,.nl,.nl,.nl,.nl,.nl,.nl,.nl,.nl]⟩),(3,⟨0,142,.var (F9 100300 16)⟩),(4,⟨0,142,.var (F9 100400 16)⟩)]++C1 100300 3 1 16 (c3) (J8 A22 kx.toNat (A22 kx.toNat++[ps[i0.toNat]!.cloud[j21.toNat]!.lo]))++C1 100400 3 1 16 (c3) (J8 B23 kx.toNat (B23 kx.toNat++[ps[i0.toNat]!.cloud[j21.toNat]!.hi]))⟩) (A:=fun kx=>(0≤kx)∧(kx <(↑(16:Nat):Int))∧(3=(3:Nat))∧((1:Nat)=1)∧([AV.i .i64 (0:Int)].length=(1:Nat))∧(∀(r:List AV),r∈List.map c3 [ps[i0.toNat]!.cloud[j21.toNat]!.hi]→r.length=1)∧((List.map c3 (B23 kx.toNat)).length+(List.map c3 [ps[i0.toNat]!.cloud[j21.toNat]!.hi]).length≤maxLen)∧(((List.map c3 (B23 kx.toNat)).length+(List.map c3 [ps[i0.toNat]!.cloud[j21.toNat]!.hi]).length)*(8:Nat)≤(140737488355328:Nat))∧(List.map c3 (B23 kx.toNat)++List.map c3 [ps[i0.toNat]!.cloud[j21.toNat]!.hi]=List.map c3 (B23 kx.toNat++[ps[i0.toNat]!.cloud[j21.toNat]!.hi]))∧(0≤kx)∧(kx <(↑(16:Nat):Int))) cx (fun kx=>[(9,{ rows:=some (List.map c3 (B23 kx.toNat++[ps[i0.toNat]!.cloud[j21.toNat]!.hi])) })]) [0,2,3,4,5,7] ([2,3,4]++List.range' 100300 16++List.range' 100400 16) (ps[i0.toNat]!.cloud[j21.toNat]!.rep) (by omega) (by omega) (by kernel_rfl) (by kernel_rfl) ⟨(by show _=_;kernel_rfl),(by show _=_;kernel_rfl),(by show _=_;kernel_rfl),(by show _=_;kernel_rfl),(by show _=_;kernel_rfl),(by show _=_;kernel_rfl),(by show _=_;kernel_rfl),(by show _=_;kernel_rfl),(by show _=_;kernel_rfl),(by show _=_;kernel_rfl),(by show _=_;kernel_rfl),(by show _=_;kernel_rfl),(by show _=_;kernel_rfl),(by show _=_;kernel_rfl),(by show _=_;kernel_rfl),(by show _=_;kernel_rfl)⟩ ⟨(by omega),(by omega),(by kernel_rfl),(by kernel_rfl),(by kernel_rfl),(by(with_reducible refine M6 (fun _=>?_) _;kernel_rfl)),?g10,?g11,(by(with_reducible refine X3 ?_;kernel_rfl)),(by omega),(by omega)⟩ ?_;rotate_left 2
  refine bN<|sn<|rG cx [0,2,3,4,5,7] ([2,3,4]++List.range' 100300 16++List.range' 100400 16) (tT 1 (B4 (by omega) ?g12:AV.i .i64 (IntKind.i64.wrap (j21+1))=AV.i .i64 (j21+1)) z0) ?_;rotate_left
  refine sn<|nX ((j21+1,J8 A22 ps[i0.toNat]!.cloud[j21.toNat]!.rep.toNat (A22 ps[i0.toNat]!.cloud[j21.toNat]!.rep.toNat++[ps[i0.toNat]!.cloud[j21.toNat]!.lo]),J8 B23 ps[i0.toNat]!.cloud[j21.toNat]!.rep.toNat (B23 ps[i0.toNat]!.cloud[j21.toNat]!.rep.toNat++[ps[i0.toNat]!.cloud[j21.toNat]!.hi]))) (show((↑ps[i0.toNat]!.cloud.length:Int)-(j21+1)).toNat <((↑ps[i0.toNat]!.cloud.length:Int)-j21).toNat from(by omega)) (show B5g ps i0 (j21+1) (J8 A22 ps[i0.toNat]!.cloud[j21.toNat]!.rep.toNat (A22 ps[i0.toNat]!.cloud[j21.toNat]!.rep.toNat++[ps[i0.toNat]!.cloud[j21.toNat]!.lo])) (J8 B23 ps[i0.toNat]!.cloud[j21.toNat]!.rep.toNat (B23 ps[i0.toNat]!.cloud[j21.toNat]!.rep.toNat++[ps[i0.toNat]!.cloud[j21.toNat]!.hi]))from ?g13);rotate_left
  refine sK<|bN<|sn<|rG cx [0,2,3,4,5,7] ([2,3,4]++List.range' 100300 16++List.range' 100400 16) (tT 1 (B4 (by omega) ?g14:AV.i .i64 (IntKind.i64.wrap (j21+1))=AV.i .i64 (j21+1)) z0) ?_;rotate_left
  refine sn<|nX ((j21+1,A22,B23)) (show((↑ps[i0.toNat]!.cloud.length:Int)-(j21+1)).toNat <((↑ps[i0.toNat]!.cloud.length:Int)-j21).toNat from(by omega)) (show B5g ps i0 (j21+1) A22 B23 from ?g15);rotate_left
  refine eX 4<|nE<|nE<|bH<|bN<|sn<|rG cx [0,2,3,4,5] ([2,3,4]++List.range' 100300 16++List.range' 100400 16) (tW 1 (i0+1) z0)<|sn<|nX ((i0+1,A22,B23)) (show((↑ps.length:Int)-(i0+1)).toNat <((↑ps.length:Int)-i0).toNat from(by omega)) (show Ba2 ps (i0+1) A22 B23 from ?g16);rotate_left
  refine eX 0<|nE<|nE<|bH<|sn<|sq<|N8 (List.range' 100300 16) [0,2,3,4,5,14] ([2,3,4]++List.range' 100400 16) (σ':=⟨[(0,.sl (List.map c26 ps)),(2,.ptr (2) (0) (0) (0)),(3,.ptr (3) (0) (0) (0)),(4,.ptr (4) (0) (0) (0)),(5,.i .i64 (i0)),(14,.b (decide (i0 <(↑ps.length:Int))))],[(2,⟨0,144,.var [.nl,.nl,.nl,.nl,.nl,.nl,.nl,.nl,.nl,.nl,.nl,.nl,.nl,.nl,.nl,.nl]⟩),(3,⟨0,142,.var [.sl (List.map c3 (A1 (0))),.sl (List.map c3 (A1 (1))),.sl (List.map c3 (A1 (2))),.sl (List.map c3 (A1 (3))),.sl (List.map c3 (A1 (4))),.sl (List.map c3 (A1 (5))),.sl (List.map c3 (A1 (6))),.sl (List.map c3 (A1 (7))),.sl (List.map c3 (A1 (8))),.sl (List.map c3 (A1 (9))),.sl (List.map c3 (A1 (10))),.sl (List.map c3 (A1 (11))),.sl (List.map c3 (A1 (12))),.sl (List.map c3 (A1 (13))),.sl (List.map c3 (A1 (14))),.sl (List.map c3 (A1 (15)))]⟩),(4,⟨0,142,.var (F9 100400 16)⟩)]++C1 100400 3 1 16 (c3) (B2)⟩) (by kernel_rfl)<|G8 3 ⟨0,142,.var [.sl (List.map c3 (A1 (0))),.sl (List.map c3 (A1 (1))),.sl (List.map c3 (A1 (2))),.sl (List.map c3 (A1 (3))),.sl (List.map c3 (A1 (4))),.sl (List.map c3 (A1 (5))),.sl (List.map c3 (A1 (6))),.sl (List.map c3 (A1 (7))),.sl (List.map c3 (A1 (8))),.sl (List.map c3 (A1 (9))),.sl (List.map c3 (A1 (10))),.sl (List.map c3 (A1 (11))),.sl (List.map c3 (A1 (12))),.sl (List.map c3 (A1 (13))),.sl (List.map c3 (A1 (14))),.sl (List.map c3 (A1 (15)))]⟩ [.sl (List.map c3 (A1 (0))),.sl (List.map c3 (A1 (1))),.sl (List.map c3 (A1 (2))),.sl (List.map c3 (A1 (3))),.sl (List.map c3 (A1 (4))),.sl (List.map c3 (A1 (5))),.sl (List.map c3 (A1 (6))),.sl (List.map c3 (A1 (7))),.sl (List.map c3 (A1 (8))),.sl (List.map c3 (A1 (9))),.sl (List.map c3 (A1 (10))),.sl (List.map c3 (A1 (11))),.sl (List.map c3 (A1 (12))),.sl (List.map c3 (A1 (13))),.sl (List.map c3 (A1 (14))),.sl (List.map c3 (A1 (15)))] (E2 c3 16 A1) (σ':=⟨[(0,.sl (List.map c26 ps)),(2,.ptr (2) (0) (0) (0)),(3,.ptr (3) (0) (0) (0)),(4,.ptr (4) (0) (0) (0)),(5,.i .i64 (i0)),(14,.b (decide (i0 <(↑ps.length:Int))))],[(2,⟨0,144,.var [.nl,.nl,.nl,.nl,.nl,.nl,.nl,.nl,.nl,.nl,.nl,.nl,.nl,.nl,.nl,.nl]⟩),(3,⟨0,142,.arr (E2 c3 16 A1)⟩),(4,⟨0,142,.var (F9 100400 16)⟩)]++C1 100400 3 1 16 (c3) (B2)⟩) (by kernel_rfl) (by kernel_rfl) (by kernel_rfl) (by kernel_rfl) (ZLe.of_eq (by kernel_rfl)) (by kernel_rfl)<|N8 (List.range' 100400 16) [0,2,3,4,5,14] [2,3,4] (σ':=⟨[(0,.sl (List.map c26 ps)),(2,.ptr (2) (0) (0) (0)),(3,.ptr (3) (0) (0) (0)),(4,.ptr (4) (0) (0) (0)),(5,.i .i64 (i0)),(14,.b (decide (i0 <(↑ps.length:Int))))],[(2,⟨0,144,.var [.nl,.nl,.nl,.nl,.nl,.nl,.nl,.nl,.nl,.nl,.nl,.nl,.nl,.nl,.nl,.nl]⟩),(3,⟨0,142,.arr (E2 c3 16 A1)⟩),(4,⟨0,142,.var [.sl (List.map c3 (B2 (0))),.sl (List.map c3 (B2 (1))),.sl (List.map c3 (B2 (2))),.sl (List.map c3 (B2 (3))),.sl (List.map c3 (B2 (4))),.sl (List.map c3 (B2 (5))),.sl (List.map c3 (B2 (6))),.sl (List.map c3 (B2 (7))),.sl (List.map c3 (B2 (8))),.sl (List.map c3 (B2 (9))),.sl (List.map c3 (B2 (10))),.sl (List.map c3 (B2 (11))),.sl (List.map c3 (B2 (12))),.sl (List.map c3 (B2 (13))),.sl (List.map c3 (B2 (14))),.sl (List.map c3 (B2 (15)))]⟩)]⟩) (by kernel_rfl) ?_
  refine G8 4 ⟨0,142,.var [.sl (List.map c3 (B2 (0))),.sl (List.map c3 (B2 (1))),.sl (List.map c3 (B2 (2))),.sl (List.map c3 (B2 (3))),.sl (List.map c3 (B2 (4))),.sl (List.map c3 (B2 (5))),.sl (List.map c3 (B2 (6))),.sl (List.map c3 (B2 (7))),.sl (List.map c3 (B2 (8))),.sl (List.map c3 (B2 (9))),.sl (List.map c3 (B2 (10))),.sl (List.map c3 (B2 (11))),.sl (List.map c3 (B2 (12))),.sl (List.map c3 (B2 (13))),.sl (List.map c3 (B2 (14))),.sl (List.map c3 (B2 (15)))]⟩ [.sl (List.map c3 (B2 (0))),.sl (List.map c3 (B2 (1))),.sl (List.map c3 (B2 (2))),.sl (List.map c3 (B2 (3))),.sl (List.map c3 (B2 (4))),.sl (List.map c3 (B2 (5))),.sl (List.map c3 (B2 (6))),.sl (List.map c3 (B2 (7))),.sl (List.map c3 (B2 (8))),.sl (List.map c3 (B2 (9))),.sl (List.map c3 (B2 (10))),.sl (List.map c3 (B2 (11))),.sl (List.map c3 (B2 (12))),.sl (List.map c3 (B2 (13))),.sl (List.map c3 (B2 (14))),.sl (List.map c3 (B2 (15)))] (E2 c3 16 B2) (σ':=⟨[(0,.sl (List.map c26 ps)),(2,.ptr (2) (0) (0) (0)),(3,.ptr (3) (0) (0) (0)),(4,.ptr (4) (0) (0) (0)),(5,.i .i64 (i0)),(14,.b (decide (i0 <(↑ps.length:Int))))],[(2,⟨0,144,.var [.nl,.nl,.nl,.nl,.nl,.nl,.nl,.nl,.nl,.nl,.nl,.nl,.nl,.nl,.nl,.nl]⟩),(3,⟨0,142,.arr (E2 c3 16 A1)⟩),(4,⟨0,142,.arr (E2 c3 16 B2)⟩)]⟩) (by kernel_rfl) (by kernel_rfl) (by kernel_rfl) (by kernel_rfl) (ZLe.of_eq (by kernel_rfl)) (by kernel_rfl)<|rG cx [2,3,4,9] [2,3,4,9] z0<|sn<|sq<|sq<|rG cx [2,3,4,9,10] [2,3,4,9] z0<|sn<|bL 6<|G8 9 ⟨0,144,.var [.nl,.nl,.nl,.nl,.nl,.nl,.nl,.nl,.nl,.nl,.nl,.nl,.nl,.nl,.nl,.nl]⟩ [.nl,.nl,.nl,.nl,.nl,.nl,.nl,.nl,.nl,.nl,.nl,.nl,.nl,.nl,.nl,.nl] (E2 c3 16 fun x ↦ []) (σ':=⟨[(2,.ptr (2) (0) (0) (0)),(3,.ptr (3) (0) (0) (0)),(4,.ptr (4) (0) (0) (0)),(9,.ptr (9) (0) (0) (0)),(10,.i .i64 ((0:Int)))],[(2,⟨0,144,.var [.nl,.nl,.nl,.nl,.nl,.nl,.nl,.nl,.nl,.nl,.nl,.nl,.nl,.nl,.nl,.nl]⟩),(3,⟨0,142,.arr (E2 c3 16 A1)⟩),(4,⟨0,142,.arr (E2 c3 16 B2)⟩),(9,⟨0,144,.arr (E2 c3 16 fun x ↦ [])⟩)]⟩) (by kernel_rfl) (by kernel_rfl) (by kernel_rfl) (by kernel_rfl) (Ay7 c3 16) (by kernel_rfl)<|sL (X:=Int×(Nat→List Int)×(Nat→List Int)×(Nat→List Int)) (fun x=>⟨[(2,.ptr (2) (0) (0) (0)),(3,.ptr (3) (0) (0) (0)),(4,.ptr (4) (0) (0) (0)),(9,.ptr (9) (0) (0) (0)),(10,.i .i64 (x.1))],[(2,⟨0,144,.var [.nl,.nl,.nl,.nl,.nl,.nl,.nl,.nl,.nl,.nl,.nl,.nl,.nl,.nl,.nl,.nl]⟩),(3,⟨0,142,.arr (E2 c3 16 x.2.1)⟩),(4,⟨0,142,.arr (E2 c3 16 x.2.2.1)⟩),(9,⟨0,144,.arr (E2 c3 16 x.2.2.2)⟩)]⟩) (fun x ↦ decMd x.1 x.2.1 x.2.2.1 x.2.2.2) (fun x ↦ Ba4 A1 B2 x.1 x.2.1 x.2.2.1 x.2.2.2) [2,3,4,9,10] [2,3,4,9] (((0:Int),A1,B2,fun x ↦ [])) (show Ba4 A1 B2 (0:Int) A1 B2 fun x ↦ []from ?g17) ?_;rotate_left
  rintro⟨r33,A34,B35,S36⟩ h_37
  obtain⟨h38,h39,h40,h41,h42⟩:A34=A1∧B35=B2∧0≤r33∧r33≤16∧An6 (zT A1 B2) r33 S36:=h_37
  refine sq<|rD cx [2,3,4,9,10,102] [2,3,4,9] (zB 1 (r33 <(16:Int))) (fun h43=>?_) fun h43=>?_
  refine sK<|sn<|sq<|bL 7 ?_
  have hl_44:=(U9 (A4s (A34 r33.toNat) (B35 r33.toNat)))
  refine rA cx [2,3,4,9,10] [2,3,4,9] (fA (0≤r33) (fO (r33 <(↑(16:Nat):Int)) (fP ((E2 c3 16 A34)[r33.toNat*(1:Nat)+0]?=some (AV.sl (List.map c3 (A34 r33.toNat)))) (by((try simp only [Nat.mul_one,Nat.add_zero,Nat.zero_add]);with_reducible refine D8 ?_;omega)) (fA (0≤r33) (fO (r33 <(↑(16:Nat):Int)) (fP ((E2 c3 16 B35)[r33.toNat*(1:Nat)+0]?=some (AV.sl (List.map c3 (B35 r33.toNat)))) (by((try simp only [Nat.mul_one,Nat.add_zero,Nat.zero_add]);with_reducible refine D8 ?_;omega)) (fT (con206 (A34 r33.toNat) (B35 r33.toNat) ?g18 ?g19) (fA (0≤r33) (fO (r33 <(↑(16:Nat):Int)) (fP (r33.toNat*(1:Nat)+0 <(E2 c3 16 S36).length) ?g20 (fR [(D4 (AV.sl (List.map c3 (C9 (nrm (A4s (A34 r33.toNat) (B35 r33.toNat))))))).headD AV.dead] (fP ((E2 c3 16 S36).set (r33.toNat*(1:Nat)+0) ((D4 (AV.sl (List.map c3 (C9 (nrm (A4s (A34 r33.toNat) (B35 r33.toNat))))))).headD AV.dead)=E2 c3 16 (J8 S36 r33.toNat (C9 (nrm (A4s (A34 r33.toNat) (B35 r33.toNat)))))) (by((try simp only [Nat.mul_one,Nat.add_zero,Nat.zero_add]);(with_reducible refine A3j ?_);exact Eq.refl _)) (oR 3 [.sl (List.map c3 (A34 r33.toNat))] (oR 6 [.sl (List.map c3 (B35 r33.toNat))] (oA 7 (.sl (List.map c3 (C9 (nrm (A4s (A34 r33.toNat) (B35 r33.toNat)))))) (oV 10 { rows:=some [(E2 c3 16 (J8 S36 r33.toNat (C9 (nrm (A4s (A34 r33.toNat) (B35 r33.toNat))))))] } z0)))))))))))))))) ?_;rotate_left 3
  refine bN<|sn<|rG cx [2,3,4,9,10] [2,3,4,9] (tW 1 (r33+1) z0)<|sn<|nX ((r33+1,A34,B35,J8 S36 r33.toNat (C9 (nrm (A4s (A34 r33.toNat) (B35 r33.toNat)))))) (show(16-(r33+1)).toNat <(16-r33).toNat from(by omega)) (show Ba4 A1 B2 (r33+1) A34 B35 (J8 S36 r33.toNat (C9 (nrm (A4s (A34 r33.toNat) (B35 r33.toNat)))))from ?g21);rotate_left
  refine eX 6<|nE<|nE<|bH<|sn<|sq<|rG cx [2] [2] (fR 16 z0)<|sn<|rT<|qR (.agg [.sl (List.map c3 (S36 (0))),.sl (List.map c3 (S36 (1))),.sl (List.map c3 (S36 (2))),.sl (List.map c3 (S36 (3))),.sl (List.map c3 (S36 (4))),.sl (List.map c3 (S36 (5))),.sl (List.map c3 (S36 (6))),.sl (List.map c3 (S36 (7))),.sl (List.map c3 (S36 (8))),.sl (List.map c3 (S36 (9))),.sl (List.map c3 (S36 (10))),.sl (List.map c3 (S36 (11))),.sl (List.map c3 (S36 (12))),.sl (List.map c3 (S36 (13))),.sl (List.map c3 (S36 (14))),.sl (List.map c3 (S36 (15)))]) (.eq ?g22);rotate_left
  rotate_left
  revert i0 A1 B2 hh4 hh5 h6 h7 h8;rotate_left
  revert i0 A1 B2 hh4 hh5 h6 h7 h8 j9 A10 B11 h13 h14 h15 h16 h17 h20;rotate_left
  revert i0 A1 B2 hh4 hh5 h6 h7 h8 j9 A10 B11 h13 h14 h15 h16 h17 h20;rotate_left
  revert i0 A1 B2 hh4 hh5 h6 h7 h8 j9 A10 B11 h13 h14 h15 h16 h17 h20;rotate_left
  revert i0 A1 B2 hh4 hh5 h6 h7 h8 j9 A10 B11 h13 h14 h15 h16 h17 h20;rotate_left
  revert i0 A1 B2 hh4 hh5 h6 h7 h8 j9 A10 B11 h13 h14 h15 h16 h17 h20;rotate_left
  revert i0 A1 B2 hh4 hh5 h6 h7 h8 j9 A10 B11 h13 h14 h15 h16 h17 h20;rotate_left
  revert i0 A1 B2 hh4 hh5 h6 h7 h8 j9 A10 B11 h13 h14 h15 h16 h17 h20 j21 A22 B23 h25 h26 h27 h28 h29 h32;rotate_left
  revert i0 A1 B2 hh4 hh5 h6 h7 h8 j9 A10 B11 h13 h14 h15 h16 h17 h20 j21 A22 B23 h25 h26 h27 h28 h29 h32;rotate_left
  revert i0 A1 B2 hh4 hh5 h6 h7 h8 j9 A10 B11 h13 h14 h15 h16 h17 h20 j21 A22 B23 h25 h26 h27 h28 h29 h32;rotate_left
  revert i0 A1 B2 hh4 hh5 h6 h7 h8 j9 A10 B11 h13 h14 h15 h16 h17 h20 j21 A22 B23 h25 h26 h27 h28 h29 h32;rotate_left
  revert i0 A1 B2 hh4 hh5 h6 h7 h8 j9 A10 B11 h13 h14 h15 h16 h17 h20 j21 A22 B23 h25 h26 h27 h28 h29 h32;rotate_left
  revert i0 A1 B2 hh4 hh5 h6 h7 h8 j9 A10 B11 h13 h14 h15 h16 h17 h20 j21 A22 B23 h25 h26 h27 h28 h29 h32;rotate_left
  revert i0 A1 B2 hh4 hh5 h6 h7 h8 j9 A10 B11 h13 h14 h15 h16 h17 h20 j21 A22 B23 h25 h26 h27 h28 h29 h32;rotate_left
  revert i0 A1 B2 hh4 hh5 h6 h7 h8 j9 A10 B11 h13 h14 h15 h16 h17 h20 j21 A22 B23 h25 h26 h27 h28 h29 h32;rotate_left
  revert i0 A1 B2 hh4 hh5 h6 h7 h8 j9 A10 B11 h13 h14 h15 h16 h17 h20 j21 A22 B23 h25 h26 h27 h28 h29;rotate_left
  revert i0 A1 B2 hh4 hh5 h6 h7 h8;rotate_left
  clear hl_44;revert i0 A1 B2 hh4 hh5 h6 h7 h8 r33 A34 B35 S36 h38 h39 h40 h41 h42 h43;rotate_left
  clear hl_44;revert i0 A1 B2 hh4 hh5 h6 h7 h8 r33 A34 B35 S36 h38 h39 h40 h41 h42 h43;rotate_left
  clear hl_44;revert i0 A1 B2 hh4 hh5 h6 h7 h8 r33 A34 B35 S36 h38 h39 h40 h41 h42 h43;rotate_left
  clear hl_44;revert i0 A1 B2 hh4 hh5 h6 h7 h8 r33 A34 B35 S36 h38 h39 h40 h41 h42 h43;rotate_left
  revert i0 A1 B2 hh4 hh5 h6 h7 h8 r33 A34 B35 S36 h38 h39 h40 h41 h42 h43;rotate_left
  case g0=>exact⟨by omega,by omega,fun r _=>rfl,fun r _=>rfl⟩
  case g1=>intro i A B h0 h1 h3 h4 h5;exact⟨by omega,by omega,by omega,h3,A3r h4⟩
  case g6 =>
    intro i A B h0 h1 h3 h4 h5 j X Y k0 k1 k2 k4 k5 k6
    exact⟨by omega,by omega,by omega,Aa3 k4,fun r hr=>by rw[B7n (k4 _ (by omega))];exact A5t k0 k6.1 k5 r hr⟩
  case g7=>intro i A B h0 h1 h3 h4 h5 j X Y k0 k1 k2 k4 k5 k6;exact⟨by omega,by omega,k4,A3s (by omega) (by omega) k5⟩
  case g13 =>
    intro i A B h0 h1 h3 h4 h5 j X Y k0 k1 k2 k4 k5 k6 l V W m0 m1 m3 m4 m5 m6
    exact⟨by omega,by omega,Aa3 m3,fun r hr=>by rw[B7n (m3 _ (by omega))];exact Al1 m0 m5 m6 m4 r hr⟩
  case g15=>intro i A B h0 h1 h3 h4 h5 j X Y k0 k1 k2 k4 k5 k6 l V W m0 m1 m3 m4 m5 m6;exact⟨by omega,by omega,m3,A9b m0 m5 m6 m4⟩
  case g16=>intro i A B h0 h1 h3 h4 h5 j X Y k0 k1 k2 k4 k5 k6 l V W m0 m1 m3 m4 m5;exact⟨by omega,by omega,m3,A9c h0 h5 m5 m4⟩
  case g17=>intro i A B h0 h1 h3 h4 h5;exact⟨rfl,rfl,by omega,by omega,fun k hk=>by omega⟩
  case g18=>intro i A B h0 h1 h3 h4 h5 r X Y S k0 k1 k2 k3 k4 k5;subst k0 k1;exact h3 _ (by omega)
  case g19 =>
    intro i A B h0 h1 h3 h4 h5 r X Y S k0 k1 k2 k3 k4 k5
    subst k0 k1
    have:=B1e h3 (r:=r.toNat) (by omega)
    have:=P4 r.toNat (ps.take i.toNat)
    rw[h4 _ (by omega)]at *
    rw[List.take_of_length_le (by omega)]at *
    omega
  case g20=>intro i A B h0 h1 h3 h4 h5 r X Y S k0 k1 k2 k3 k4 k5;rw[Q3];omega
  case g21=>intro i A B h0 h1 h3 h4 h5 r X Y S k0 k1 k2 k3 k4 k5;subst k0 k1;exact⟨rfl,rfl,by omega,by omega,Ag6 k2 k4⟩
  case g22 =>
    intro i A B h0 h1 h3 h4 h5 r X Y S k0 k1 k2 k3 k4 k5
    congr 1
    show E2 c3 16 S=E2 c3 16 _
    unfold E2
    refine List.map_congr_left fun q hq=>?_
    have hq:q < 16:=by simpa using hq
    rw[k4 q (by omega)]
    unfold tnS D5
    rw[h4 q hq,List.take_of_length_le (by omega)]
  all_goals
    intro i A B h0 h1 h3 h4 h5 j X Y k0 k1 k2 k4 k5 k6
    first
    | (have l1 := A3t h0 h5 k5 (r := j.toNat) (by omega) (by omega)
       have l2:=B1e k4 (r:=j.toNat) (by omega)
       simp only [List.length_map,List.length_cons,List.length_nil,Go.maxLen]
       omega)
    | (intro l V W m0 m1 m3 m4 m5 m6
       have l0:=S6 h0 h5 m0 m5 m4 (r:=0) (by omega)
       first
       | omega
       | (have l1 := S6 h0 h5 m0 m5 m4 (r := ((ps[i.toNat]!).cloud[l.toNat]!).rep.toNat) (by omega)
          have l2:=B1e m3 (r:=((ps[i.toNat]!).cloud[l.toNat]!).rep.toNat) (by omega)
          simp only [List.length_map,List.length_cons,List.length_nil,Go.maxLen]
          omega))
end Go.Proofs.YtphcaholhacnpaaGreat
namespace Go.Proofs.YtphcaholhacnpaaGreat
open Go.E
set_option maxRecDepth 100000
set_option maxHeartbeats 4000000
def Ba5(U:Nat→List Run)(n r:Int)(S:Nat→List Int)(v:List Int)(c:List Span):Prop:=S=tnS U∧0≤r∧r≤16∧0≤n∧n≤r∧v.length=16∧Az9 U r n∧A0j U r v∧J2 U r c
def decFa(n r:Int)(S:Nat→List Int)(v:List Int)(c:List Span):Nat:=(16-r).toNat
def Au1(U:Nat→List Run)(r n0:Int)(v0:List Int)(c0:List Span)(k n:Int)(v:List Int)(c:List Span):Prop :=
 n=(if 0 <(B7 ((U r.toNat).take (k / 2).toNat)).1 then r+1 else n0)∧v=v0.set r.toNat (B7 ((U r.toNat).take (k / 2).toNat)).1∧c=c0++(B7 ((U r.toNat).take (k / 2).toNat)).2.map fun x=>(⟨r,x.lo,x.hi⟩:Span)
def B5h(U:Nat→List Run)(r n0:Int)(v0:List Int)(c0:List Span)(n k:Int)(S:Nat→List Int)(v:List Int)(c:List Span):Prop:=S=tnS U∧0≤k∧k≤2*(U r.toNat).length∧2*(k / 2)=k∧v.length=16∧0≤n∧n≤r+1∧Au1 U r n0 v0 c0 k n v c
def decFb(U:Nat→List Run)(r:Int)(n k:Int)(S:Nat→List Int)(v:List Int)(c:List Span):Nat:=(2*(U r.toNat).length-k).toNat
theorem A4e(l:List Run):(C9 l).length=2*l.length:=by
 induction l with
 | nil=>rfl
 | cons r l ih =>
  have:C9 (r :: l)=r.lo ::(r.hi+1) :: C9 l:=rfl
  rw[this];simp only [List.length_cons,ih];omega
theorem An7:∀ {l:List Run} {j:Nat},j < l.length→(C9 l)[2*j]! = l[j]!.lo∧(C9 l)[2*j+1]! = l[j]!.hi+1
 | r :: l,0,_=>⟨rfl,rfl⟩
 | r :: l,j+1,h=>by
  have e:C9 (r :: l)=r.lo ::(r.hi+1) :: C9 l:=rfl
  have ih:=An7 (l:=l) (j:=j) (by simpa using h)
  rw[e,show 2*(j+1)=2*j+1+1 by omega]
  simpa using ih
theorem B5i{x:Run}(h:x.lo=1):B7 [x]=(x.hi,[]):=by
 unfold B7
 rw[if_neg]
 ·rfl
 ·rintro(k | k)
  ·cases k
  ·exact k h
theorem B1f{P:List Run}{x:Run}(h:P=[]→¬ x.lo=1):B7 (P++[x])=((B7 P).1,(B7 P).2++[x]):=by
 cases P with
 | nil =>
  show B7 [x]=_
  unfold B7
  rw[if_pos (.inr (h rfl)),if_pos (.inl rfl)]
  rfl
 | cons y P =>
  unfold B7
  by_cases hy:y.lo=1
  ·rw[if_neg,if_neg]
   ·simp
   ·simpa using hy
   ·simpa using hy
  ·rw[if_pos,if_pos]
   ·simpa using hy
   ·simpa using hy
theorem B5j(P:List Run):(B7 P).2.length≤P.length:=by
 unfold B7
 split
 ·exact Nat.le_refl _
 ·simp
theorem Au2{U:Nat→List Run}{r n0:Int}{v0:List Int}{c0:List Span}(h0:0≤r)(h1:r < 16)(hv:A0j U r v0):Au1 U r n0 v0 c0 0 n0 v0 c0:=by
 unfold Au1
 refine⟨?_,?_,?_⟩
 ·show n0=if(0:Int) <(B7 []).1 then _ else _
  rw[A1g,if_neg (by omega)]
 ·show v0=v0.set r.toNat (B7 []).1
  rw[A1g]
  unfold A0j A5o at hv
  have e:16-r.toNat=(15-r.toNat)+1:=by omega
  rw[hv,List.set_append_right _ _ (by simp),List.length_map,List.length_range,Nat.sub_self,e,List.replicate_succ,List.set_cons_zero]
 ·show c0=c0++List.map _ (B7 []).2
  rw[A1g];simp
theorem B1g{l:List Run}{k:Int}(h0:0≤k)(he:2*(k / 2)=k)(hk:k+1 < 2*l.length):l.take ((k+2) / 2).toNat=l.take (k / 2).toNat++[l[(k / 2).toNat]!]:=by
 have:=C8 (a:=l) (i:=k / 2) (by omega) (by omega)
 rw[show((k+2) / 2).toNat=(k / 2+1).toNat by omega,this]
theorem B5k{U:Nat→List Run}{r n0 n k:Int}{v0 v:List Int}{c0 c:List Span}(hU:M0 (U r.toNat))(h0:0≤k)(he:2*(k / 2)=k)(hk:k+1 < 2*(U r.toNat).length)(hlo:(U r.toNat)[(k / 2).toNat]!.lo=1)(h:Au1 U r n0 v0 c0 k n v c) :
  Au1 U r n0 v0 c0 (k+2) (r+1) (v.set r.toNat (U r.toNat)[(k / 2).toNat]!.hi) c:=by
 have h1:=Ae7 hU (k / 2).toNat (by omega)
 have h2:=hU.2 _ (D9 (l:=U r.toNat) (i:=(k / 2).toNat) (by omega))
 have hz:k=0:=by omega
 subst hz
 unfold Au1 at *
 rw[B1g h0 he hk]
 obtain⟨a1,a2,a3⟩:=h
 have e:(U r.toNat).take ((0:Int) / 2).toNat=[]:=by simp
 rw[e]at a1 a2 a3 ⊢
 rw[List.nil_append,B5i hlo]
 rw[A1g]at a2 a3
 refine⟨?_,?_,?_⟩
 ·rw[if_pos (show(0:Int) <(U r.toNat)[((0:Int) / 2).toNat]!.hi by omega)]
 ·rw[a2,List.set_set]
 ·exact a3
theorem B1h{U:Nat→List Run}{r n0 n k:Int}{v0 v:List Int}{c0 c:List Span}(h0:0≤k)(he:2*(k / 2)=k)(hk:k+1 < 2*(U r.toNat).length)(hlo:¬(U r.toNat)[(k / 2).toNat]!.lo=1)(h:Au1 U r n0 v0 c0 k n v c) :
  Au1 U r n0 v0 c0 (k+2) n v (c++[⟨r,(U r.toNat)[(k / 2).toNat]!.lo,(U r.toNat)[(k / 2).toNat]!.hi⟩]):=by
 unfold Au1 at *
 rw[B1g h0 he hk,B1f (fun _=>hlo)]
 obtain⟨a1,a2,a3⟩:=h
 refine⟨a1,a2,?_⟩
 rw[a3,List.map_append,List.append_assoc]
 rfl
theorem B5l{U:Nat→List Run}{r n0 n k:Int}{v0 v:List Int}{c0 c:List Span}(hU:M0 (U r.toNat))(r0:0≤r)(r1:r < 16)(hs:Az9 U r n0)(hv:A0j U r v0)(hc:J2 U r c0)(h0:0≤k)(he:2*(k / 2)=k)(hk:¬ k+1 < 2*(U r.toNat).length)(hl:k≤2*(U r.toNat).length)
  (h:Au1 U r n0 v0 c0 k n v c):Az9 U (r+1) n∧A0j U (r+1) v∧J2 U (r+1) c:=by
 unfold Au1 at h
 rw[List.take_of_length_le (by omega)]at h
 obtain⟨a1,a2,a3⟩:=h
 have g1:=Ae8 r0 hs
 have g2:=A72 r0 r1 hv
 rw[A3u hU]at g1 g2
 rw[a1,a2]
 refine⟨g1,g2,?_⟩
 unfold J2 at *
 rw[show(r+1).toNat=r.toNat+1 by omega,H4,V0,A3u hU,a3,hc,show((r.toNat:Nat):Int)=r by omega]
theorem Aa4{U:Nat→List Run}{r k:Int}(h0:0≤k)(he:2*(k / 2)=k)(hk:k+1 < 2*(U r.toNat).length):(tnS U r.toNat)[k.toNat]! =(U r.toNat)[(k / 2).toNat]!.lo∧(tnS U r.toNat)[(k+1).toNat]! =(U r.toNat)[(k / 2).toNat]!.hi+1:=by
 have:=An7 (l:=U r.toNat) (j:=(k / 2).toNat) (by omega)
 unfold tnS
 rw[show k.toNat=2*(k / 2).toNat by omega,show(k+1).toNat=2*(k / 2).toNat+1 by omega]
 exact this
theorem B5m{U:Nat→List Run}{r n0 n k:Int}{v0 v:List Int}{c0 c:List Span}(hU:M0 (U r.toNat))(r0:0≤r)(r1:r < 16)(hc:J2 U r c0)(h:Au1 U r n0 v0 c0 k n v c):c.length≤8000000000:=by
 obtain⟨_,_,a3⟩:=h
 have h1:=A1f U r.toNat
 have h2:=B5j ((U r.toNat).take (k / 2).toNat)
 have h3:=L6 hU
 unfold J2 at hc
 rw[List.length_take]at h2
 rw[a3,List.length_append,List.length_map,hc]
 omega
theorem B1i (U : Nat → List Run) (hU : ∀ r : Nat, r < 16 → M0 (U r)) : Con Tryz.prog 124 [.agg (Bh3 (tnS U))] (.agg (c26 (E8 U))) :=
  by
  refine sC A6 [.cell 2 26] 73 Tryz.func124 ?_
  intro e0 cx
  refine sq<|rG cx [1,2] [1,2] z0<|sn<|sq<|rG cx [1,2,3] [1,2,3] z0<|sn<|sq<|rG cx [1,2,3,4] [1,2,3,8] (fR (↑(16:Nat):Int) (fR (↑(16:Nat):Int) (fO ((8:Nat)*(16:Nat)≤(281474976710656:Nat)) (fP ((16:Nat)≤maxLen) (by(simp only [Go.maxLen];omega)) (fR 1 (fP (ZLe [AV.i .i64 (0:Int)] [AV.i .i64 (0:Int)]) (by(with_reducible exact ZLe.refl _)) (fP (List.replicate (16:Nat) [AV.i .i64 (0:Int)]=List.map c3 (List.replicate (16:Nat) (0:Int))) (by(with_reducible refine Ae0 ?_;kernel_rfl)) (oV 0 { row:=[.i .i64 ((0:Int))],rows:=some (List.map c3 (List.replicate (16:Nat) (0:Int))),n:=(16:Nat) } z0)))))))) ?_
  refine sn<|sq<|rG cx [1,2,3,4,5] [1,2,3,8] z0<|sn<|sq<|sq<|rG cx [1,2,3,4,5,6] [1,2,3,8] z0<|sn<|bL 0<|A1x 3 141 3 1 5301 (σ':=⟨[(1,.ptr (1) (0) (0) (0)),(2,.ptr (2) (0) (0) (0)),(3,.ptr (3) (0) (0) (0)),(4,.own 8 0),(5,.i .i64 ((0:Int))),(6,.i .i64 ((0:Int)))],[(1,⟨0,144,.var [.sl (List.map c3 (tnS U (0))),.sl (List.map c3 (tnS U (1))),.sl (List.map c3 (tnS U (2))),.sl (List.map c3 (tnS U (3))),.sl (List.map c3 (tnS U (4))),.sl (List.map c3 (tnS U (5))),.sl (List.map c3 (tnS U (6))),.sl (List.map c3 (tnS U (7))),.sl (List.map c3 (tnS U (8))),.sl (List.map c3 (tnS U (9))),.sl (List.map c3 (tnS U (10))),.sl (List.map c3 (tnS U (11))),.sl (List.map c3 (tnS U (12))),.sl (List.map c3 (tnS U (13))),.sl (List.map c3 (tnS U (14))),.sl (List.map c3 (tnS U (15)))]⟩),(2,⟨0,26,.var [.nl,.nl]⟩),(3,⟨0,26,.var [.nl,.own 5301 0]⟩),(8,⟨0,3,.row 1 (List.map c3 (List.replicate (16:Nat) (0:Int)))⟩),(5301,⟨0,141,.row 3 (List.map A9 [])⟩)]⟩) (by kernel_rfl)<|G8 1 ⟨0,144,.var [.sl (List.map c3 (tnS U (0))),.sl (List.map c3 (tnS U (1))),.sl (List.map c3 (tnS U (2))),.sl (List.map c3 (tnS U (3))),.sl (List.map c3 (tnS U (4))),.sl (List.map c3 (tnS U (5))),.sl (List.map c3 (tnS U (6))),.sl (List.map c3 (tnS U (7))),.sl (List.map c3 (tnS U (8))),.sl (List.map c3 (tnS U (9))),.sl (List.map c3 (tnS U (10))),.sl (List.map c3 (tnS U (11))),.sl (List.map c3 (tnS U (12))),.sl (List.map c3 (tnS U (13))),.sl (List.map c3 (tnS U (14))),.sl (List.map c3 (tnS U (15)))]⟩ [.sl (List.map c3 (tnS U (0))),.sl (List.map c3 (tnS U (1))),.sl (List.map c3 (tnS U (2))),.sl (List.map c3 (tnS U (3))),.sl (List.map c3 (tnS U (4))),.sl (List.map c3 (tnS U (5))),.sl (List.map c3 (tnS U (6))),.sl (List.map c3 (tnS U (7))),.sl (List.map c3 (tnS U (8))),.sl (List.map c3 (tnS U (9))),.sl (List.map c3 (tnS U (10))),.sl (List.map c3 (tnS U (11))),.sl (List.map c3 (tnS U (12))),.sl (List.map c3 (tnS U (13))),.sl (List.map c3 (tnS U (14))),.sl (List.map c3 (tnS U (15)))] (E2 c3 16 (tnS U)) (σ':=⟨[(1,.ptr (1) (0) (0) (0)),(2,.ptr (2) (0) (0) (0)),(3,.ptr (3) (0) (0) (0)),(4,.own 8 0),(5,.i .i64 ((0:Int))),(6,.i .i64 ((0:Int)))],[(1,⟨0,144,.arr (E2 c3 16 (tnS U))⟩),(2,⟨0,26,.var [.nl,.nl]⟩),(3,⟨0,26,.var [.nl,.own 5301 0]⟩),(8,⟨0,3,.row 1 (List.map c3 (List.replicate (16:Nat) (0:Int)))⟩),(5301,⟨0,141,.row 3 (List.map A9 [])⟩)]⟩) (by kernel_rfl) (by kernel_rfl) (by kernel_rfl) (by kernel_rfl) (ZLe.of_eq (by kernel_rfl)) (by kernel_rfl)<|sL (X:=Int×Int×(Nat→List Int)×List Int×List Span) (fun x=>⟨[(1,.ptr (1) (0) (0) (0)),(2,.ptr (2) (0) (0) (0)),(3,.ptr (3) (0) (0) (0)),(4,.own 8 0),(5,.i .i64 (x.1)),(6,.i .i64 (x.2.1))],[(1,⟨0,144,.arr (E2 c3 16 x.2.2.1)⟩),(2,⟨0,26,.var [.nl,.nl]⟩),(3,⟨0,26,.var [.nl,.own 5301 0]⟩),(8,⟨0,3,.row 1 (List.map c3 x.2.2.2.1)⟩),(5301,⟨0,141,.row 3 (List.map A9 x.2.2.2.2)⟩)]⟩) (fun x ↦ decFa x.1 x.2.1 x.2.2.1 x.2.2.2.1 x.2.2.2.2) (fun x ↦ Ba5 U x.1 x.2.1 x.2.2.1 x.2.2.2.1 x.2.2.2.2) [1,2,3,4,5,6] [1,2,3,8,5301] (((0:Int),(0:Int),tnS U,List.replicate (16:Nat) (0:Int),[])) (show Ba5 U (0:Int) (0:Int) (tnS U) (List.replicate (16:Nat) (0:Int)) []from ?g0) ?_;rotate_left
  rintro⟨n0,r1,S2,v3,c4⟩ h_5
  obtain⟨hh6,hh7,hh8,hh9,h10,h11,h12,h13,h14⟩:S2=tnS U∧0≤r1∧r1≤16∧0≤n0∧n0≤r1∧v3.length=(16:Nat)∧Az9 U r1 n0∧A0j U r1 v3∧J2 U r1 c4:=h_5
  refine sq<|rD cx [1,2,3,4,5,6,10] [1,2,3,8,5301] (zB 1 (r1 <(16:Int))) (fun h15=>?_) fun h15=>?_
  refine sK<|sn<|sq<|bL 1<|sq<|rG cx [1,2,3,4,5,6,7] [1,2,3,8,5301] z0<|sn<|bL 2<|sL (X:=Int×Int×(Nat→List Int)×List Int×List Span) (fun x=>⟨[(1,.ptr (1) (0) (0) (0)),(2,.ptr (2) (0) (0) (0)),(3,.ptr (3) (0) (0) (0)),(4,.own 8 0),(5,.i .i64 (x.1)),(6,.i .i64 (r1)),(7,.i .i64 (x.2.1))],[(1,⟨0,144,.arr (E2 c3 16 x.2.2.1)⟩),(2,⟨0,26,.var [.nl,.nl]⟩),(3,⟨0,26,.var [.nl,.own 5301 0]⟩),(8,⟨0,3,.row 1 (List.map c3 x.2.2.2.1)⟩),(5301,⟨0,141,.row 3 (List.map A9 x.2.2.2.2)⟩)]⟩) (fun x ↦ decFb U r1 x.1 x.2.1 x.2.2.1 x.2.2.2.1 x.2.2.2.2) (fun x ↦ B5h U r1 n0 v3 c4 x.1 x.2.1 x.2.2.1 x.2.2.2.1 x.2.2.2.2) [1,2,3,4,5,6,7] [1,2,3,8,5301] ((n0,(0:Int),S2,v3,c4)) (show B5h U r1 n0 v3 c4 n0 (0:Int) S2 v3 c4 from ?g1) ?_;rotate_left
  rintro⟨n16,k17,S18,v19,c20⟩ h_21
  obtain⟨h22,h23,h24,h25,h26,h27,h28,h29⟩:S18=tnS U∧0≤k17∧k17≤(2:Int)*(↑(U r1.toNat).length:Int)∧(2:Int)*(k17 / (2:Int))=k17∧v19.length=(16:Nat)∧0≤n16∧n16≤r1+1∧Au1 U r1 n0 v3 c4 k17 n16 v19 c20:=h_21
  refine sq<|sq<|rG cx [1,2,3,4,5,6,7,20] [1,2,3,8,5301] (tT 1 (B4 (by omega) ?g2:AV.i .i64 (IntKind.i64.wrap (k17+1))=AV.i .i64 (k17+1)) (fA (0≤r1) (fO (r1 <(↑(16:Nat):Int)) (fP ((E2 c3 16 S18)[r1.toNat*(1:Nat)+0]?=some (AV.sl (List.map c3 (S18 r1.toNat)))) (by((try simp only [Nat.mul_one,Nat.add_zero,Nat.zero_add]);with_reducible refine D8 ?_;omega)) (tL 6 c3 (S18 r1.toNat) (tB 7 (k17+1 <(↑(S18 r1.toNat).length:Int)) (oR 5 [.sl (List.map c3 (S18 r1.toNat))] z0))))))) ?_;rotate_left
  refine sn<|dC (k17+1 <(↑(S18 r1.toNat).length:Int)) (fun h30=>?_) fun h30=>?_
  refine sK<|sn<|sq<|bL 3<|rD cx [1,2,3,4,5,6,7,30] [1,2,3,8,5301] (fA (0≤r1) (fO (r1 <(↑(16:Nat):Int)) (fP ((E2 c3 16 S18)[r1.toNat*(1:Nat)+0]?=some (AV.sl (List.map c3 (S18 r1.toNat)))) (by((try simp only [Nat.mul_one,Nat.add_zero,Nat.zero_add]);with_reducible refine D8 ?_;omega)) (fA (0≤k17) (fG c3 (S18 r1.toNat) k17.toNat (fR 1 (oR 3 [.sl (List.map c3 (S18 r1.toNat))] (oR 5 (c3 (S18 r1.toNat)[k17.toNat]!) (zB 7 ((S18 r1.toNat)[k17.toNat]! =(1:Int))))))))))) (fun h31=>?_) fun h31=>?_
  refine sq<|rG cx [1,2,3,4,6,7] [1,2,3,8,5301] (fA (0≤r1) (fO (r1 <(↑(16:Nat):Int)) (fP ((E2 c3 16 S18)[r1.toNat*(1:Nat)+0]?=some (AV.sl (List.map c3 (S18 r1.toNat)))) (by((try simp only [Nat.mul_one,Nat.add_zero,Nat.zero_add]);with_reducible refine D8 ?_;omega)) (tT 7 (B4 (by omega) ?g3:AV.i .i64 (IntKind.i64.wrap (k17+1))=AV.i .i64 (k17+1)) (fO (0≤k17+1) (fG c3 (S18 r1.toNat) ((k17+1).toNat) (fR 1 (tT 10 (B4 ?g4 ?g5:AV.i .i64 (IntKind.i64.wrap ((S18 r1.toNat)[(k17+1).toNat]!-1))=AV.i .i64 ((S18 r1.toNat)[(k17+1).toNat]!-1)) (fA (0≤r1) (fP (r1.toNat <(List.map c3 v19).length) (by(first | omega | (simp only [List.length_map];omega))) (fR 1 (fG c3 v19 r1.toNat (fR 1 (fP (0+(1:Nat)≤1) (by(first | omega | (simp only [List.length_map];omega))) (fP ((List.map c3 v19).set r1.toNat (List.take (0) (c3 v19[r1.toNat]!)++D4 (AV.i .i64 ((S18 r1.toNat)[(k17+1).toNat]!-1))++List.drop (0+(1:Nat)) (c3 v19[r1.toNat]!))=List.map c3 (v19.set r1.toNat ((S18 r1.toNat)[(k17+1).toNat]!-1))) (by(with_reducible refine A1w ?_;kernel_rfl)) (oR 5 [.sl (List.map c3 (S18 r1.toNat))] (oR 8 (c3 (S18 r1.toNat)[(k17+1).toNat]!) (oV 12 { row:=(c3 v19[r1.toNat]!),rows:=some (List.map c3 (v19.set r1.toNat ((S18 r1.toNat)[(k17+1).toNat]!-1))) } z0)))))))))))))))))) ?_;rotate_left 3
  refine sn<|rG cx [1,2,3,4,6,7,5] [1,2,3,8,5301] (tW 1 (r1+1) z0)<|bN<|sn<|rG cx [1,2,3,4,6,7,5] [1,2,3,8,5301] (tT 1 (B4 (by omega) ?g6:AV.i .i64 (IntKind.i64.wrap (k17+2))=AV.i .i64 (k17+2)) z0) ?_;rotate_left
  refine sn<|nX ((r1+1,k17+2,S18,v19.set r1.toNat ((S18 r1.toNat)[(k17+1).toNat]!-1),c20)) (show((2:Int)*(↑(U r1.toNat).length:Int)-(k17+2)).toNat <((2:Int)*(↑(U r1.toNat).length:Int)-k17).toNat from ?g7) (show B5h U r1 n0 v3 c4 (r1+1) (k17+2) S18 (v19.set r1.toNat ((S18 r1.toNat)[(k17+1).toNat]!-1)) c20 from ?g8);rotate_left 2
  refine rA cx [1,2,3,4,5,6,7] [1,2,3,8,5301] (fA (0≤r1) (fO (r1 <(↑(16:Nat):Int)) (fP ((E2 c3 16 S18)[r1.toNat*(1:Nat)+0]?=some (AV.sl (List.map c3 (S18 r1.toNat)))) (by((try simp only [Nat.mul_one,Nat.add_zero,Nat.zero_add]);with_reducible refine D8 ?_;omega)) (fA (0≤k17) (fG c3 (S18 r1.toNat) k17.toNat (fR 1 (fA (0≤r1) (fO (r1 <(↑(16:Nat):Int)) (fP ((E2 c3 16 S18)[r1.toNat*(1:Nat)+0]?=some (AV.sl (List.map c3 (S18 r1.toNat)))) (by((try simp only [Nat.mul_one,Nat.add_zero,Nat.zero_add]);with_reducible refine D8 ?_;omega)) (tT 15 (B4 (by omega) ?g9:AV.i .i64 (IntKind.i64.wrap (k17+1))=AV.i .i64 (k17+1)) (fO (0≤k17+1) (fG c3 (S18 r1.toNat) ((k17+1).toNat) (fR 1 (tT 18 (B4 ?g10 ?g11:AV.i .i64 (IntKind.i64.wrap ((S18 r1.toNat)[(k17+1).toNat]!-1))=AV.i .i64 ((S18 r1.toNat)[(k17+1).toNat]!-1)) (fR 141 (fR 3 (fR 3 (fX A9 [{ rep:=r1,lo:=(S18 r1.toNat)[k17.toNat]!,hi:=(S18 r1.toNat)[(k17+1).toNat]!-1:Span }] 3 (fP ((List.map A9 c20).length+(List.map A9 [{ rep:=r1,lo:=(S18 r1.toNat)[k17.toNat]!,hi:=(S18 r1.toNat)[(k17+1).toNat]!-1:Span }]).length≤maxLen) ?g12 (fP (((List.map A9 c20).length+(List.map A9 [{ rep:=r1,lo:=(S18 r1.toNat)[k17.toNat]!,hi:=(S18 r1.toNat)[(k17+1).toNat]!-1:Span }]).length)*(24:Nat)≤(140737488355328:Nat)) ?g13 (fM A9 c20 [{ rep:=r1,lo:=(S18 r1.toNat)[k17.toNat]!,hi:=(S18 r1.toNat)[(k17+1).toNat]!-1:Span }] (oR 6 [.sl (List.map c3 (S18 r1.toNat))] (oR 8 (c3 (S18 r1.toNat)[k17.toNat]!) (oR 13 [.sl (List.map c3 (S18 r1.toNat))] (oR 16 (c3 (S18 r1.toNat)[(k17+1).toNat]!) (oV 21 { rows:=some (List.map A9 (c20++[{ rep:=r1,lo:=(S18 r1.toNat)[k17.toNat]!,hi:=(S18 r1.toNat)[(k17+1).toNat]!-1:Span }])) } z0)))))))))))))))))))))))))) ?_;rotate_left 5
  refine bN<|sn<|rG cx [1,2,3,4,5,6,7] [1,2,3,8,5301] (tT 1 (B4 (by omega) ?g14:AV.i .i64 (IntKind.i64.wrap (k17+2))=AV.i .i64 (k17+2)) z0) ?_;rotate_left
  refine sn<|nX ((n16,k17+2,S18,v19,c20++[{ rep:=r1,lo:=(S18 r1.toNat)[k17.toNat]!,hi:=(S18 r1.toNat)[(k17+1).toNat]!-1:Span }])) (show((2:Int)*(↑(U r1.toNat).length:Int)-(k17+2)).toNat <((2:Int)*(↑(U r1.toNat).length:Int)-k17).toNat from ?g15) (show B5h U r1 n0 v3 c4 n16 (k17+2) S18 v19 (c20++[{ rep:=r1,lo:=(S18 r1.toNat)[k17.toNat]!,hi:=(S18 r1.toNat)[(k17+1).toNat]!-1:Span }])from ?g16);rotate_left 2
  refine eX 2<|nE<|nE<|bH<|bN<|sn<|rG cx [1,2,3,4,5,6] [1,2,3,8,5301] (tW 1 (r1+1) z0)<|sn<|nX ((n16,r1+1,S18,v19,c20)) (show(16-(r1+1)).toNat <(16-r1).toNat from(by omega)) (show Ba5 U n16 (r1+1) S18 v19 c20 from ?g17);rotate_left
  refine eX 0<|nE<|nE<|bH<|sn<|sq<|rG cx [2,3] [2,3,8,5301] (fO ((0:Int)≤(0:Int)) (fA (0≤n0) (fP (n0≤(↑(List.map c3 v3).length:Int)) (by(first | omega | (simp only [List.length_map];omega))) (fP ((0:Int) <(↑(List.map c3 v3).length:Int)) (by(first | omega | (simp only [List.length_map];omega))) (fR (some (1)) z0))))) ?_
  refine sn<|sq<|N8 [8,5301] [2,3] [2,3] (σ':=⟨[(2,.ptr (2) (0) (0) (0)),(3,.ptr (3) (0) (0) (0))],[(2,⟨0,26,.var [.nl,.nl]⟩),(3,⟨0,26,.var [.sl (List.take (n0-0).toNat (List.drop (0) (List.map c3 v3))),.sl (List.map A9 c4)]⟩)]⟩) (by kernel_rfl)<|rG cx [2] [2] z0<|sn<|rT<|qR (.agg [.sl (List.take (n0-0).toNat (List.drop (0) (List.map c3 v3))),.sl (List.map A9 c4)]) (.eq ?g18);rotate_left
  rotate_left
  revert n0 r1 S2 v3 c4 hh6 hh7 hh8 hh9 h10 h11 h12 h13 h14 h15;rotate_left
  revert n0 r1 S2 v3 c4 hh6 hh7 hh8 hh9 h10 h11 h12 h13 h14 h15 n16 k17 S18 v19 c20 h22 h23 h24 h25 h26 h27 h28 h29;rotate_left
  revert n0 r1 S2 v3 c4 hh6 hh7 hh8 hh9 h10 h11 h12 h13 h14 h15 n16 k17 S18 v19 c20 h22 h23 h24 h25 h26 h27 h28 h29 h30 h31;rotate_left
  revert n0 r1 S2 v3 c4 hh6 hh7 hh8 hh9 h10 h11 h12 h13 h14 h15 n16 k17 S18 v19 c20 h22 h23 h24 h25 h26 h27 h28 h29 h30 h31;rotate_left
  revert n0 r1 S2 v3 c4 hh6 hh7 hh8 hh9 h10 h11 h12 h13 h14 h15 n16 k17 S18 v19 c20 h22 h23 h24 h25 h26 h27 h28 h29 h30 h31;rotate_left
  revert n0 r1 S2 v3 c4 hh6 hh7 hh8 hh9 h10 h11 h12 h13 h14 h15 n16 k17 S18 v19 c20 h22 h23 h24 h25 h26 h27 h28 h29 h30 h31;rotate_left
  revert n0 r1 S2 v3 c4 hh6 hh7 hh8 hh9 h10 h11 h12 h13 h14 h15 n16 k17 S18 v19 c20 h22 h23 h24 h25 h26 h27 h28 h29 h30 h31;rotate_left
  revert n0 r1 S2 v3 c4 hh6 hh7 hh8 hh9 h10 h11 h12 h13 h14 h15 n16 k17 S18 v19 c20 h22 h23 h24 h25 h26 h27 h28 h29 h30 h31;rotate_left
  revert n0 r1 S2 v3 c4 hh6 hh7 hh8 hh9 h10 h11 h12 h13 h14 h15 n16 k17 S18 v19 c20 h22 h23 h24 h25 h26 h27 h28 h29 h30 h31;rotate_left
  revert n0 r1 S2 v3 c4 hh6 hh7 hh8 hh9 h10 h11 h12 h13 h14 h15 n16 k17 S18 v19 c20 h22 h23 h24 h25 h26 h27 h28 h29 h30 h31;rotate_left
  revert n0 r1 S2 v3 c4 hh6 hh7 hh8 hh9 h10 h11 h12 h13 h14 h15 n16 k17 S18 v19 c20 h22 h23 h24 h25 h26 h27 h28 h29 h30 h31;rotate_left
  revert n0 r1 S2 v3 c4 hh6 hh7 hh8 hh9 h10 h11 h12 h13 h14 h15 n16 k17 S18 v19 c20 h22 h23 h24 h25 h26 h27 h28 h29 h30 h31;rotate_left
  revert n0 r1 S2 v3 c4 hh6 hh7 hh8 hh9 h10 h11 h12 h13 h14 h15 n16 k17 S18 v19 c20 h22 h23 h24 h25 h26 h27 h28 h29 h30 h31;rotate_left
  revert n0 r1 S2 v3 c4 hh6 hh7 hh8 hh9 h10 h11 h12 h13 h14 h15 n16 k17 S18 v19 c20 h22 h23 h24 h25 h26 h27 h28 h29 h30 h31;rotate_left
  revert n0 r1 S2 v3 c4 hh6 hh7 hh8 hh9 h10 h11 h12 h13 h14 h15 n16 k17 S18 v19 c20 h22 h23 h24 h25 h26 h27 h28 h29 h30 h31;rotate_left
  revert n0 r1 S2 v3 c4 hh6 hh7 hh8 hh9 h10 h11 h12 h13 h14 h15 n16 k17 S18 v19 c20 h22 h23 h24 h25 h26 h27 h28 h29 h30 h31;rotate_left
  revert n0 r1 S2 v3 c4 hh6 hh7 hh8 hh9 h10 h11 h12 h13 h14 h15 n16 k17 S18 v19 c20 h22 h23 h24 h25 h26 h27 h28 h29 h30;rotate_left
  revert n0 r1 S2 v3 c4 hh6 hh7 hh8 hh9 h10 h11 h12 h13 h14 h15;rotate_left
  case g0=>exact⟨rfl,by omega,by omega,by omega,by omega,by simp,rfl,by simp [A0j,A5o],rfl⟩
  case g1=>intro n r S v c h0 h1 h2 h3 h4 h5 h6 h7 h8 h9;exact⟨h0,by omega,by omega,by omega,by omega,by omega,by omega,Au2 h1 h9 h7⟩
  case g18 =>
    intro n r S v c h0 h1 h2 h3 h4 h5 h6 h7 h8 h9
    rw[A73 h2 h9 h6 h7 h8]
    show AV.agg [AV.sl (List.take (n-0).toNat (List.drop 0 (List.map c3 v))),AV.sl (List.map A9 c)]=_
    rw[List.drop_zero,Int.sub_zero,← List.map_take]
    rfl
  all_goals
    intro n r S v c h0 h1 h2 h3 h4 h5 h6 h7 h8 h9 m k X w d k0 k1 k2 k3 k4 k5 k6 k7
    have hs:=hU r.toNat (by omega)
    have hl:=L6 hs
    have hd:=B5m hs h1 h9 h8 k7
    have ht:(tnS U r.toNat).length=2*(U r.toNat).length:=A4e _
    subst k0
  case g17 =>
    intro k8
    rw[ht]at k8
    obtain⟨a,b,e⟩:=B5l hs h1 h9 h6 h7 h8 k1 k3 (by omega) k2 k7
    exact⟨rfl,by omega,by omega,by omega,by omega,k4,a,b,e⟩
  case g8 =>
    intro k8 k9
    rw[ht]at k8
    obtain⟨e1,e2⟩:=Aa4 (U:=U) (r:=r) k1 k3 (by omega)
    rw[e1]at k9
    rw[e2,Int.add_sub_cancel]
    exact⟨rfl,by omega,by omega,by omega,by rw[List.length_set];exact k4,by omega,by omega,B5k hs k1 k3 (by omega) k9 k7⟩
  case g16 =>
    intro k8 k9
    rw[ht]at k8
    obtain⟨e1,e2⟩:=Aa4 (U:=U) (r:=r) k1 k3 (by omega)
    rw[e1]at k9
    rw[e1,e2,Int.add_sub_cancel]
    exact⟨rfl,by omega,by omega,by omega,k4,by omega,by omega,B1h k1 k3 (by omega) k9 k7⟩
  all_goals
    first
    | omega
    | (intro k8 k9
       rw[ht]at k8
       obtain⟨e1,e2⟩:=Aa4 (U:=U) (r:=r) k1 k3 (by omega)
       have hb:=hs.2 _ (D9 (l:=U r.toNat) (i:=(k / 2).toNat) (by omega))
       simp only [e2,List.length_map,List.length_cons,List.length_nil,Go.maxLen]
       omega)
end Go.Proofs.YtphcaholhacnpaaGreat
namespace Go.Proofs.YtphcaholhacnpaaGreat
open Go.E
set_option maxRecDepth 100000
set_option maxHeartbeats 4000000
def A21(ds:List Dot):List Span:=ds.map fun d=>⟨d.rep,d.num,d.num⟩
def A23(ds:List Dot)(i:Int)(c:List Span):Prop:=c=A21 (ds.take i.toNat)
def Ba6(ds:List Dot)(i:Int)(c:List Span):Prop:=0≤i∧i≤ds.length∧(c.length:Int)=i∧A23 ds i c
def decOf(ds:List Dot)(i:Int)(c:List Span):Nat:=(ds.length-i).toNat
theorem Aa5{ds:List Dot}{i:Int}{c:List Span}(h0:0≤i)(h:i < ds.length)(hs:A23 ds i c):A23 ds (i+1) (c++[⟨ds[i.toNat]!.rep,ds[i.toNat]!.num,ds[i.toNat]!.num⟩]):=by
 unfold A23 A21 at *
 rw[← C8 h0 h,List.map_append,← hs]
 rfl
theorem B5n(ds:List Dot):E8 (A8 [⟨[],A21 ds⟩])=E8 (ofT ds):=by
 rw[← Z6,← Z6 (ofT ds)]
 refine O4 fun r hr=>?_
 refine O3 (E1 _) (E1 _) fun n=>?_
 show inR (nrm _) n↔inR (nrm _) n
 rw[Q6,Q6]
 refine and_congr_right fun n0=>and_congr_right fun n1=>?_
 have e:A8 [⟨[],A21 ds⟩] r=N3 (A21 ds) r:=by simp [A8,Ak9]
 rw[e]
 unfold inR N3 A21 ofT
 constructor
 ·rintro⟨x,hx,h1,h2⟩
  obtain⟨s,hs,rfl⟩:=List.mem_map.1 hx
  obtain⟨hs,hq⟩:=List.mem_filter.1 hs
  obtain⟨d,hd,rfl⟩:=List.mem_map.1 hs
  simp only [decide_eq_true_eq]at hq h1 h2
  refine⟨⟨d.num,d.num⟩,List.mem_map.2 ⟨d,List.mem_filter.2 ⟨hd,?_⟩,rfl⟩,h1,h2⟩
  rw[Bool.and_eq_true,decide_eq_true_eq]
  exact⟨by unfold I0;rw[decide_eq_true_eq];omega,hq⟩
 ·rintro⟨x,hx,h1,h2⟩
  obtain⟨d,hd,rfl⟩:=List.mem_map.1 hx
  obtain⟨hd,hq⟩:=List.mem_filter.1 hd
  rw[Bool.and_eq_true,decide_eq_true_eq]at hq
  exact⟨⟨d.num,d.num⟩,List.mem_map.2 ⟨⟨d.rep,d.num,d.num⟩,List.mem_filter.2 ⟨List.mem_map.2 ⟨d,hd,rfl⟩,by simpa using hq.2⟩,rfl⟩,h1,h2⟩
theorem B5o(p:Past)(hb:p.cloud.length*16≤140737488350000):Con Tryz.prog 90 [.agg (c26 p)] (.agg (Bh3 (tnS (D5 (A8 [p]))))) :=
 by
 refine sC A6 [.cell 2 144] 6 Tryz.func90 ?_
 intro e0 cx
 refine sq<|rG cx [1,2] [1,2] z0<|sn<|sq<|rG cx [2] [2] (fT (B7o ([p]) ?g0) (oA 2 (.agg (E2 c3 16 (tnS (D5 (A8 [p]))))) z0)) ?_;rotate_left
 refine sn<|rT<|qR (.agg [.sl (List.map c3 (tnS (D5 (A8 [p])) (0))),.sl (List.map c3 (tnS (D5 (A8 [p])) (1))),.sl (List.map c3 (tnS (D5 (A8 [p])) (2))),.sl (List.map c3 (tnS (D5 (A8 [p])) (3))),.sl (List.map c3 (tnS (D5 (A8 [p])) (4))),.sl (List.map c3 (tnS (D5 (A8 [p])) (5))),.sl (List.map c3 (tnS (D5 (A8 [p])) (6))),.sl (List.map c3 (tnS (D5 (A8 [p])) (7))),.sl (List.map c3 (tnS (D5 (A8 [p])) (8))),.sl (List.map c3 (tnS (D5 (A8 [p])) (9))),.sl (List.map c3 (tnS (D5 (A8 [p])) (10))),.sl (List.map c3 (tnS (D5 (A8 [p])) (11))),.sl (List.map c3 (tnS (D5 (A8 [p])) (12))),.sl (List.map c3 (tnS (D5 (A8 [p])) (13))),.sl (List.map c3 (tnS (D5 (A8 [p])) (14))),.sl (List.map c3 (tnS (D5 (A8 [p])) (15)))]) (.eq ?g1);rotate_left
 case g0=>exact(by rw[Af4];omega)
 case g1=>exact rfl
theorem B5p(p:Past)(hb:p.cloud.length*16≤140737488350000):Con Tryz.prog 80 [.agg (c26 p)] (.agg (c26 (A3 p))) :=
 by
 refine sC A6 [.cell 2 26] 6 Tryz.func80 ?_
 intro e0 cx
 refine sq<|rG cx [1,2] [1,2] z0<|sn<|sq<|rG cx [2] [2] (fT (B5o (p) (by(with_reducible assumption))) (fT (B1i (D5 (A8 [p])) ?g0) (oA 1 (.agg (E2 c3 16 (tnS (D5 (A8 [p]))))) (oA 2 (.agg [.sl (List.map c3 (E8 (D5 (A8 [p]))).vec),.sl (List.map A9 (E8 (D5 (A8 [p]))).cloud)]) z0)))) ?_;rotate_left
 refine sn<|rT<|qR (.agg [.sl (List.map c3 (E8 (D5 (A8 [p]))).vec),.sl (List.map A9 (E8 (D5 (A8 [p]))).cloud)]) (.eq ?g1);rotate_left
 case g0=>exact(A30 _)
 case g1=>exact(by rw[Z6];rfl)
theorem Ag7(p:Past)(hb:p.cloud.length*16≤140737488350000)(hv:p.vec.length≤9223372036854775807):Con Tryz.prog 74 [.agg (c26 p)] (.b (decide (p=A3 p))) :=
 by
 refine sC A6 [.tmp 2] 7 Tryz.func74 ?_
 intro e0 cx
 refine sq<|rG cx [1] [1] z0<|sn<|sq<|rA cx [2] [] (fT (B5p (p) (by(with_reducible assumption))) (fT (Ag2 (p) (A3 p) (by(with_reducible assumption)) (by omega)) (oA 2 (.agg [.sl (List.map c3 (A3 p).vec),.sl (List.map A9 (A3 p).cloud)]) (oA 3 (.b (decide (p=A3 p))) z0))))<|sn<|rT ?_
 exact A3h (r:=.b (decide (p=A3 p))) (obl:=[]) (by kernel_rfl) trivial (B5.refl _)
theorem con122(ds:List Dot)(hb:ds.length*24≤140737488350000):Con Tryz.prog 122 [.sl (ds.map c44)] (.agg (c26 (E8 (ofT ds)))) :=
 by
 refine lN 0 c44 (ds) Tryz.func122 fun hl_0=>sC A6 [.cell 2 26] 34 Tryz.func122 ?_
 intro e0 cx
 refine sq<|rG cx [0,2] [2] z0<|sn<|sq<|rG cx [0,2,3] [2,3] z0<|sn<|sq<|sq<|rG cx [0,2,3,4] [2,3] z0<|sn<|bL 0<|A1x 3 141 3 1 5301 (σ':=⟨[(0,.sl (List.map c44 ds)),(2,.ptr (2) (0) (0) (0)),(3,.ptr (3) (0) (0) (0)),(4,.i .i64 ((0:Int)))],[(2,⟨0,26,.var [.nl,.nl]⟩),(3,⟨0,26,.var [.nl,.own 5301 0]⟩),(5301,⟨0,141,.row 3 (List.map A9 [])⟩)]⟩) (by kernel_rfl)<|sL (X:=Int×List Span) (fun x=>⟨[(0,.sl (List.map c44 ds)),(2,.ptr (2) (0) (0) (0)),(3,.ptr (3) (0) (0) (0)),(4,.i .i64 (x.1))],[(2,⟨0,26,.var [.nl,.nl]⟩),(3,⟨0,26,.var [.nl,.own 5301 0]⟩),(5301,⟨0,141,.row 3 (List.map A9 x.2)⟩)]⟩) (fun x ↦ decOf ds x.1 x.2) (fun x ↦ Ba6 ds x.1 x.2) [0,2,3,4] [2,3,5301] (((0:Int),[])) (show Ba6 ds (0:Int) []from(by exact⟨by omega,by omega,rfl,rfl⟩)) ?_
 rintro⟨i0,c1⟩ h_2
 obtain⟨hh3,hh4,h5,h6⟩:0≤i0∧i0≤(↑ds.length:Int)∧(↑c1.length:Int)=i0∧A23 ds i0 c1:=h_2
 refine sq<|rD cx [0,2,3,4,8] [2,3,5301] (tL 2 c44 ds (zB 3 (i0 <(↑ds.length:Int)))) (fun h7=>?_) fun h7=>?_
 refine sK<|sn<|sq<|bL 1<|rA cx [0,2,3,4] [2,3,5301] (fA (0≤i0) (fG c44 ds i0.toNat (fR 2 (fA (0≤i0) (fG c44 ds i0.toNat (fR 2 (fA (0≤i0) (fG c44 ds i0.toNat (fR 2 (fR 141 (fR 3 (fR 3 (fX A9 [{ rep:=ds[i0.toNat]!.rep,lo:=ds[i0.toNat]!.num,hi:=ds[i0.toNat]!.num:Span }] 3 (fS A9 c1 A9 [{ rep:=ds[i0.toNat]!.rep,lo:=ds[i0.toNat]!.num,hi:=ds[i0.toNat]!.num:Span }] (fP (((List.map A9 c1).length+(List.map A9 [{ rep:=ds[i0.toNat]!.rep,lo:=ds[i0.toNat]!.num,hi:=ds[i0.toNat]!.num:Span }]).length)*(24:Nat)≤(140737488355328:Nat)) (by(simp only [Go.maxLen,List.length_map,List.length_append,List.length_cons,List.length_nil];omega)) (fM A9 c1 [{ rep:=ds[i0.toNat]!.rep,lo:=ds[i0.toNat]!.num,hi:=ds[i0.toNat]!.num:Span }] (oR 4 (c44 ds[i0.toNat]!) (oR 9 (c44 ds[i0.toNat]!) (oR 14 (c44 ds[i0.toNat]!) (oV 19 { rows:=some (List.map A9 (c1++[{ rep:=ds[i0.toNat]!.rep,lo:=ds[i0.toNat]!.num,hi:=ds[i0.toNat]!.num:Span }])) } z0))))))))))))))))))))<|bN<|sn<|rG cx [0,2,3,4] [2,3,5301] (tW 1 (i0+1) z0)<|sn<|nX ((i0+1,c1++[{ rep:=ds[i0.toNat]!.rep,lo:=ds[i0.toNat]!.num,hi:=ds[i0.toNat]!.num:Span }])) (show((↑ds.length:Int)-(i0+1)).toNat <((↑ds.length:Int)-i0).toNat from(by omega)) (show Ba6 ds (i0+1) (c1++[{ rep:=ds[i0.toNat]!.rep,lo:=ds[i0.toNat]!.num,hi:=ds[i0.toNat]!.num:Span }])from(by exact⟨by omega,by omega,by rw[List.length_append];simp only [List.length_cons,List.length_nil];omega,Aa5 hh3 h7 h6⟩))
 refine eX 0<|nE<|nE<|bH<|sn<|sq<|N8 [5301] [0,2,3,4,8] [2,3] (σ':=⟨[(0,.sl (List.map c44 ds)),(2,.ptr (2) (0) (0) (0)),(3,.ptr (3) (0) (0) (0)),(4,.i .i64 (i0)),(8,.b (decide (i0 <(↑ds.length:Int))))],[(2,⟨0,26,.var [.nl,.nl]⟩),(3,⟨0,26,.var [.nl,.sl (List.map A9 c1)]⟩)]⟩) (by kernel_rfl)<|rG cx [2] [2] (fP (Con Tryz.prog (80:Nat) [AV.agg [AV.nl,AV.sl (List.map A9 c1)]] (AV.agg [AV.sl (List.map c3 (A3 { vec:=[],cloud:=c1:Past }).vec),AV.sl (List.map A9 (A3 { vec:=[],cloud:=c1:Past }).cloud)])) (Con.le (B5p ({ vec:=[],cloud:=c1:Past }) (by(first | omega | (simp only [List.length_map];omega)))) (ZLe.cons (B5.agg (ZLe.cons B5.nl (ZLe.cons (B5.refl _) ZLe.nil))) ZLe.nil)) (oA 1 (.agg [.sl (List.map c3 (A3 { vec:=[],cloud:=c1:Past }).vec),.sl (List.map A9 (A3 { vec:=[],cloud:=c1:Past }).cloud)]) z0)) ?_
 refine sn<|rT<|qR (.agg [.sl (List.map c3 (A3 { vec:=[],cloud:=c1:Past }).vec),.sl (List.map A9 (A3 { vec:=[],cloud:=c1:Past }).cloud)]) (.eq ?g2);rotate_left
 case g2 =>
  unfold A23 at h6
  rw[List.take_of_length_le (by omega)]at h6
  rw[h6]
  unfold A3
  rw[B5n]
  rfl
end Go.Proofs.YtphcaholhacnpaaGreat
namespace Go.Proofs.YtphcaholhacnpaaGreat
open Go.E
set_option maxRecDepth 100000
set_option maxHeartbeats 4000000
def B37(U V:Nat→List Run)(r:Nat):List Run:=V3 (U r) (V r)
def sepU(U:Nat→List Run):Prop:=∀ r:Nat,r < 16→M0 (U r)
def A4f(a b:List Int)(f:Bool→Bool→Bool)(i j:Int)(w:Bool)(t:List Int):Prop:=0≤i∧i≤a.length∧0≤j∧j≤b.length∧(t.length:Int)≤i+j∧A2i f a b i j w t
def decCb(a b:List Int)(i j:Int)(w:Bool)(t:List Int):Nat:=(a.length-i+(b.length-j)).toNat
def isCo(U V:Nat→List Run)(r:Int)(S:Nat→List Int):Prop:=∀ k:Nat,(k:Int) < r→S k=tnS (B37 U V) k
def Ba7(U V:Nat→List Run)(r:Int)(A B S:Nat→List Int):Prop:=A=tnS U∧B=tnS V∧0≤r∧r≤16∧isCo U V r S
def decCo(r:Int)(A B S:Nat→List Int):Nat:=(16-r).toNat
theorem rule2(x y:Bool):N0 2 x y=(x && !y):=by unfold N0;simp
theorem B1j{A B:List Run}(hA:M0 A)(hB:M0 B):H0 (N0 2) (C9 A) (C9 B) false false false=C9 (V3 A B):=by
 refine At7 _ rfl hA hB (A1h A B) fun n=>?_
 rw[B0c,A3u hA,A3u hB,rule2,Bool.and_eq_true,Bool.not_eq_true',A7n,← Bool.not_eq_true,A7n]
theorem B1k{U:Nat→List Run}(h:sepU U){r:Nat}(hr:r < 16):(tnS U r).length≤1000000000:=by
 unfold tnS
 rw[A4e]
 have:=L6 (h r hr)
 omega
theorem B1l{U V:Nat→List Run}{r:Int}{S:Nat→List Int}(hU:sepU U)(hV:sepU V)(h0:0≤r)(h1:r < 16)(h:isCo U V r S) :
  isCo U V (r+1) (J8 S r.toNat (H0 (N0 2) (tnS U r.toNat) (tnS V r.toNat) false false false)):=by
 intro k hk
 unfold J8
 by_cases e:k=r.toNat
 ·subst e
  rw[if_pos rfl]
  exact B1j (hU _ (by omega)) (hV _ (by omega))
 ·rw[if_neg e]
  exact h k (by omega)
theorem B5q(a b:List Run):V3 (nrm a) (nrm b)=V3 a b:=by unfold V3;rw[A3v,A3v]
theorem Ba8(a b:Past):E8 (B37 (D5 (A8 [a])) (D5 (A8 [b])))=B3 a b:=O4 fun r _=>B5q _ _
def Ba9(U:Nat→List Run)(n r:Int)(S:Nat→List Int):Prop:=S=tnS U∧0≤r∧r≤16∧n=sizeT U r.toNat
def decRs(n r:Int)(S:Nat→List Int):Nat:=(16-r).toNat
def Bb0(U:Nat→List Run)(r n0 n k:Int)(S:Nat→List Int):Prop:=S=tnS U∧0≤k∧k≤2*(U r.toNat).length∧2*(k / 2)=k∧n=n0+G5 ((U r.toNat).take (k / 2).toNat)
def decRt(U:Nat→List Run)(r n k:Int)(S:Nat→List Int):Nat:=(2*(U r.toNat).length-k).toNat
theorem B7p{T:Nat→List Run}(r:Nat):nrm (D5 T r)=D5 T r:=A3v _
theorem Aa6(T:Nat→List Run):∀ n:Nat,sizeT (D5 T) n=sizeT T n
 | 0=>rfl
 | n+1=>by rw[sizeT,sizeT,Aa6 T n,B7p];rfl
theorem A01{rule i j:Int}(h0:0≤i)(j0:0≤j):decide (rule=1∧i.tmod 2=1∧j.tmod 2=1∨¬rule=1∧rule=2∧i.tmod 2=1∧¬j.tmod 2=1)=N0 rule (Av5 i) (Av5 j):=by
 rw[Int.tmod_eq_emod_of_nonneg h0,Int.tmod_eq_emod_of_nonneg j0]
 unfold N0 Av5
 by_cases a:rule=1 <;> by_cases b:rule=2 <;> by_cases c:i % 2=1 <;> by_cases d:j % 2=1 <;> simp [a,b,c,d] <;> omega
theorem B1m{l:List Run}{k:Int}(h0:0≤k)(he:2*(k / 2)=k)(h:k+1 < 2*l.length):G5 (l.take ((k+2) / 2).toNat)=G5 (l.take (k / 2).toNat)+(l[(k / 2).toNat]!.hi-l[(k / 2).toNat]!.lo+1):=by
 rw[show(k+2) / 2=k / 2+1 by omega]
 exact A5z (by omega) (by omega)
theorem con186(a b:List Int)(rule:Int)(ha:a.length≤1000000000)(hb:b.length≤1000000000):Con Tryz.prog 186 [.sl (a.map c3),.sl (b.map c3),.i .i64 rule] (.sl ((H0 (N0 rule) a b false false false).map c3)) :=
 by
 have st:∀ {f:Bool→Bool→Bool} {i j i' j' u:Int} {w w':Bool} {t t':List Int},0≤i→i≤a.length→0≤j→j≤b.length→(t.length:Int)≤i+j→A2i f a b i j w t→(i < a.length∨j < b.length) →
   (u=if ¬ j < b.length∨(i < a.length∧a[i.toNat]! < b[j.toNat]!)then a[i.toNat]! else b[j.toNat]!) →
   (i'=if i < a.length∧a[i.toNat]! = u then i+1 else i)→(j'=if j < b.length∧b[j.toNat]! = u then j+1 else j)→i+j+1≤i'+j' →
   w'=f (Av5 i') (Av5 j')→(t'=if w'=w then t else t++[u])→A4f a b f i' j' w' t':=by
  intro f i j i' j' u w w' t t' h0 h1 h2 h3 h4 h5 ho hu hi hj hm hw ht
  refine⟨?_,?_,?_,?_,?_,B1a h0 h2 ho hu hi hj hw ht h5⟩
  ·rw[hi];split <;> omega
  ·rw[hi];split <;> omega
  ·rw[hj];split <;> omega
  ·rw[hj];split <;> omega
  ·rw[ht]
   split
   ·omega
   ·rw[List.length_append,List.length_singleton];omega
 refine lN 0 c3 (a) Tryz.func186 fun hl_0=>lN 1 c3 (b) Tryz.func186 fun hl_1=>sC A6 [.tmp 6] 116 Tryz.func186 ?_
 intro e0 cx
 refine sq<|rG cx [0,1,2] [] z0<|sn<|sq<|rG cx [0,1,2,7] [] z0<|sn<|sq<|rG cx [0,1,2,7,8,9] [] z0<|sn<|sq<|rG cx [0,1,2,7,8,9,10] [] z0<|sn<|sq<|bL 0<|E0 7 1007 3 1 (σ':=⟨[(0,.sl (List.map c3 a)),(1,.sl (List.map c3 b)),(2,.i .i64 (rule)),(7,.own 1007 0),(8,.i .i64 ((0:Int))),(9,.i .i64 ((0:Int))),(10,.b (false))],[(1007,⟨0,3,.row 1 (List.map c3 [])⟩)]⟩) (by kernel_rfl)<|sL (X:=Int×Int×Bool×List Int) (fun x=>⟨[(0,.sl (List.map c3 a)),(1,.sl (List.map c3 b)),(2,.i .i64 (rule)),(7,.own 1007 0),(8,.i .i64 (x.1)),(9,.i .i64 (x.2.1)),(10,.b (x.2.2.1))],[(1007,⟨0,3,.row 1 (List.map c3 x.2.2.2)⟩)]⟩) (fun x ↦ decCb a b x.1 x.2.1 x.2.2.1 x.2.2.2) (fun x ↦ A4f a b (N0 rule) x.1 x.2.1 x.2.2.1 x.2.2.2) [0,1,2,7,8,9,10] [1007] (((0:Int),(0:Int),false,[])) (show A4f a b (N0 rule) (0:Int) (0:Int) false []from(by exact⟨by omega,by omega,by omega,by omega,by simp,rfl⟩)) ?_
 rintro⟨i0,j1,w2,t3⟩ h_4
 obtain⟨hh5,hh6,hh7,hh8,hh9,hh10⟩:0≤i0∧i0≤(↑a.length:Int)∧0≤j1∧j1≤(↑b.length:Int)∧(↑t3.length:Int)≤i0+j1∧A2i (N0 rule) a b i0 j1 w2 t3:=h_4
 refine sq<|sq<|B1 (σ':=⟨[(0,.sl (List.map c3 a)),(1,.sl (List.map c3 b)),(2,.i .i64 (rule)),(7,.own 1007 0),(8,.i .i64 (i0)),(9,.i .i64 (j1)),(10,.b (w2)),(24,.b (decide (i0 <(↑a.length:Int)∨j1 <(↑b.length:Int))))],[(1007,⟨0,3,.row 1 (List.map c3 t3)⟩)]⟩) ?_ ?_
 refine A5 (i0 <(↑a.length:Int)) (fun h_12=>?_) (fun h_12=>?_)
 refine rG cx [0,1,2,7,8,9,10,24] [1007] (tL 2 c3 a (tT 3 (A4 h_12) (tD 9 true (i0 <(↑a.length:Int)∨j1 <(↑b.length:Int)) (by simp only [eq_true h_12,tsl]) z0))) ?_
 exact⟨rfl,by kernel_rfl⟩
 refine rG cx [0,1,2,7,8,9,10,24] [1007] (tL 2 c3 a (tT 3 (A0 h_12) (tL 7 c3 b (tB 8 (j1 <(↑b.length:Int)) (tD 9 (decide (j1 <(↑b.length:Int))) (i0 <(↑a.length:Int)∨j1 <(↑b.length:Int)) (by simp only [eq_false h_12,tsl]) z0))))) ?_
 exact⟨rfl,by kernel_rfl⟩
 refine sn<|dC (i0 <(↑a.length:Int)∨j1 <(↑b.length:Int)) (fun h13=>?_) fun h13=>?_
 refine sK<|sn<|bL 1<|sq<|rG cx [0,1,2,7,8,9,10] [1007] z0<|sn<|sq<|sq<|B1 (σ':=⟨[(0,.sl (List.map c3 a)),(1,.sl (List.map c3 b)),(2,.i .i64 (rule)),(7,.own 1007 0),(8,.i .i64 (i0)),(9,.i .i64 (j1)),(10,.b (w2)),(45,.b (decide (j1=(↑b.length:Int)∨i0 <(↑a.length:Int)∧a[i0.toNat]! < b[j1.toNat]!)))],[(1007,⟨0,3,.row 1 (List.map c3 t3)⟩)]⟩) ?_ ?_
 refine A5 (j1=(↑b.length:Int)) (fun h_15=>?_) (fun h_15=>?_)
 refine rA cx [0,1,2,7,8,9,10,45] [1007] (tL 2 c3 b (tT 3 (A4 h_15) (tD 20 true (j1=(↑b.length:Int)∨i0 <(↑a.length:Int)∧a[i0.toNat]! < b[j1.toNat]!) (by simp only [eq_true h_15,tsl]) z0))) ?_
 exact⟨rfl,by kernel_rfl⟩
 refine A5 (i0 <(↑a.length:Int)) (fun h_16=>?_) (fun h_16=>?_)
 refine rA cx [0,1,2,7,8,9,10,45] [1007] (tL 2 c3 b (tT 3 (A0 h_15) (tL 7 c3 a (tT 8 (A4 h_16) (fA (0≤i0) (fG c3 a i0.toNat (fR 1 (fA (0≤j1) (fG c3 b j1.toNat (fR 1 (tB 18 (a[i0.toNat]! < b[j1.toNat]!) (tD 20 (decide (a[i0.toNat]! < b[j1.toNat]!)) (j1=(↑b.length:Int)∨i0 <(↑a.length:Int)∧a[i0.toNat]! < b[j1.toNat]!) (by simp only [eq_false h_15,eq_true h_16,tsl]) (oR 12 (c3 a[i0.toNat]!) (oR 16 (c3 b[j1.toNat]!) z0)))))))))))))) ?_
 exact⟨rfl,by kernel_rfl⟩
 refine rA cx [0,1,2,7,8,9,10,45] [1007] (tL 2 c3 b (tT 3 (A0 h_15) (tL 7 c3 a (tT 8 (A0 h_16) (tD 20 false (j1=(↑b.length:Int)∨i0 <(↑a.length:Int)∧a[i0.toNat]! < b[j1.toNat]!) (by simp only [eq_false h_15,eq_false h_16,tsl]) z0))))) ?_
 exact⟨rfl,by kernel_rfl⟩
 refine sn<|dC (j1=(↑b.length:Int)∨i0 <(↑a.length:Int)∧a[i0.toNat]! < b[j1.toNat]!) (fun h17=>?_) fun h17=>?_
 refine rG cx [0,1,2,7,8,9,10,11] [1007] (fA (0≤i0) (fG c3 a i0.toNat (fR 1 (oR 2 (c3 a[i0.toNat]!) z0))))<|sn<|sq<|sq<|A5 (i0 <(↑a.length:Int)) (fun h18=>?_) (fun h18=>absurd (by omega) h18)
 refine rG cx [0,1,2,7,8,9,10,11,65] [1007] (tL 2 c3 a (tT 3 (A4 h18) (fA (0≤i0) (fG c3 a i0.toNat (fR 1 (tT 10 (A16:AV.b (a[i0.toNat]! == a[i0.toNat]!)=AV.b true) (oR 7 (c3 a[i0.toNat]!) z0)))))))<|sn<|A6u (by kernel_rfl) (by kernel_rfl)<|rG cx [0,1,2,7,8,9,10,11] [1007] (tW 1 (i0+1) z0)<|sn<|sq<|sq<|B1 (σ':=⟨[(0,.sl (List.map c3 a)),(1,.sl (List.map c3 b)),(2,.i .i64 (rule)),(7,.own 1007 0),(8,.i .i64 (i0+1)),(9,.i .i64 (j1)),(10,.b (w2)),(11,.i .i64 (a[i0.toNat]!)),(79,.b (decide (j1 <(↑b.length:Int)∧b[j1.toNat]! = a[i0.toNat]!)))],[(1007,⟨0,3,.row 1 (List.map c3 t3)⟩)]⟩) ?_ ?_
 refine A5 (j1 <(↑b.length:Int)) (fun h_20=>?_) (fun h_20=>?_)
 refine rG cx [0,1,2,7,8,9,10,11,79] [1007] (tL 2 c3 b (tT 3 (A4 h_20) (fA (0≤j1) (fG c3 b j1.toNat (fR 1 (tB 10 (b[j1.toNat]! = a[i0.toNat]!) (tD 11 (decide (b[j1.toNat]! = a[i0.toNat]!)) (j1 <(↑b.length:Int)∧b[j1.toNat]! = a[i0.toNat]!) (by simp only [eq_true h_20,tsl]) (oR 7 (c3 b[j1.toNat]!) z0)))))))) ?_
 exact⟨rfl,by kernel_rfl⟩
 refine rG cx [0,1,2,7,8,9,10,11,79] [1007] (tL 2 c3 b (tT 3 (A0 h_20) (tD 11 false (j1 <(↑b.length:Int)∧b[j1.toNat]! = a[i0.toNat]!) (by simp only [eq_false h_20,tsl]) z0))) ?_
 exact⟨rfl,by kernel_rfl⟩
 refine sn<|dC (j1 <(↑b.length:Int)∧b[j1.toNat]! = a[i0.toNat]!) (fun h21=>?_) fun h21=>?_
 refine rG cx [0,1,2,7,8,9,10,11] [1007] (tW 1 (j1+1) z0)<|sn<|sq<|rG cx [0,1,2,7,8,9,10,11,12,13] [1007] (tI 1 ((i0+1).tmod (2:Int)) (tB 2 ((i0+1).tmod (2:Int)=(1:Int)) (tI 4 ((j1+1).tmod (2:Int)) (tB 5 ((j1+1).tmod (2:Int)=(1:Int)) z0))))<|sn<|sq<|A5 (rule=1) (fun h22=>?_) (fun h22=>absurd (by omega) h22)
 refine A5 ((i0+1).tmod (2:Int)=(1:Int)) (fun h23=>?_) (fun h23=>absurd (by omega) h23)
 refine A5 ((j1+1).tmod (2:Int)=(1:Int)) (fun h24=>?_) (fun h24=>absurd (by omega) h24)
 refine rG cx [0,1,2,7,8,9,10,11,14] [1007] (tT 1 (A4 h22) (tT 3 (A4 h23) (tT 6 (A4 h24) z0)))<|sn<|sq<|rG cx [0,1,2,7,8,9,10,11,14,109] [1007] (tT 2 (A2x:(AV.b !true == w2)=AV.b (decide ¬true=w2)) z0)<|sn<|dC (¬true=w2) (fun h25=>?_) fun h25=>?_
 refine sq<|rG cx [0,1,2,7,8,9,14] [1007] (fR 3 (fR 1 (fR 1 (fX c3 [a[i0.toNat]!] 1 (fO ((List.map c3 t3).length+(List.map c3 [a[i0.toNat]!]).length≤maxLen) (fO (((List.map c3 t3).length+(List.map c3 [a[i0.toNat]!]).length)*(8:Nat)≤(140737488355328:Nat)) (fM c3 t3 [a[i0.toNat]!] (oV 3 { rows:=some (List.map c3 (t3++[a[i0.toNat]!])) } z0))))))))<|sn<|rG cx [0,1,2,7,8,9,10] [1007] z0<|bN<|sn<|nX ((i0+1,j1+1,true,t3++[a[i0.toNat]!])) (show((↑a.length:Int)-(i0+1)+((↑b.length:Int)-(j1+1))).toNat <((↑a.length:Int)-i0+((↑b.length:Int)-j1)).toNat from(by omega)) (show A4f a b (N0 rule) (i0+1) (j1+1) true (t3++[a[i0.toNat]!])from ?g1);rotate_left
 refine sK<|bN<|sn<|nX ((i0+1,j1+1,w2,t3)) (show((↑a.length:Int)-(i0+1)+((↑b.length:Int)-(j1+1))).toNat <((↑a.length:Int)-i0+((↑b.length:Int)-j1)).toNat from(by omega)) (show A4f a b (N0 rule) (i0+1) (j1+1) w2 t3 from ?g2);rotate_left
 refine sK<|sn<|sq<|rG cx [0,1,2,7,8,9,10,11,12,13] [1007] (tI 1 ((i0+1).tmod (2:Int)) (tB 2 ((i0+1).tmod (2:Int)=(1:Int)) (tI 4 (j1.tmod (2:Int)) (tB 5 (j1.tmod (2:Int)=(1:Int)) z0))))<|sn<|sq<|B1 (σ':=⟨[(0,.sl (List.map c3 a)),(1,.sl (List.map c3 b)),(2,.i .i64 (rule)),(7,.own 1007 0),(8,.i .i64 (i0+1)),(9,.i .i64 (j1)),(10,.b (w2)),(11,.i .i64 (a[i0.toNat]!)),(14,.b (decide (rule=1∧(i0+1).tmod (2:Int)=(1:Int)∧j1.tmod (2:Int)=(1:Int)∨¬rule=1∧rule=2∧(i0+1).tmod (2:Int)=(1:Int)∧¬j1.tmod (2:Int)=(1:Int))))],[(1007,⟨0,3,.row 1 (List.map c3 t3)⟩)]⟩) ?_ ?_
 refine A5 (rule=1) (fun h_27=>?_) (fun h_27=>?_)
 refine A5 ((i0+1).tmod (2:Int)=(1:Int)) (fun h_28=>?_) (fun h_28=>?_)
 refine A5 (j1.tmod (2:Int)=(1:Int)) (fun h_29=>?_) (fun h_29=>?_)
 refine rG cx [0,1,2,7,8,9,10,11,14] [1007] (tT 1 (A4 h_27) (tT 3 (A4 h_28) (tT 6 (A4 h_29) (tD 19 true (rule=1∧(i0+1).tmod (2:Int)=(1:Int)∧j1.tmod (2:Int)=(1:Int)∨¬rule=1∧rule=2∧(i0+1).tmod (2:Int)=(1:Int)∧¬j1.tmod (2:Int)=(1:Int)) (by simp only [eq_true h_27,eq_true h_28,eq_true h_29,tsl]) z0)))) ?_
 exact⟨rfl,by kernel_rfl⟩
 refine A5 (rule=2) (fun h_30=>absurd h_30 (by omega)) (fun h_30=>?_)
 refine rG cx [0,1,2,7,8,9,10,11,14] [1007] (tT 1 (A4 h_27) (tT 3 (A4 h_28) (tT 6 (A0 h_29) (tT 10 (A0 h_30) (tD 19 false (rule=1∧(i0+1).tmod (2:Int)=(1:Int)∧j1.tmod (2:Int)=(1:Int)∨¬rule=1∧rule=2∧(i0+1).tmod (2:Int)=(1:Int)∧¬j1.tmod (2:Int)=(1:Int)) (by simp only [eq_true h_27,eq_true h_28,eq_false h_29,tsl]) z0))))) ?_
 exact⟨rfl,by kernel_rfl⟩
 refine A5 (rule=2) (fun h_31=>absurd h_31 (by omega)) (fun h_31=>?_)
 refine rG cx [0,1,2,7,8,9,10,11,14] [1007] (tT 1 (A4 h_27) (tT 3 (A0 h_28) (tT 10 (A0 h_31) (tD 19 false (rule=1∧(i0+1).tmod (2:Int)=(1:Int)∧j1.tmod (2:Int)=(1:Int)∨¬rule=1∧rule=2∧(i0+1).tmod (2:Int)=(1:Int)∧¬j1.tmod (2:Int)=(1:Int)) (by simp only [eq_true h_27,eq_false h_28,tsl]) z0)))) ?_
 exact⟨rfl,by kernel_rfl⟩
 refine A5 (rule=2) (fun h_32=>?_) (fun h_32=>?_)
 refine A5 ((i0+1).tmod (2:Int)=(1:Int)) (fun h_33=>?_) (fun h_33=>?_)
 refine rG cx [0,1,2,7,8,9,10,11,14] [1007] (tT 1 (A0 h_27) (tT 10 (A4 h_32) (tT 12 (A4 h_33) (tQ 16 (j1.tmod (2:Int)=(1:Int)) (tD 19 (decide ¬j1.tmod (2:Int)=(1:Int)) (rule=1∧(i0+1).tmod (2:Int)=(1:Int)∧j1.tmod (2:Int)=(1:Int)∨¬rule=1∧rule=2∧(i0+1).tmod (2:Int)=(1:Int)∧¬j1.tmod (2:Int)=(1:Int)) (by simp only [eq_false h_27,eq_true h_32,eq_true h_33,tsl]) z0))))) ?_
 exact⟨rfl,by kernel_rfl⟩
 refine rG cx [0,1,2,7,8,9,10,11,14] [1007] (tT 1 (A0 h_27) (tT 10 (A4 h_32) (tT 12 (A0 h_33) (tD 19 false (rule=1∧(i0+1).tmod (2:Int)=(1:Int)∧j1.tmod (2:Int)=(1:Int)∨¬rule=1∧rule=2∧(i0+1).tmod (2:Int)=(1:Int)∧¬j1.tmod (2:Int)=(1:Int)) (by simp only [eq_false h_27,eq_true h_32,eq_false h_33,tsl]) z0)))) ?_
 exact⟨rfl,by kernel_rfl⟩
 refine rG cx [0,1,2,7,8,9,10,11,14] [1007] (tT 1 (A0 h_27) (tT 10 (A0 h_32) (tD 19 false (rule=1∧(i0+1).tmod (2:Int)=(1:Int)∧j1.tmod (2:Int)=(1:Int)∨¬rule=1∧rule=2∧(i0+1).tmod (2:Int)=(1:Int)∧¬j1.tmod (2:Int)=(1:Int)) (by simp only [eq_false h_27,eq_false h_32,tsl]) z0))) ?_
 exact⟨rfl,by kernel_rfl⟩
 refine sn<|sq<|rG cx [0,1,2,7,8,9,10,11,14,109] [1007] (tT 2 (A2x:(AV.b !decide (rule=1∧(i0+1).tmod (2:Int)=(1:Int)∧j1.tmod (2:Int)=(1:Int)∨¬rule=1∧rule=2∧(i0+1).tmod (2:Int)=(1:Int)∧¬j1.tmod (2:Int)=(1:Int)) == w2)=AV.b (decide ¬decide (rule=1∧(i0+1).tmod (2:Int)=(1:Int)∧j1.tmod (2:Int)=(1:Int)∨¬rule=1∧rule=2∧(i0+1).tmod (2:Int)=(1:Int)∧¬j1.tmod (2:Int)=(1:Int))=w2)) z0)<|sn<|dC (¬decide (rule=1∧(i0+1).tmod (2:Int)=(1:Int)∧j1.tmod (2:Int)=(1:Int)∨¬rule=1∧rule=2∧(i0+1).tmod (2:Int)=(1:Int)∧¬j1.tmod (2:Int)=(1:Int))=w2) (fun h34=>?_) fun h34=>?_
 refine sq<|rG cx [0,1,2,7,8,9,14] [1007] (fR 3 (fR 1 (fR 1 (fX c3 [a[i0.toNat]!] 1 (fS c3 t3 c3 [a[i0.toNat]!] (fP (((List.map c3 t3).length+(List.map c3 [a[i0.toNat]!]).length)*(8:Nat)≤(140737488355328:Nat)) (by(simp only [Go.maxLen,List.length_map,List.length_append,List.length_cons,List.length_nil];omega)) (fM c3 t3 [a[i0.toNat]!] (oV 3 { rows:=some (List.map c3 (t3++[a[i0.toNat]!])) } z0))))))))<|sn<|rG cx [0,1,2,7,8,9,10] [1007] z0<|bN<|sn<|nX ((i0+1,j1,decide (rule=1∧(i0+1).tmod (2:Int)=(1:Int)∧j1.tmod (2:Int)=(1:Int)∨¬rule=1∧rule=2∧(i0+1).tmod (2:Int)=(1:Int)∧¬j1.tmod (2:Int)=(1:Int)),t3++[a[i0.toNat]!])) (show((↑a.length:Int)-(i0+1)+((↑b.length:Int)-j1)).toNat <((↑a.length:Int)-i0+((↑b.length:Int)-j1)).toNat from(by omega)) (show A4f a b (N0 rule) (i0+1) j1 (decide (rule=1∧(i0+1).tmod (2:Int)=(1:Int)∧j1.tmod (2:Int)=(1:Int)∨¬rule=1∧rule=2∧(i0+1).tmod (2:Int)=(1:Int)∧¬j1.tmod (2:Int)=(1:Int))) (t3++[a[i0.toNat]!])from ?g3);rotate_left
 refine sK<|bN<|sn<|nX ((i0+1,j1,w2,t3)) (show((↑a.length:Int)-(i0+1)+((↑b.length:Int)-j1)).toNat <((↑a.length:Int)-i0+((↑b.length:Int)-j1)).toNat from(by omega)) (show A4f a b (N0 rule) (i0+1) j1 w2 t3 from ?g4);rotate_left
 refine rG cx [0,1,2,7,8,9,10,11] [1007] (fA (0≤j1) (fG c3 b j1.toNat (fR 1 (oR 2 (c3 b[j1.toNat]!) z0))))<|sn<|sq<|sq<|B1 (σ':=⟨[(0,.sl (List.map c3 a)),(1,.sl (List.map c3 b)),(2,.i .i64 (rule)),(7,.own 1007 0),(8,.i .i64 (i0)),(9,.i .i64 (j1)),(10,.b (w2)),(11,.i .i64 (b[j1.toNat]!)),(65,.b (decide (i0 <(↑a.length:Int)∧a[i0.toNat]! = b[j1.toNat]!)))],[(1007,⟨0,3,.row 1 (List.map c3 t3)⟩)]⟩) ?_ ?_
 refine A5 (i0 <(↑a.length:Int)) (fun h_36=>?_) (fun h_36=>?_)
 refine rG cx [0,1,2,7,8,9,10,11,65] [1007] (tL 2 c3 a (tT 3 (A4 h_36) (fA (0≤i0) (fG c3 a i0.toNat (fR 1 (tB 10 (a[i0.toNat]! = b[j1.toNat]!) (tD 11 (decide (a[i0.toNat]! = b[j1.toNat]!)) (i0 <(↑a.length:Int)∧a[i0.toNat]! = b[j1.toNat]!) (by simp only [eq_true h_36,tsl]) (oR 7 (c3 a[i0.toNat]!) z0)))))))) ?_
 exact⟨rfl,by kernel_rfl⟩
 refine rG cx [0,1,2,7,8,9,10,11,65] [1007] (tL 2 c3 a (tT 3 (A0 h_36) (tD 11 false (i0 <(↑a.length:Int)∧a[i0.toNat]! = b[j1.toNat]!) (by simp only [eq_false h_36,tsl]) z0))) ?_
 exact⟨rfl,by kernel_rfl⟩
 refine sn<|dC (i0 <(↑a.length:Int)∧a[i0.toNat]! = b[j1.toNat]!) (fun h37=>?_) fun h37=>?_
 refine rG cx [0,1,2,7,8,9,10,11] [1007] (tW 1 (i0+1) z0)<|sn<|sq<|sq<|A5 (j1 <(↑b.length:Int)) (fun h38=>?_) (fun h38=>absurd (by omega) h38)
 refine rG cx [0,1,2,7,8,9,10,11,79] [1007] (tL 2 c3 b (tT 3 (A4 h38) (fA (0≤j1) (fG c3 b j1.toNat (fR 1 (tT 10 (A16:AV.b (b[j1.toNat]! == b[j1.toNat]!)=AV.b true) (oR 7 (c3 b[j1.toNat]!) z0)))))))<|sn<|A6u (by kernel_rfl) (by kernel_rfl)<|rG cx [0,1,2,7,8,9,10,11] [1007] (tW 1 (j1+1) z0)<|sn<|sq<|rG cx [0,1,2,7,8,9,10,11,12,13] [1007] (tI 1 ((i0+1).tmod (2:Int)) (tB 2 ((i0+1).tmod (2:Int)=(1:Int)) (tI 4 ((j1+1).tmod (2:Int)) (tB 5 ((j1+1).tmod (2:Int)=(1:Int)) z0))))<|sn<|sq<|B1 (σ':=⟨[(0,.sl (List.map c3 a)),(1,.sl (List.map c3 b)),(2,.i .i64 (rule)),(7,.own 1007 0),(8,.i .i64 (i0+1)),(9,.i .i64 (j1+1)),(10,.b (w2)),(11,.i .i64 (b[j1.toNat]!)),(14,.b (decide (rule=1∧(i0+1).tmod (2:Int)=(1:Int)∧(j1+1).tmod (2:Int)=(1:Int)∨¬rule=1∧rule=2∧(i0+1).tmod (2:Int)=(1:Int)∧¬(j1+1).tmod (2:Int)=(1:Int))))],[(1007,⟨0,3,.row 1 (List.map c3 t3)⟩)]⟩) ?_ ?_
 refine A5 (rule=1) (fun h_40=>?_) (fun h_40=>?_)
 refine A5 ((i0+1).tmod (2:Int)=(1:Int)) (fun h_41=>?_) (fun h_41=>?_)
 refine A5 ((j1+1).tmod (2:Int)=(1:Int)) (fun h_42=>?_) (fun h_42=>?_)
 refine rG cx [0,1,2,7,8,9,10,11,14] [1007] (tT 1 (A4 h_40) (tT 3 (A4 h_41) (tT 6 (A4 h_42) (tD 19 true (rule=1∧(i0+1).tmod (2:Int)=(1:Int)∧(j1+1).tmod (2:Int)=(1:Int)∨¬rule=1∧rule=2∧(i0+1).tmod (2:Int)=(1:Int)∧¬(j1+1).tmod (2:Int)=(1:Int)) (by simp only [eq_true h_40,eq_true h_41,eq_true h_42,tsl]) z0)))) ?_
 exact⟨rfl,by kernel_rfl⟩
 refine A5 (rule=2) (fun h_43=>absurd h_43 (by omega)) (fun h_43=>?_)
 refine rG cx [0,1,2,7,8,9,10,11,14] [1007] (tT 1 (A4 h_40) (tT 3 (A4 h_41) (tT 6 (A0 h_42) (tT 10 (A0 h_43) (tD 19 false (rule=1∧(i0+1).tmod (2:Int)=(1:Int)∧(j1+1).tmod (2:Int)=(1:Int)∨¬rule=1∧rule=2∧(i0+1).tmod (2:Int)=(1:Int)∧¬(j1+1).tmod (2:Int)=(1:Int)) (by simp only [eq_true h_40,eq_true h_41,eq_false h_42,tsl]) z0))))) ?_
 exact⟨rfl,by kernel_rfl⟩
 refine A5 (rule=2) (fun h_44=>absurd h_44 (by omega)) (fun h_44=>?_)
 refine rG cx [0,1,2,7,8,9,10,11,14] [1007] (tT 1 (A4 h_40) (tT 3 (A0 h_41) (tT 10 (A0 h_44) (tD 19 false (rule=1∧(i0+1).tmod (2:Int)=(1:Int)∧(j1+1).tmod (2:Int)=(1:Int)∨¬rule=1∧rule=2∧(i0+1).tmod (2:Int)=(1:Int)∧¬(j1+1).tmod (2:Int)=(1:Int)) (by simp only [eq_true h_40,eq_false h_41,tsl]) z0)))) ?_
 exact⟨rfl,by kernel_rfl⟩
 refine A5 (rule=2) (fun h_45=>?_) (fun h_45=>?_)
 refine A5 ((i0+1).tmod (2:Int)=(1:Int)) (fun h_46=>?_) (fun h_46=>?_)
 refine rG cx [0,1,2,7,8,9,10,11,14] [1007] (tT 1 (A0 h_40) (tT 10 (A4 h_45) (tT 12 (A4 h_46) (tQ 16 ((j1+1).tmod (2:Int)=(1:Int)) (tD 19 (decide ¬(j1+1).tmod (2:Int)=(1:Int)) (rule=1∧(i0+1).tmod (2:Int)=(1:Int)∧(j1+1).tmod (2:Int)=(1:Int)∨¬rule=1∧rule=2∧(i0+1).tmod (2:Int)=(1:Int)∧¬(j1+1).tmod (2:Int)=(1:Int)) (by simp only [eq_false h_40,eq_true h_45,eq_true h_46,tsl]) z0))))) ?_
 exact⟨rfl,by kernel_rfl⟩
 refine rG cx [0,1,2,7,8,9,10,11,14] [1007] (tT 1 (A0 h_40) (tT 10 (A4 h_45) (tT 12 (A0 h_46) (tD 19 false (rule=1∧(i0+1).tmod (2:Int)=(1:Int)∧(j1+1).tmod (2:Int)=(1:Int)∨¬rule=1∧rule=2∧(i0+1).tmod (2:Int)=(1:Int)∧¬(j1+1).tmod (2:Int)=(1:Int)) (by simp only [eq_false h_40,eq_true h_45,eq_false h_46,tsl]) z0)))) ?_
 exact⟨rfl,by kernel_rfl⟩
 refine rG cx [0,1,2,7,8,9,10,11,14] [1007] (tT 1 (A0 h_40) (tT 10 (A0 h_45) (tD 19 false (rule=1∧(i0+1).tmod (2:Int)=(1:Int)∧(j1+1).tmod (2:Int)=(1:Int)∨¬rule=1∧rule=2∧(i0+1).tmod (2:Int)=(1:Int)∧¬(j1+1).tmod (2:Int)=(1:Int)) (by simp only [eq_false h_40,eq_false h_45,tsl]) z0))) ?_
 exact⟨rfl,by kernel_rfl⟩
 refine sn<|sq<|rG cx [0,1,2,7,8,9,10,11,14,109] [1007] (tT 2 (A2x:(AV.b !decide (rule=1∧(i0+1).tmod (2:Int)=(1:Int)∧(j1+1).tmod (2:Int)=(1:Int)∨¬rule=1∧rule=2∧(i0+1).tmod (2:Int)=(1:Int)∧¬(j1+1).tmod (2:Int)=(1:Int)) == w2)=AV.b (decide ¬decide (rule=1∧(i0+1).tmod (2:Int)=(1:Int)∧(j1+1).tmod (2:Int)=(1:Int)∨¬rule=1∧rule=2∧(i0+1).tmod (2:Int)=(1:Int)∧¬(j1+1).tmod (2:Int)=(1:Int))=w2)) z0)<|sn<|dC (¬decide (rule=1∧(i0+1).tmod (2:Int)=(1:Int)∧(j1+1).tmod (2:Int)=(1:Int)∨¬rule=1∧rule=2∧(i0+1).tmod (2:Int)=(1:Int)∧¬(j1+1).tmod (2:Int)=(1:Int))=w2) (fun h47=>?_) fun h47=>?_
 refine sq<|rG cx [0,1,2,7,8,9,14] [1007] (fR 3 (fR 1 (fR 1 (fX c3 [b[j1.toNat]!] 1 (fS c3 t3 c3 [b[j1.toNat]!] (fP (((List.map c3 t3).length+(List.map c3 [b[j1.toNat]!]).length)*(8:Nat)≤(140737488355328:Nat)) (by(simp only [Go.maxLen,List.length_map,List.length_append,List.length_cons,List.length_nil];omega)) (fM c3 t3 [b[j1.toNat]!] (oV 3 { rows:=some (List.map c3 (t3++[b[j1.toNat]!])) } z0))))))))<|sn<|rG cx [0,1,2,7,8,9,10] [1007] z0<|bN<|sn<|nX ((i0+1,j1+1,decide (rule=1∧(i0+1).tmod (2:Int)=(1:Int)∧(j1+1).tmod (2:Int)=(1:Int)∨¬rule=1∧rule=2∧(i0+1).tmod (2:Int)=(1:Int)∧¬(j1+1).tmod (2:Int)=(1:Int)),t3++[b[j1.toNat]!])) (show((↑a.length:Int)-(i0+1)+((↑b.length:Int)-(j1+1))).toNat <((↑a.length:Int)-i0+((↑b.length:Int)-j1)).toNat from(by omega)) (show A4f a b (N0 rule) (i0+1) (j1+1) (decide (rule=1∧(i0+1).tmod (2:Int)=(1:Int)∧(j1+1).tmod (2:Int)=(1:Int)∨¬rule=1∧rule=2∧(i0+1).tmod (2:Int)=(1:Int)∧¬(j1+1).tmod (2:Int)=(1:Int))) (t3++[b[j1.toNat]!])from ?g5);rotate_left
 refine sK<|bN<|sn<|nX ((i0+1,j1+1,w2,t3)) (show((↑a.length:Int)-(i0+1)+((↑b.length:Int)-(j1+1))).toNat <((↑a.length:Int)-i0+((↑b.length:Int)-j1)).toNat from(by omega)) (show A4f a b (N0 rule) (i0+1) (j1+1) w2 t3 from ?g6);rotate_left
 refine sK<|sn<|sq<|sq<|A5 (j1 <(↑b.length:Int)) (fun h48=>?_) (fun h48=>absurd (by omega) h48)
 refine rG cx [0,1,2,7,8,9,10,11,79] [1007] (tL 2 c3 b (tT 3 (A4 h48) (fA (0≤j1) (fG c3 b j1.toNat (fR 1 (tT 10 (A16:AV.b (b[j1.toNat]! == b[j1.toNat]!)=AV.b true) (oR 7 (c3 b[j1.toNat]!) z0)))))))<|sn<|A6u (by kernel_rfl) (by kernel_rfl)<|rG cx [0,1,2,7,8,9,10,11] [1007] (tW 1 (j1+1) z0)<|sn<|sq<|rG cx [0,1,2,7,8,9,10,11,12,13] [1007] (tI 1 (i0.tmod (2:Int)) (tB 2 (i0.tmod (2:Int)=(1:Int)) (tI 4 ((j1+1).tmod (2:Int)) (tB 5 ((j1+1).tmod (2:Int)=(1:Int)) z0))))<|sn<|sq<|B1 (σ':=⟨[(0,.sl (List.map c3 a)),(1,.sl (List.map c3 b)),(2,.i .i64 (rule)),(7,.own 1007 0),(8,.i .i64 (i0)),(9,.i .i64 (j1+1)),(10,.b (w2)),(11,.i .i64 (b[j1.toNat]!)),(14,.b (decide (rule=1∧i0.tmod (2:Int)=(1:Int)∧(j1+1).tmod (2:Int)=(1:Int)∨¬rule=1∧rule=2∧i0.tmod (2:Int)=(1:Int)∧¬(j1+1).tmod (2:Int)=(1:Int))))],[(1007,⟨0,3,.row 1 (List.map c3 t3)⟩)]⟩) ?_ ?_
 refine A5 (rule=1) (fun h_50=>?_) (fun h_50=>?_)
 refine A5 (i0.tmod (2:Int)=(1:Int)) (fun h_51=>?_) (fun h_51=>?_)
 refine A5 ((j1+1).tmod (2:Int)=(1:Int)) (fun h_52=>?_) (fun h_52=>?_)
 refine rG cx [0,1,2,7,8,9,10,11,14] [1007] (tT 1 (A4 h_50) (tT 3 (A4 h_51) (tT 6 (A4 h_52) (tD 19 true (rule=1∧i0.tmod (2:Int)=(1:Int)∧(j1+1).tmod (2:Int)=(1:Int)∨¬rule=1∧rule=2∧i0.tmod (2:Int)=(1:Int)∧¬(j1+1).tmod (2:Int)=(1:Int)) (by simp only [eq_true h_50,eq_true h_51,eq_true h_52,tsl]) z0)))) ?_
 exact⟨rfl,by kernel_rfl⟩
 refine A5 (rule=2) (fun h_53=>absurd h_53 (by omega)) (fun h_53=>?_)
 refine rG cx [0,1,2,7,8,9,10,11,14] [1007] (tT 1 (A4 h_50) (tT 3 (A4 h_51) (tT 6 (A0 h_52) (tT 10 (A0 h_53) (tD 19 false (rule=1∧i0.tmod (2:Int)=(1:Int)∧(j1+1).tmod (2:Int)=(1:Int)∨¬rule=1∧rule=2∧i0.tmod (2:Int)=(1:Int)∧¬(j1+1).tmod (2:Int)=(1:Int)) (by simp only [eq_true h_50,eq_true h_51,eq_false h_52,tsl]) z0))))) ?_
 exact⟨rfl,by kernel_rfl⟩
 refine A5 (rule=2) (fun h_54=>absurd h_54 (by omega)) (fun h_54=>?_)
 refine rG cx [0,1,2,7,8,9,10,11,14] [1007] (tT 1 (A4 h_50) (tT 3 (A0 h_51) (tT 10 (A0 h_54) (tD 19 false (rule=1∧i0.tmod (2:Int)=(1:Int)∧(j1+1).tmod (2:Int)=(1:Int)∨¬rule=1∧rule=2∧i0.tmod (2:Int)=(1:Int)∧¬(j1+1).tmod (2:Int)=(1:Int)) (by simp only [eq_true h_50,eq_false h_51,tsl]) z0)))) ?_
 exact⟨rfl,by kernel_rfl⟩
 refine A5 (rule=2) (fun h_55=>?_) (fun h_55=>?_)
 refine A5 (i0.tmod (2:Int)=(1:Int)) (fun h_56=>?_) (fun h_56=>?_)
 refine rG cx [0,1,2,7,8,9,10,11,14] [1007] (tT 1 (A0 h_50) (tT 10 (A4 h_55) (tT 12 (A4 h_56) (tQ 16 ((j1+1).tmod (2:Int)=(1:Int)) (tD 19 (decide ¬(j1+1).tmod (2:Int)=(1:Int)) (rule=1∧i0.tmod (2:Int)=(1:Int)∧(j1+1).tmod (2:Int)=(1:Int)∨¬rule=1∧rule=2∧i0.tmod (2:Int)=(1:Int)∧¬(j1+1).tmod (2:Int)=(1:Int)) (by simp only [eq_false h_50,eq_true h_55,eq_true h_56,tsl]) z0))))) ?_
 exact⟨rfl,by kernel_rfl⟩
 refine rG cx [0,1,2,7,8,9,10,11,14] [1007] (tT 1 (A0 h_50) (tT 10 (A4 h_55) (tT 12 (A0 h_56) (tD 19 false (rule=1∧i0.tmod (2:Int)=(1:Int)∧(j1+1).tmod (2:Int)=(1:Int)∨¬rule=1∧rule=2∧i0.tmod (2:Int)=(1:Int)∧¬(j1+1).tmod (2:Int)=(1:Int)) (by simp only [eq_false h_50,eq_true h_55,eq_false h_56,tsl]) z0)))) ?_
 exact⟨rfl,by kernel_rfl⟩
 refine rG cx [0,1,2,7,8,9,10,11,14] [1007] (tT 1 (A0 h_50) (tT 10 (A0 h_55) (tD 19 false (rule=1∧i0.tmod (2:Int)=(1:Int)∧(j1+1).tmod (2:Int)=(1:Int)∨¬rule=1∧rule=2∧i0.tmod (2:Int)=(1:Int)∧¬(j1+1).tmod (2:Int)=(1:Int)) (by simp only [eq_false h_50,eq_false h_55,tsl]) z0))) ?_
 exact⟨rfl,by kernel_rfl⟩
 refine sn<|sq<|rG cx [0,1,2,7,8,9,10,11,14,109] [1007] (tT 2 (A2x:(AV.b !decide (rule=1∧i0.tmod (2:Int)=(1:Int)∧(j1+1).tmod (2:Int)=(1:Int)∨¬rule=1∧rule=2∧i0.tmod (2:Int)=(1:Int)∧¬(j1+1).tmod (2:Int)=(1:Int)) == w2)=AV.b (decide ¬decide (rule=1∧i0.tmod (2:Int)=(1:Int)∧(j1+1).tmod (2:Int)=(1:Int)∨¬rule=1∧rule=2∧i0.tmod (2:Int)=(1:Int)∧¬(j1+1).tmod (2:Int)=(1:Int))=w2)) z0)<|sn<|dC (¬decide (rule=1∧i0.tmod (2:Int)=(1:Int)∧(j1+1).tmod (2:Int)=(1:Int)∨¬rule=1∧rule=2∧i0.tmod (2:Int)=(1:Int)∧¬(j1+1).tmod (2:Int)=(1:Int))=w2) (fun h57=>?_) fun h57=>?_
 refine sq<|rG cx [0,1,2,7,8,9,14] [1007] (fR 3 (fR 1 (fR 1 (fX c3 [b[j1.toNat]!] 1 (fS c3 t3 c3 [b[j1.toNat]!] (fP (((List.map c3 t3).length+(List.map c3 [b[j1.toNat]!]).length)*(8:Nat)≤(140737488355328:Nat)) (by(simp only [Go.maxLen,List.length_map,List.length_append,List.length_cons,List.length_nil];omega)) (fM c3 t3 [b[j1.toNat]!] (oV 3 { rows:=some (List.map c3 (t3++[b[j1.toNat]!])) } z0))))))))<|sn<|rG cx [0,1,2,7,8,9,10] [1007] z0<|bN<|sn<|nX ((i0,j1+1,decide (rule=1∧i0.tmod (2:Int)=(1:Int)∧(j1+1).tmod (2:Int)=(1:Int)∨¬rule=1∧rule=2∧i0.tmod (2:Int)=(1:Int)∧¬(j1+1).tmod (2:Int)=(1:Int)),t3++[b[j1.toNat]!])) (show((↑a.length:Int)-i0+((↑b.length:Int)-(j1+1))).toNat <((↑a.length:Int)-i0+((↑b.length:Int)-j1)).toNat from(by omega)) (show A4f a b (N0 rule) i0 (j1+1) (decide (rule=1∧i0.tmod (2:Int)=(1:Int)∧(j1+1).tmod (2:Int)=(1:Int)∨¬rule=1∧rule=2∧i0.tmod (2:Int)=(1:Int)∧¬(j1+1).tmod (2:Int)=(1:Int))) (t3++[b[j1.toNat]!])from ?g7);rotate_left
 refine sK<|bN<|sn<|nX ((i0,j1+1,w2,t3)) (show((↑a.length:Int)-i0+((↑b.length:Int)-(j1+1))).toNat <((↑a.length:Int)-i0+((↑b.length:Int)-j1)).toNat from(by omega)) (show A4f a b (N0 rule) i0 (j1+1) w2 t3 from ?g8);rotate_left
 refine eX 0<|nE<|nE<|bH<|sn<|sq<|rG cx [6] [1007] z0<|sn<|rT<|qR (.sl (List.map c3 t3)) (.eq (by rw[B5b (by omega) (by omega) hh10]))
 case g1=>revert i0 j1 w2 t3 hh5 hh6 hh7 hh8 hh9 hh10 h13 h17 h18 h21 h22 h23 h24 h25;intro i j w t h0 h1 h2 h3 h4 h5 h6 h7 h8 h9;exfalso;omega
 case g2=>revert i0 j1 w2 t3 hh5 hh6 hh7 hh8 hh9 hh10 h13 h17 h18 h21 h22 h23 h24 h25;intro i j w t h0 h1 h2 h3 h4 h5 h6 h7 h8 h9;exfalso;omega
 case g3 =>
  exact st hh5 hh6 hh7 hh8 hh9 hh10 h13 (u:=a[i0.toNat]!) (by rw[if_pos (by omega)]) (by rw[if_pos ⟨h18,rfl⟩]) (by rw[if_neg h21]) (by omega) (A01 (by omega) hh7) (by rw[if_neg h34])
 case g4 =>
  exact st hh5 hh6 hh7 hh8 hh9 hh10 h13 (u:=a[i0.toNat]!) (by rw[if_pos (by omega)]) (by rw[if_pos ⟨h18,rfl⟩]) (by rw[if_neg h21]) (by omega) (by rw[← A01 (by omega) hh7];exact(Classical.not_not.1 h34).symm) (by rw[if_pos rfl])
 case g5 =>
  exact st hh5 hh6 hh7 hh8 hh9 hh10 h13 (u:=b[j1.toNat]!) (by rw[if_neg (by omega)]) (by rw[if_pos h37]) (by rw[if_pos ⟨h38,rfl⟩]) (by omega) (A01 (by omega) (by omega)) (by rw[if_neg h47])
 case g6 =>
  exact st hh5 hh6 hh7 hh8 hh9 hh10 h13 (u:=b[j1.toNat]!) (by rw[if_neg (by omega)]) (by rw[if_pos h37]) (by rw[if_pos ⟨h38,rfl⟩]) (by omega) (by rw[← A01 (by omega) (by omega)];exact(Classical.not_not.1 h47).symm) (by rw[if_pos rfl])
 case g7 =>
  exact st hh5 hh6 hh7 hh8 hh9 hh10 h13 (u:=b[j1.toNat]!) (by rw[if_neg (by omega)]) (by rw[if_neg h37]) (by rw[if_pos ⟨h48,rfl⟩]) (by omega) (A01 hh5 (by omega)) (by rw[if_neg h57])
 case g8 =>
  exact st hh5 hh6 hh7 hh8 hh9 hh10 h13 (u:=b[j1.toNat]!) (by rw[if_neg (by omega)]) (by rw[if_neg h37]) (by rw[if_pos ⟨h48,rfl⟩]) (by omega) (by rw[← A01 hh5 (by omega)];exact(Classical.not_not.1 h57).symm) (by rw[if_pos rfl])
theorem B5r (U V : Nat → List Run) (hU : sepU U) (hV : sepU V) : Con Tryz.prog 125 [.agg (Bh3 (tnS U)), .agg (Bh3 (tnS V)), .i .i64 2] (.agg (Bh3 (tnS (B37 U V)))) :=
  by
  refine sC A6 [.cell 6 144] 27 Tryz.func125 ?_
  intro e0 cx
  refine sq<|rG cx [2,3,4,6] [3,4,6] z0<|sn<|sq<|rG cx [2,3,4,6,7] [3,4,6,7] z0<|sn<|sq<|sq<|rG cx [2,3,4,6,7,8] [3,4,6,7] z0<|sn<|bL 0<|G8 3 ⟨0,144,.var [.sl (List.map c3 (tnS U (0))),.sl (List.map c3 (tnS U (1))),.sl (List.map c3 (tnS U (2))),.sl (List.map c3 (tnS U (3))),.sl (List.map c3 (tnS U (4))),.sl (List.map c3 (tnS U (5))),.sl (List.map c3 (tnS U (6))),.sl (List.map c3 (tnS U (7))),.sl (List.map c3 (tnS U (8))),.sl (List.map c3 (tnS U (9))),.sl (List.map c3 (tnS U (10))),.sl (List.map c3 (tnS U (11))),.sl (List.map c3 (tnS U (12))),.sl (List.map c3 (tnS U (13))),.sl (List.map c3 (tnS U (14))),.sl (List.map c3 (tnS U (15)))]⟩ [.sl (List.map c3 (tnS U (0))),.sl (List.map c3 (tnS U (1))),.sl (List.map c3 (tnS U (2))),.sl (List.map c3 (tnS U (3))),.sl (List.map c3 (tnS U (4))),.sl (List.map c3 (tnS U (5))),.sl (List.map c3 (tnS U (6))),.sl (List.map c3 (tnS U (7))),.sl (List.map c3 (tnS U (8))),.sl (List.map c3 (tnS U (9))),.sl (List.map c3 (tnS U (10))),.sl (List.map c3 (tnS U (11))),.sl (List.map c3 (tnS U (12))),.sl (List.map c3 (tnS U (13))),.sl (List.map c3 (tnS U (14))),.sl (List.map c3 (tnS U (15)))] (E2 c3 16 (tnS U)) (σ':=⟨[(2,.i .i64 ((2:Int))),(3,.ptr (3) (0) (0) (0)),(4,.ptr (4) (0) (0) (0)),(6,.ptr (6) (0) (0) (0)),(7,.ptr (7) (0) (0) (0)),(8,.i .i64 ((0:Int)))],[(3,⟨0,144,.arr (E2 c3 16 (tnS U))⟩),(4,⟨0,144,.var [.sl (List.map c3 (tnS V (0))),.sl (List.map c3 (tnS V (1))),.sl (List.map c3 (tnS V (2))),.sl (List.map c3 (tnS V (3))),.sl (List.map c3 (tnS V (4))),.sl (List.map c3 (tnS V (5))),.sl (List.map c3 (tnS V (6))),.sl (List.map c3 (tnS V (7))),.sl (List.map c3 (tnS V (8))),.sl (List.map c3 (tnS V (9))),.sl (List.map c3 (tnS V (10))),.sl (List.map c3 (tnS V (11))),.sl (List.map c3 (tnS V (12))),.sl (List.map c3 (tnS V (13))),.sl (List.map c3 (tnS V (14))),.sl (List.map c3 (tnS V (15)))]⟩),(6,⟨0,144,.var [.nl,.nl,.nl,.nl,.nl,.nl,.nl,.nl,.nl,.nl,.nl,.nl,.nl,.nl,.nl,.nl]⟩),(7,⟨0,144,.var [.nl,.nl,.nl,.nl,.nl,.nl,.nl,.nl,.nl,.nl,.nl,.nl,.nl,.nl,.nl,.nl]⟩)]⟩) (by kernel_rfl) (by kernel_rfl) (by kernel_rfl) (by kernel_rfl) (ZLe.of_eq (by kernel_rfl)) (by kernel_rfl)<|G8 4 ⟨0,144,.var [.sl (List.map c3 (tnS V (0))),.sl (List.map c3 (tnS V (1))),.sl (List.map c3 (tnS V (2))),.sl (List.map c3 (tnS V (3))),.sl (List.map c3 (tnS V (4))),.sl (List.map c3 (tnS V (5))),.sl (List.map c3 (tnS V (6))),.sl (List.map c3 (tnS V (7))),.sl (List.map c3 (tnS V (8))),.sl (List.map c3 (tnS V (9))),.sl (List.map c3 (tnS V (10))),.sl (List.map c3 (tnS V (11))),.sl (List.map c3 (tnS V (12))),.sl (List.map c3 (tnS V (13))),.sl (List.map c3 (tnS V (14))),.sl (List.map c3 (tnS V (15)))]⟩ [.sl (List.map c3 (tnS V (0))),.sl (List.map c3 (tnS V (1))),.sl (List.map c3 (tnS V (2))),.sl (List.map c3 (tnS V (3))),.sl (List.map c3 (tnS V (4))),.sl (List.map c3 (tnS V (5))),.sl (List.map c3 (tnS V (6))),.sl (List.map c3 (tnS V (7))),.sl (List.map c3 (tnS V (8))),.sl (List.map c3 (tnS V (9))),.sl (List.map c3 (tnS V (10))),.sl (List.map c3 (tnS V (11))),.sl (List.map c3 (tnS V (12))),.sl (List.map c3 (tnS V (13))),.sl (List.map c3 (tnS V (14))),.sl (List.map c3 (tnS V (15)))] (E2 c3 16 (tnS V)) (σ':=⟨[(2,.i .i64 ((2:Int))),(3,.ptr (3) (0) (0) (0)),(4,.ptr (4) (0) (0) (0)),(6,.ptr (6) (0) (0) (0)),(7,.ptr (7) (0) (0) (0)),(8,.i .i64 ((0:Int)))],[(3,⟨0,144,.arr (E2 c3 16 (tnS U))⟩),(4,⟨0,144,.arr (E2 c3 16 (tnS V))⟩),(6,⟨0,144,.var [.nl,.nl,.nl,.nl,.nl,.nl,.nl,.nl,.nl,.nl,.nl,.nl,.nl,.nl,.nl,.nl]⟩),(7,⟨0,144,.var [.nl,.nl,.nl,.nl,.nl,.nl,.nl,.nl,.nl,.nl,.nl,.nl,.nl,.nl,.nl,.nl]⟩)]⟩) (by kernel_rfl) (by kernel_rfl) (by kernel_rfl) (by kernel_rfl) (ZLe.of_eq (by kernel_rfl)) (by kernel_rfl) ?_
  refine G8 7 ⟨0,144,.var [.nl,.nl,.nl,.nl,.nl,.nl,.nl,.nl,.nl,.nl,.nl,.nl,.nl,.nl,.nl,.nl]⟩ [.nl,.nl,.nl,.nl,.nl,.nl,.nl,.nl,.nl,.nl,.nl,.nl,.nl,.nl,.nl,.nl] (E2 c3 16 fun x ↦ []) (σ':=⟨[(2,.i .i64 ((2:Int))),(3,.ptr (3) (0) (0) (0)),(4,.ptr (4) (0) (0) (0)),(6,.ptr (6) (0) (0) (0)),(7,.ptr (7) (0) (0) (0)),(8,.i .i64 ((0:Int)))],[(3,⟨0,144,.arr (E2 c3 16 (tnS U))⟩),(4,⟨0,144,.arr (E2 c3 16 (tnS V))⟩),(6,⟨0,144,.var [.nl,.nl,.nl,.nl,.nl,.nl,.nl,.nl,.nl,.nl,.nl,.nl,.nl,.nl,.nl,.nl]⟩),(7,⟨0,144,.arr (E2 c3 16 fun x ↦ [])⟩)]⟩) (by kernel_rfl) (by kernel_rfl) (by kernel_rfl) (by kernel_rfl) (Ay7 c3 16) (by kernel_rfl)<|sL (X:=Int×(Nat→List Int)×(Nat→List Int)×(Nat→List Int)) (fun x=>⟨[(2,.i .i64 ((2:Int))),(3,.ptr (3) (0) (0) (0)),(4,.ptr (4) (0) (0) (0)),(6,.ptr (6) (0) (0) (0)),(7,.ptr (7) (0) (0) (0)),(8,.i .i64 (x.1))],[(3,⟨0,144,.arr (E2 c3 16 x.2.1)⟩),(4,⟨0,144,.arr (E2 c3 16 x.2.2.1)⟩),(6,⟨0,144,.var [.nl,.nl,.nl,.nl,.nl,.nl,.nl,.nl,.nl,.nl,.nl,.nl,.nl,.nl,.nl,.nl]⟩),(7,⟨0,144,.arr (E2 c3 16 x.2.2.2)⟩)]⟩) (fun x ↦ decCo x.1 x.2.1 x.2.2.1 x.2.2.2) (fun x ↦ Ba7 U V x.1 x.2.1 x.2.2.1 x.2.2.2) [2,3,4,6,7,8] [3,4,6,7] (((0:Int),tnS U,tnS V,fun x ↦ [])) (show Ba7 U V (0:Int) (tnS U) (tnS V) fun x ↦ []from(by exact⟨rfl,rfl,by omega,by omega,fun k hk=>by omega⟩)) ?_
  rintro⟨r0,A1,B2,S3⟩ h_4
  obtain⟨hh5,h6,h7,h8,h9⟩:A1=tnS U∧B2=tnS V∧0≤r0∧r0≤16∧isCo U V r0 S3:=h_4
  refine sq<|rD cx [2,3,4,6,7,8,10] [3,4,6,7] (zB 1 (r0 <(16:Int))) (fun h10=>?_) fun h10=>?_
  refine sK<|sn<|sq<|bL 1<|rA cx [2,3,4,6,7,8] [3,4,6,7] (fA (0≤r0) (fO (r0 <(↑(16:Nat):Int)) (fP ((E2 c3 16 A1)[r0.toNat*(1:Nat)+0]?=some (AV.sl (List.map c3 (A1 r0.toNat)))) (by((try simp only [Nat.mul_one,Nat.add_zero,Nat.zero_add]);with_reducible refine D8 ?_;omega)) (fA (0≤r0) (fO (r0 <(↑(16:Nat):Int)) (fP ((E2 c3 16 B2)[r0.toNat*(1:Nat)+0]?=some (AV.sl (List.map c3 (B2 r0.toNat)))) (by((try simp only [Nat.mul_one,Nat.add_zero,Nat.zero_add]);with_reducible refine D8 ?_;omega)) (fT (con186 (A1 r0.toNat) (B2 r0.toNat) ((2:Int)) (by subst hh5;exact B1k hU (by omega)) (by subst h6;exact B1k hV (by omega))) (fA (0≤r0) (fO (r0 <(↑(16:Nat):Int)) (fP (r0.toNat*(1:Nat)+0 <(E2 c3 16 S3).length) (by rw[Q3];omega) (fR [(D4 (AV.sl (List.map c3 (H0 (N0 (2:Int)) (A1 r0.toNat) (B2 r0.toNat) false false false)))).headD AV.dead] (fP ((E2 c3 16 S3).set (r0.toNat*(1:Nat)+0) ((D4 (AV.sl (List.map c3 (H0 (N0 (2:Int)) (A1 r0.toNat) (B2 r0.toNat) false false false)))).headD AV.dead)=E2 c3 16 (J8 S3 r0.toNat (H0 (N0 (2:Int)) (A1 r0.toNat) (B2 r0.toNat) false false false))) (by((try simp only [Nat.mul_one,Nat.add_zero,Nat.zero_add]);(with_reducible refine A3j ?_);exact Eq.refl _)) (oR 4 [.sl (List.map c3 (A1 r0.toNat))] (oR 8 [.sl (List.map c3 (B2 r0.toNat))] (oA 10 (.sl (List.map c3 (H0 (N0 (2:Int)) (A1 r0.toNat) (B2 r0.toNat) false false false))) (oV 13 { rows:=some [(E2 c3 16 (J8 S3 r0.toNat (H0 (N0 (2:Int)) (A1 r0.toNat) (B2 r0.toNat) false false false)))] } z0)))))))))))))))) ?_
  refine bN<|sn<|rG cx [2,3,4,6,7,8] [3,4,6,7] (tW 1 (r0+1) z0)<|sn<|nX ((r0+1,A1,B2,J8 S3 r0.toNat (H0 (N0 (2:Int)) (A1 r0.toNat) (B2 r0.toNat) false false false))) (show(16-(r0+1)).toNat <(16-r0).toNat from(by omega)) (show Ba7 U V (r0+1) A1 B2 (J8 S3 r0.toNat (H0 (N0 (2:Int)) (A1 r0.toNat) (B2 r0.toNat) false false false))from(by subst hh5 h6;exact⟨rfl,rfl,by omega,by omega,B1l hU hV h7 h10 h9⟩))
  refine eX 0<|nE<|nE<|bH<|sn<|sq<|rG cx [6] [6] (fR 16 z0)<|sn<|rT<|qR (.agg [.sl (List.map c3 (S3 (0))),.sl (List.map c3 (S3 (1))),.sl (List.map c3 (S3 (2))),.sl (List.map c3 (S3 (3))),.sl (List.map c3 (S3 (4))),.sl (List.map c3 (S3 (5))),.sl (List.map c3 (S3 (6))),.sl (List.map c3 (S3 (7))),.sl (List.map c3 (S3 (8))),.sl (List.map c3 (S3 (9))),.sl (List.map c3 (S3 (10))),.sl (List.map c3 (S3 (11))),.sl (List.map c3 (S3 (12))),.sl (List.map c3 (S3 (13))),.sl (List.map c3 (S3 (14))),.sl (List.map c3 (S3 (15)))]) (.eq ?g5);rotate_left
  case g5 =>
    refine congrArg AV.agg ?_
    show E2 c3 16 S3=E2 c3 16 (tnS (B37 U V))
    unfold E2
    refine List.map_congr_left fun k hk=>?_
    rw [h9 k (by have : k < 16 := by simpa using hk
                 omega)]
theorem B7q(a b:Past)(ha:a.cloud.length*16≤140737488350000)(hb:b.cloud.length*16≤140737488350000):Con Tryz.prog 123 [.agg (c26 a),.agg (c26 b)] (.agg (c26 (B3 a b))) :=
 by
 refine sC A6 [.cell 4 26] 11 Tryz.func123 ?_
 intro e0 cx
 refine sq<|rG cx [2,3,4] [2,3,4] z0<|sn<|sq<|rA cx [4] [4] (fT (B5o (a) (by(with_reducible assumption))) (fT (B5o (b) (by(with_reducible assumption))) (fT (B5r (D5 (A8 [a])) (D5 (A8 [b])) ?g0 ?g1) (fT (B1i (B37 (D5 (A8 [a])) (D5 (A8 [b]))) ?g2) (oA 1 (.agg (E2 c3 16 (tnS (D5 (A8 [a]))))) (oA 3 (.agg (E2 c3 16 (tnS (D5 (A8 [b]))))) (oA 4 (.agg (E2 c3 16 (tnS (B37 (D5 (A8 [a])) (D5 (A8 [b])))))) (oA 5 (.agg [.sl (List.map c3 (E8 (B37 (D5 (A8 [a])) (D5 (A8 [b])))).vec),.sl (List.map A9 (E8 (B37 (D5 (A8 [a])) (D5 (A8 [b])))).cloud)]) z0)))))))) ?_;rotate_left 3
 refine sn<|rT<|qR (.agg [.sl (List.map c3 (E8 (B37 (D5 (A8 [a])) (D5 (A8 [b])))).vec),.sl (List.map A9 (E8 (B37 (D5 (A8 [a])) (D5 (A8 [b])))).cloud)]) (.eq ?g3);rotate_left
 case g0=>exact A30 _
 case g1=>exact A30 _
 case g2=>intro r hr;exact A1h _ _
 case g3=>rw[Ba8];rfl
theorem con187(ps:List Past)(hb:A08 ps*16≤140737488350000):Con Tryz.prog 187 [.sl (ps.map c26)] (.agg (c26 (D1 ps))) :=
 by
 refine lN 0 c26 (ps) Tryz.func187 fun hl_0=>sC A6 [.cell 2 26] 6 Tryz.func187 ?_
 intro e0 cx
 refine sq<|rG cx [0,2] [2] z0<|sn<|sq<|rG cx [2] [2] (fT (B7o (ps) (by omega)) (fT (B1i (D5 (A8 ps)) ?g0) (oA 1 (.agg (E2 c3 16 (tnS (D5 (A8 ps))))) (oA 2 (.agg [.sl (List.map c3 (E8 (D5 (A8 ps))).vec),.sl (List.map A9 (E8 (D5 (A8 ps))).cloud)]) z0)))) ?_;rotate_left
 refine sn<|rT<|qR (.agg [.sl (List.map c3 (E8 (D5 (A8 ps))).vec),.sl (List.map A9 (E8 (D5 (A8 ps))).cloud)]) (.eq ?g1);rotate_left
 case g0=>exact A30 _
 case g1=>rw[Z6];rfl
theorem B7r(p:Past)(hb:p.cloud.length*16≤140737488350000):Con Tryz.prog 147 [.agg (c26 p)] (.i .i64 (B8 p)) :=
 by
 have hl:∀ r,(D5 (A8 [p]) r).length≤500000000:=fun r=>L6 (E1 _)
 have hz:∀ n,0≤sizeT (D5 (A8 [p])) n∧sizeT (D5 (A8 [p])) n≤n*1000000000:=A1m _
 have hk:∀ r n,0≤G5 ((D5 (A8 [p]) r).take n)∧G5 ((D5 (A8 [p]) r).take n)≤1000000000:=fun r n=>A1l (A9p (E1 _) n)
 have hr:∀(r:Nat) (k:Int),0≤k→k+1 < 2*(D5 (A8 [p]) r).length→1≤(D5 (A8 [p]) r)[(k / 2).toNat]!.lo∧(D5 (A8 [p]) r)[(k / 2).toNat]!.lo≤(D5 (A8 [p]) r)[(k / 2).toNat]!.hi∧(D5 (A8 [p]) r)[(k / 2).toNat]!.hi≤1000000000 :=
  fun r k h0 h1=>(E1 _).2 _ (D9 (by have h2:k+1 < 2*(nrm (A8 [p] r)).length:=h1;omega))
 have ht:∀ r,(tnS (D5 (A8 [p])) r).length=2*(D5 (A8 [p]) r).length:=fun r=>A4e _
 have hs:=Aa6 (A8 [p])
 have hU:∀ r,nrm (D5 (A8 [p]) r)=D5 (A8 [p]) r:=B7p
 have hP:B8 p=sizeT (D5 (A8 [p])) 16:=(A7a p).trans (hs 16).symm
 clear hs
 refine sC A6 [.tmp 2] 42 Tryz.func147 ?_
 intro e0 cx
 refine sq<|rG cx [1] [1] z0<|sn<|sq<|rG cx [3] [3] (fT (B5o (p) (by(with_reducible assumption))) (oA 1 (.agg (E2 c3 16 (tnS (D5 (A8 [p]))))) z0))<|sn<|sq<|rG cx [3,4] [3] z0<|sn<|sq<|sq<|rG cx [3,4,5] [3] z0<|sn<|bL 0<|G8 3 ⟨0,144,.var [.sl (List.map c3 (tnS (D5 (A8 [p])) (0))),.sl (List.map c3 (tnS (D5 (A8 [p])) (1))),.sl (List.map c3 (tnS (D5 (A8 [p])) (2))),.sl (List.map c3 (tnS (D5 (A8 [p])) (3))),.sl (List.map c3 (tnS (D5 (A8 [p])) (4))),.sl (List.map c3 (tnS (D5 (A8 [p])) (5))),.sl (List.map c3 (tnS (D5 (A8 [p])) (6))),.sl (List.map c3 (tnS (D5 (A8 [p])) (7))),.sl (List.map c3 (tnS (D5 (A8 [p])) (8))),.sl (List.map c3 (tnS (D5 (A8 [p])) (9))),.sl (List.map c3 (tnS (D5 (A8 [p])) (10))),.sl (List.map c3 (tnS (D5 (A8 [p])) (11))),.sl (List.map c3 (tnS (D5 (A8 [p])) (12))),.sl (List.map c3 (tnS (D5 (A8 [p])) (13))),.sl (List.map c3 (tnS (D5 (A8 [p])) (14))),.sl (List.map c3 (tnS (D5 (A8 [p])) (15)))]⟩ [.sl (List.map c3 (tnS (D5 (A8 [p])) (0))),.sl (List.map c3 (tnS (D5 (A8 [p])) (1))),.sl (List.map c3 (tnS (D5 (A8 [p])) (2))),.sl (List.map c3 (tnS (D5 (A8 [p])) (3))),.sl (List.map c3 (tnS (D5 (A8 [p])) (4))),.sl (List.map c3 (tnS (D5 (A8 [p])) (5))),.sl (List.map c3 (tnS (D5 (A8 [p])) (6))),.sl (List.map c3 (tnS (D5 (A8 [p])) (7))),.sl (List.map c3 (tnS (D5 (A8 [p])) (8))),.sl (List.map c3 (tnS (D5 (A8 [p])) (9))),.sl (List.map c3 (tnS (D5 (A8 [p])) (10))),.sl (List.map c3 (tnS (D5 (A8 [p])) (11))),.sl (List.map c3 (tnS (D5 (A8 [p])) (12))),.sl (List.map c3 (tnS (D5 (A8 [p])) (13))),.sl (List.map c3 (tnS (D5 (A8 [p])) (14))),.sl (List.map c3 (tnS (D5 (A8 [p])) (15)))] (E2 c3 16 (tnS (D5 (A8 [p])))) (σ':=⟨[(3,.ptr (3) (0) (0) (0)),(4,.i .i64 ((0:Int))),(5,.i .i64 ((0:Int)))],[(3,⟨0,144,.arr (E2 c3 16 (tnS (D5 (A8 [p]))))⟩)]⟩) (by kernel_rfl) (by kernel_rfl) (by kernel_rfl) (by kernel_rfl) (ZLe.of_eq (by kernel_rfl)) (by kernel_rfl)<|sL (X:=Int×Int×(Nat→List Int)) (fun x=>⟨[(3,.ptr (3) (0) (0) (0)),(4,.i .i64 (x.1)),(5,.i .i64 (x.2.1))],[(3,⟨0,144,.arr (E2 c3 16 x.2.2)⟩)]⟩) (fun x ↦ decRs x.1 x.2.1 x.2.2) (fun x ↦ Ba9 (D5 (A8 [p])) x.1 x.2.1 x.2.2) [3,4,5] [3] (((0:Int),(0:Int),tnS (D5 (A8 [p])))) (show Ba9 (D5 (A8 [p])) (0:Int) (0:Int) (tnS (D5 (A8 [p])))from ?g0) ?_;rotate_left
 rintro⟨n0,r1,S2⟩ h_3
 obtain⟨hh4,h5,hh6,h7⟩:S2=tnS (D5 (A8 [p]))∧0≤r1∧r1≤16∧n0=sizeT (D5 (A8 [p])) r1.toNat:=h_3
 refine sq<|rD cx [3,4,5,10] [3] (zB 1 (r1 <(16:Int))) (fun h8=>?_) fun h8=>?_
 refine sK<|sn<|sq<|bL 1<|sq<|rG cx [3,4,5,6] [3] z0<|sn<|bL 2<|sL (X:=Int×Int×(Nat→List Int)) (fun x=>⟨[(3,.ptr (3) (0) (0) (0)),(4,.i .i64 (x.1)),(5,.i .i64 (r1)),(6,.i .i64 (x.2.1))],[(3,⟨0,144,.arr (E2 c3 16 x.2.2)⟩)]⟩) (fun x ↦ decRt (D5 (A8 [p])) r1 x.1 x.2.1 x.2.2) (fun x ↦ Bb0 (D5 (A8 [p])) r1 n0 x.1 x.2.1 x.2.2) [3,4,5,6] [3] ((n0,(0:Int),S2)) (show Bb0 (D5 (A8 [p])) r1 n0 n0 (0:Int) S2 from ?g1) ?_;rotate_left
 rintro⟨n9,k10,S11⟩ h_12
 obtain⟨h13,h14,h15,h16,h17⟩:S11=tnS (D5 (A8 [p]))∧0≤k10∧k10≤(2:Int)*(↑(D5 (A8 [p]) r1.toNat).length:Int)∧(2:Int)*(k10 / (2:Int))=k10∧n9=n0+G5 (List.take (k10 / (2:Int)).toNat (D5 (A8 [p]) r1.toNat)):=h_12
 refine sq<|sq<|rG cx [3,4,5,6,20] [3] (tT 1 (B4 (by omega) ?g2:AV.i .i64 (IntKind.i64.wrap (k10+1))=AV.i .i64 (k10+1)) (fA (0≤r1) (fO (r1 <(↑(16:Nat):Int)) (fP ((E2 c3 16 S11)[r1.toNat*(1:Nat)+0]?=some (AV.sl (List.map c3 (S11 r1.toNat)))) (by((try simp only [Nat.mul_one,Nat.add_zero,Nat.zero_add]);with_reducible refine D8 ?_;omega)) (tL 6 c3 (S11 r1.toNat) (tB 7 (k10+1 <(↑(S11 r1.toNat).length:Int)) (oR 5 [.sl (List.map c3 (S11 r1.toNat))] z0))))))) ?_;rotate_left
 refine sn<|dC (k10+1 <(↑(S11 r1.toNat).length:Int)) (fun h18=>?_) fun h18=>?_
 refine sK<|sn<|sq<|bL 3<|rA cx [3,4,5,6] [3] (fA (0≤r1) (fO (r1 <(↑(16:Nat):Int)) (fP ((E2 c3 16 S11)[r1.toNat*(1:Nat)+0]?=some (AV.sl (List.map c3 (S11 r1.toNat)))) (by((try simp only [Nat.mul_one,Nat.add_zero,Nat.zero_add]);with_reducible refine D8 ?_;omega)) (tT 6 (B4 (by omega) ?g3:AV.i .i64 (IntKind.i64.wrap (k10+1))=AV.i .i64 (k10+1)) (fO (0≤k10+1) (fG c3 (S11 r1.toNat) ((k10+1).toNat) (fR 1 (fA (0≤r1) (fO (r1 <(↑(16:Nat):Int)) (fP ((E2 c3 16 S11)[r1.toNat*(1:Nat)+0]?=some (AV.sl (List.map c3 (S11 r1.toNat)))) (by((try simp only [Nat.mul_one,Nat.add_zero,Nat.zero_add]);with_reducible refine D8 ?_;omega)) (fA (0≤k10) (fG c3 (S11 r1.toNat) k10.toNat (fR 1 (tT 16 (B4 ?g4 ?g5:AV.i .i64 (IntKind.i64.wrap ((S11 r1.toNat)[(k10+1).toNat]!-(S11 r1.toNat)[k10.toNat]!))=AV.i .i64 ((S11 r1.toNat)[(k10+1).toNat]!-(S11 r1.toNat)[k10.toNat]!)) (tT 17 (B4 ?g6 ?g7:AV.i .i64 (IntKind.i64.wrap (n9+((S11 r1.toNat)[(k10+1).toNat]!-(S11 r1.toNat)[k10.toNat]!)))=AV.i .i64 (n9+((S11 r1.toNat)[(k10+1).toNat]!-(S11 r1.toNat)[k10.toNat]!))) (oR 4 [.sl (List.map c3 (S11 r1.toNat))] (oR 7 (c3 (S11 r1.toNat)[(k10+1).toNat]!) (oR 12 [.sl (List.map c3 (S11 r1.toNat))] (oR 14 (c3 (S11 r1.toNat)[k10.toNat]!) z0))))))))))))))))))) ?_;rotate_left 5
 refine bN<|sn<|rG cx [3,4,5,6] [3] (tT 1 (B4 (by omega) ?g8:AV.i .i64 (IntKind.i64.wrap (k10+2))=AV.i .i64 (k10+2)) z0) ?_;rotate_left
 refine sn<|nX ((n9+((S11 r1.toNat)[(k10+1).toNat]!-(S11 r1.toNat)[k10.toNat]!),k10+2,S11)) (show((2:Int)*(↑(D5 (A8 [p]) r1.toNat).length:Int)-(k10+2)).toNat <((2:Int)*(↑(D5 (A8 [p]) r1.toNat).length:Int)-k10).toNat from ?g9) (show Bb0 (D5 (A8 [p])) r1 n0 (n9+((S11 r1.toNat)[(k10+1).toNat]!-(S11 r1.toNat)[k10.toNat]!)) (k10+2) S11 from ?g10);rotate_left 2
 refine eX 2<|nE<|nE<|bH<|bN<|sn<|rG cx [3,4,5] [3] (tW 1 (r1+1) z0)<|sn<|nX ((n9,r1+1,S11)) (show(16-(r1+1)).toNat <(16-r1).toNat from(by omega)) (show Ba9 (D5 (A8 [p])) n9 (r1+1) S11 from ?g11);rotate_left
 refine eX 0<|nE<|nE<|bH<|sn<|sq<|rG cx [2] [] z0<|sn<|rT<|qR (.i .i64 (n0)) (.eq ?g12);rotate_left
 rotate_left
 revert n0 r1 S2 hh4 h5 hh6 h7 h8;rotate_left
 revert n0 r1 S2 hh4 h5 hh6 h7 h8 n9 k10 S11 h13 h14 h15 h16 h17;rotate_left
 revert n0 r1 S2 hh4 h5 hh6 h7 h8 n9 k10 S11 h13 h14 h15 h16 h17 h18;rotate_left
 revert n0 r1 S2 hh4 h5 hh6 h7 h8 n9 k10 S11 h13 h14 h15 h16 h17 h18;rotate_left
 revert n0 r1 S2 hh4 h5 hh6 h7 h8 n9 k10 S11 h13 h14 h15 h16 h17 h18;rotate_left
 revert n0 r1 S2 hh4 h5 hh6 h7 h8 n9 k10 S11 h13 h14 h15 h16 h17 h18;rotate_left
 revert n0 r1 S2 hh4 h5 hh6 h7 h8 n9 k10 S11 h13 h14 h15 h16 h17 h18;rotate_left
 revert n0 r1 S2 hh4 h5 hh6 h7 h8 n9 k10 S11 h13 h14 h15 h16 h17 h18;rotate_left
 revert n0 r1 S2 hh4 h5 hh6 h7 h8 n9 k10 S11 h13 h14 h15 h16 h17 h18;rotate_left
 revert n0 r1 S2 hh4 h5 hh6 h7 h8 n9 k10 S11 h13 h14 h15 h16 h17 h18;rotate_left
 revert n0 r1 S2 hh4 h5 hh6 h7 h8 n9 k10 S11 h13 h14 h15 h16 h17 h18;rotate_left
 revert n0 r1 S2 hh4 h5 hh6 h7 h8;rotate_left
 all_goals generalize D5 (A8 [p])=U at *
 case g0=>exact⟨rfl,by omega,by omega,rfl⟩
 case g1=>intro n r S h0 h1 h2 h3 h4;exact⟨h0,by omega,by omega,by omega,by simp [G5]⟩
 case g2=>intro n r S h0 h1 h2 h3 h4 m k R k0 k1 k2 k3 k4;have:=hl r.toNat;omega
 case g3=>intro n r S h0 h1 h2 h3 h4 m k R k0 k1 k2 k3 k4 k5;have:=hl r.toNat;omega
 case g4 =>
  intro n r S h0 h1 h2 h3 h4 m k R k0 k1 k2 k3 k4 k5
  subst k0;rw[ht]at k5
  have:=Aa4 (U:=U) (r:=r) k1 k3 (by omega);have:=hr r.toNat k k1 (by omega);omega
 case g5 =>
  intro n r S h0 h1 h2 h3 h4 m k R k0 k1 k2 k3 k4 k5
  subst k0;rw[ht]at k5
  have:=Aa4 (U:=U) (r:=r) k1 k3 (by omega);have:=hr r.toNat k k1 (by omega);omega
 case g6 =>
  intro n r S h0 h1 h2 h3 h4 m k R k0 k1 k2 k3 k4 k5
  subst k0;rw[ht]at k5
  have:=Aa4 (U:=U) (r:=r) k1 k3 (by omega);have:=hr r.toNat k k1 (by omega)
  have:=hz r.toNat;have:=hk r.toNat (k / 2).toNat;omega
 case g7 =>
  intro n r S h0 h1 h2 h3 h4 m k R k0 k1 k2 k3 k4 k5
  subst k0;rw[ht]at k5
  have:=Aa4 (U:=U) (r:=r) k1 k3 (by omega);have:=hr r.toNat k k1 (by omega)
  have:=hz r.toNat;have:=hk r.toNat (k / 2).toNat;omega
 case g8=>intro n r S h0 h1 h2 h3 h4 m k R k0 k1 k2 k3 k4 k5;have:=hl r.toNat;omega
 case g9=>intro n r S h0 h1 h2 h3 h4 m k R k0 k1 k2 k3 k4 k5;subst k0;rw[ht]at k5;omega
 case g10 =>
  intro n r S h0 h1 h2 h3 h4 m k R k0 k1 k2 k3 k4 k5
  subst k0;rw[ht]at k5
  have h6:=Aa4 (U:=U) (r:=r) k1 k3 (by omega)
  refine⟨rfl,by omega,by omega,by omega,?_⟩
  rw[B1m k1 k3 (by omega)]
  omega
 case g11 =>
  intro n r S h0 h1 h2 h3 h4 m k R k0 k1 k2 k3 k4 k5
  subst k0;rw[ht]at k5
  refine⟨rfl,by omega,by omega,?_⟩
  rw[show(r+1).toNat=r.toNat+1 by omega,sizeT,hU,k4,h3,List.take_of_length_le (by omega)]
 case g12=>intro n r S h0 h1 h2 h3 h4;rw[h3,hP,show r.toNat=16 by omega]
theorem con79(p:Past)(hb:p.cloud.length*16≤140737488350000):Con Tryz.prog 79 [.agg (c26 p)] (.b (decide (B8 p=0))) :=
 by
 refine sC A6 [.tmp 2] 6 Tryz.func79 ?_
 intro e0 cx
 refine sq<|rG cx [1] [1] z0<|sn<|sq<|rG cx [2] [] (fT (B7r (p) (by(with_reducible assumption))) (tB 2 (B8 p=0) (oA 1 (.i .i64 (B8 p)) z0)))<|sn<|rT ?_
 exact A3h (r:=.b (decide (B8 p=0))) (obl:=[]) (by kernel_rfl) trivial (B5.refl _)
end Go.Proofs.YtphcaholhacnpaaGreat
namespace Go.Proofs.YtphcaholhacnpaaGreat
open Go.E
set_option maxRecDepth 100000
set_option maxHeartbeats 4000000
def Ag8(x y:Past)(r:Int)(u:List Int)(c:List Span)(v:List Int)(d:List Span):Prop:=u=x.vec∧c=x.cloud∧v=y.vec∧d=y.cloud∧0≤r∧r≤16∧Ac4 x.vec y.vec r
def decRc(r:Int)(u:List Int)(c:List Span)(v:List Int)(d:List Span):Nat:=(16-r).toNat
def Bb1(x y:Past)(i:Int)(u:List Int)(c:List Span)(v:List Int)(d:List Span):Prop:=c=x.cloud∧d=y.cloud∧0≤i∧i≤x.cloud.length∧i≤y.cloud.length∧M5 x.cloud y.cloud=M5 (x.cloud.drop i.toNat) (y.cloud.drop i.toNat)
def decRd2(x:Past)(i:Int)(u:List Int)(c:List Span)(v:List Int)(d:List Span):Nat:=(x.cloud.length-i).toNat
theorem A4g(a b:Int):Con Tryz.prog 225 [.i .i64 a,.i .i64 b] (.i .i64 (H1 a b)) :=
 by
 refine sC A6 [.tmp 4] 11 Tryz.func225 ?_
 intro e0 cx
 refine sq<|rG cx [0,1] [] z0<|sn<|sq<|rD cx [0,1,7] [] (zB 2 (a < b)) (fun h0=>?_) fun h0=>?_
 refine sq<|rG cx [4] [] z0<|sn<|rT<|nR<|qR (.i .i64 ((-1:Int))) (.eq (by unfold H1;rw[if_pos h0]))
 refine sK<|sn<|sq<|rD cx [10] [] (zB 2 (b < a)) (fun h1=>?_) fun h1=>?_
 refine sq<|rG cx [4] [] z0<|sn<|rT<|nR<|qR (.i .i64 ((1:Int))) (.eq (by unfold H1;rw[if_neg h0,if_pos h1]))
 refine sK<|sn<|sq<|rG cx [4] [] z0<|sn<|rT<|qR (.i .i64 ((0:Int))) (.eq (by unfold H1;rw[if_neg h0,if_neg h1]))
theorem con185(p q:Past)(hb:p.cloud.length*16≤140737488350000)(hq:q.cloud.length*16≤140737488350000):Con Tryz.prog 185 [.agg (c26 p),.agg (c26 q)] (.i .i64 (A9h p q)) :=
 by
 have D:∀ {r:Int} {u v:List Int},u=(A3 p).vec→v=(A3 q).vec→0≤r→r < 16→∀ {a b:Int},u[r.toNat]! = a→v[r.toNat]! = b→¬ a=b→Ac4 (A3 p).vec (A3 q).vec r→H1 a b=A9h p q:=by
  intro r u v e1 e3 h0 h1 a b ha hb hn h
  rw[e1]at ha
  rw[e3]at hb
  have e:=B0l h0 h1 (by rw[ha,hb];exact hn) h
  rw[ha,hb]at e
  exact(B75 e (A0k hn)).symm
 have N:∀ {r:Int} {u v:List Int} {c d:List Span},u=(A3 p).vec→c=(A3 p).cloud→v=(A3 q).vec→d=(A3 q).cloud→0≤r→r < 16→∀ {a b:Int},u[r.toNat]! = a→v[r.toNat]! = b→¬ ¬ a=b→Ac4 (A3 p).vec (A3 q).vec r→Ag8 (A3 p) (A3 q) (r+1) u c v d:=by
  intro r u v c d e1 e2 e3 e4 h0 h1 a b ha hb hn h
  have e:=B0m h0 h1 (by rw[← e1,← e3,ha,hb];exact Classical.not_not.1 hn) h
  exact⟨e1,e2,e3,e4,e.1,e.2.1,e.2.2⟩
 have S1:∀ {s t:Span},¬ s.rep=t.rep→H1 s.rep t.rep=A1i s t:=fun {s t} h=>by unfold A1i;rw[if_pos (A0k h)]
 have S2:∀ {s t:Span},s.rep=t.rep→¬ s.lo=t.lo→H1 s.lo t.lo=A1i s t:=fun {s t} h0 h=>by unfold A1i;rw[if_neg (fun k=>k (H5.2 h0)),if_pos (A0k h)]
 have S3:∀ {s t:Span},s.rep=t.rep→s.lo=t.lo→H1 s.hi t.hi=A1i s t:=fun {s t} h0 h=>by unfold A1i;rw[if_neg (fun k=>k (H5.2 h0)),if_neg (fun k=>k (H5.2 h))]
 have E:∀ {i z:Int} {c d:List Span},c=(A3 p).cloud→d=(A3 q).cloud→0≤i→(i < c.length∧i < d.length)→M5 (A3 p).cloud (A3 q).cloud=M5 ((A3 p).cloud.drop i.toNat) ((A3 q).cloud.drop i.toNat)→A77 (A3 p).vec (A3 q).vec 0 16=0→¬ z=0→z=A1i c[i.toNat]! d[i.toNat]!→z=A9h p q:=by
  intro i z c d e1 e2 h0 hl h hf hz e
  rw[e1,e2]at hl e
  rw[A78 hf,B0i h0 hl.1 hl.2 (by rw[← e];exact hz) h]
  exact e
 refine sC A6 [.tmp 4] 106 Tryz.func185 ?_
 intro e0 cx
 refine sq<|rG cx [2,3] [2,3] z0<|sn<|sq<|rG cx [2,3] [2,3] (fT (B5p (p) (by(with_reducible assumption))) (oA 1 (.agg [.sl (List.map c3 (A3 p).vec),.sl (List.map A9 (A3 p).cloud)]) z0))<|sn<|sq<|rG cx [2,3] [2,3] (fT (B5p (q) (by(with_reducible assumption))) (oA 1 (.agg [.sl (List.map c3 (A3 q).vec),.sl (List.map A9 (A3 q).cloud)]) z0))<|sn<|sq<|sq<|rG cx [2,3,5] [2,3] z0<|sn<|bL 0<|sL (X:=Int×List Int×List Span×List Int×List Span) (fun x=>⟨[(2,.ptr (2) (0) (0) (0)),(3,.ptr (3) (0) (0) (0)),(5,.i .i64 (x.1))],[(2,⟨0,26,.var [.sl (List.map c3 x.2.1),.sl (List.map A9 x.2.2.1)]⟩),(3,⟨0,26,.var [.sl (List.map c3 x.2.2.2.1),.sl (List.map A9 x.2.2.2.2)]⟩)]⟩) (fun x ↦ decRc x.1 x.2.1 x.2.2.1 x.2.2.2.1 x.2.2.2.2) (fun x ↦ Ag8 (A3 p) (A3 q) x.1 x.2.1 x.2.2.1 x.2.2.2.1 x.2.2.2.2) [2,3,5] [2,3] (((0:Int),(A3 p).vec,(A3 p).cloud,(A3 q).vec,(A3 q).cloud)) (show Ag8 (A3 p) (A3 q) (0:Int) (A3 p).vec (A3 p).cloud (A3 q).vec (A3 q).cloud from(by exact⟨Eq.refl _,Eq.refl _,Eq.refl _,Eq.refl _,by omega,by omega,Eq.refl _⟩)) ?_
 rintro⟨r0,u1,c2,v3,d4⟩ h_5
 obtain⟨h6,h7,h8,h9,h10,h11,h12⟩:u1=(A3 p).vec∧c2=(A3 p).cloud∧v3=(A3 q).vec∧d4=(A3 q).cloud∧0≤r0∧r0≤16∧Ac4 (A3 p).vec (A3 q).vec r0:=h_5
 refine sq<|rD cx [2,3,5,16] [2,3] (zB 1 (r0 <(16:Int))) (fun h13=>?_) fun h13=>?_
 refine sK<|sn<|sq<|bL 1<|sq<|rG cx [2,3,5,6,7] [2,3] z0<|sn<|sq<|rD cx [2,3,5,6,7,23] [2,3] (tL 3 c3 u1 (zB 4 (r0 <(↑u1.length:Int)))) (fun h14=>?_) fun h14=>?_
 refine rG cx [2,3,5,6,7] [2,3] (fA (0≤r0) (fG c3 u1 r0.toNat (fR 1 (oR 3 (c3 u1[r0.toNat]!) z0))))<|sn<|sq<|rD cx [2,3,5,6,7,33] [2,3] (tL 3 c3 v3 (zB 4 (r0 <(↑v3.length:Int)))) (fun h15=>?_) fun h15=>?_
 refine rG cx [2,3,5,6,7] [2,3] (fA (0≤r0) (fG c3 v3 r0.toNat (fR 1 (oR 3 (c3 v3[r0.toNat]!) z0))))<|sn<|sq<|rG cx [2,3,5,6,7,41] [2,3] (tN 2 u1[r0.toNat]! v3[r0.toNat]! z0)<|sn<|dC (¬u1[r0.toNat]! = v3[r0.toNat]!) (fun h16=>?_) fun h16=>?_
 refine sq<|rG cx [4] [] (fT (A4g (u1[r0.toNat]!) (v3[r0.toNat]!)) (oA 2 (.i .i64 (H1 u1[r0.toNat]! v3[r0.toNat]!)) z0))<|sn<|rT<|bR<|nR<|nR<|bR<|nR<|qR (.i .i64 (H1 u1[r0.toNat]! v3[r0.toNat]!)) (.eq (by exact congrArg (AV.i .i64) (D h6 h8 h10 h13 (Eq.refl _) (Eq.refl _) h16 h12)))
 refine sK<|bN<|sn<|rG cx [2,3,5] [2,3] (tW 1 (r0+1) z0)<|sn<|nX ((r0+1,u1,c2,v3,d4)) (show(16-(r0+1)).toNat <(16-r0).toNat from(by omega)) (show Ag8 (A3 p) (A3 q) (r0+1) u1 c2 v3 d4 from(by exact N h6 h7 h8 h9 h10 h13 (Eq.refl _) (Eq.refl _) h16 h12))
 refine sK<|sn<|sq<|rG cx [2,3,5,6,7,41] [2,3] (tN 2 u1[r0.toNat]! (0:Int) z0)<|sn<|dC (¬u1[r0.toNat]! =(0:Int)) (fun h17=>?_) fun h17=>?_
 refine sq<|rG cx [4] [] (fT (A4g (u1[r0.toNat]!) ((0:Int))) (oA 2 (.i .i64 (H1 u1[r0.toNat]! (0:Int))) z0))<|sn<|rT<|bR<|nR<|nR<|bR<|nR<|qR (.i .i64 (H1 u1[r0.toNat]! (0:Int))) (.eq (by exact congrArg (AV.i .i64) (D h6 h8 h10 h13 (Eq.refl _) (M8 h10 h15) h17 h12)))
 refine sK<|bN<|sn<|rG cx [2,3,5] [2,3] (tW 1 (r0+1) z0)<|sn<|nX ((r0+1,u1,c2,v3,d4)) (show(16-(r0+1)).toNat <(16-r0).toNat from(by omega)) (show Ag8 (A3 p) (A3 q) (r0+1) u1 c2 v3 d4 from(by exact N h6 h7 h8 h9 h10 h13 (Eq.refl _) (M8 h10 h15) h17 h12))
 refine sK<|sn<|sq<|rD cx [2,3,5,6,7,33] [2,3] (tL 3 c3 v3 (zB 4 (r0 <(↑v3.length:Int)))) (fun h18=>?_) fun h18=>?_
 refine rG cx [2,3,5,6,7] [2,3] (fA (0≤r0) (fG c3 v3 r0.toNat (fR 1 (oR 3 (c3 v3[r0.toNat]!) z0))))<|sn<|sq<|rG cx [2,3,5,6,7,41] [2,3] (tN 2 (0:Int) v3[r0.toNat]! z0)<|sn<|dC (¬0=v3[r0.toNat]!) (fun h19=>?_) fun h19=>?_
 refine sq<|rG cx [4] [] (fT (A4g ((0:Int)) (v3[r0.toNat]!)) (oA 2 (.i .i64 (H1 (0:Int) v3[r0.toNat]!)) z0))<|sn<|rT<|bR<|nR<|nR<|bR<|nR<|qR (.i .i64 (H1 (0:Int) v3[r0.toNat]!)) (.eq (by exact congrArg (AV.i .i64) (D h6 h8 h10 h13 (M8 h10 h14) (Eq.refl _) h19 h12)))
 refine sK<|bN<|sn<|rG cx [2,3,5] [2,3] (tW 1 (r0+1) z0)<|sn<|nX ((r0+1,u1,c2,v3,d4)) (show(16-(r0+1)).toNat <(16-r0).toNat from(by omega)) (show Ag8 (A3 p) (A3 q) (r0+1) u1 c2 v3 d4 from(by exact N h6 h7 h8 h9 h10 h13 (M8 h10 h14) (Eq.refl _) h19 h12))
 refine sK<|sn<|sq<|rG cx [2,3,5,6,7,41] [2,3] z0<|sn<|L5 (by kernel_rfl) (by kernel_rfl)<|sK<|bN<|sn<|rG cx [2,3,5] [2,3] (tW 1 (r0+1) z0)<|sn<|nX ((r0+1,u1,c2,v3,d4)) (show(16-(r0+1)).toNat <(16-r0).toNat from(by omega)) (show Ag8 (A3 p) (A3 q) (r0+1) u1 c2 v3 d4 from(by exact N h6 h7 h8 h9 h10 h13 (M8 h10 h14) (M8 h10 h18) (fun k=>k (Eq.refl _)) h12))
 refine eX 0<|nE<|nE<|bH<|sn<|sq<|sq<|rG cx [2,3,8] [2,3] z0<|sn<|bL 2<|sL (X:=Int×List Int×List Span×List Int×List Span) (fun x=>⟨[(2,.ptr (2) (0) (0) (0)),(3,.ptr (3) (0) (0) (0)),(8,.i .i64 (x.1))],[(2,⟨0,26,.var [.sl (List.map c3 x.2.1),.sl (List.map A9 x.2.2.1)]⟩),(3,⟨0,26,.var [.sl (List.map c3 x.2.2.2.1),.sl (List.map A9 x.2.2.2.2)]⟩)]⟩) (fun x ↦ decRd2 (A3 p) x.1 x.2.1 x.2.2.1 x.2.2.2.1 x.2.2.2.2) (fun x ↦ Bb1 (A3 p) (A3 q) x.1 x.2.1 x.2.2.1 x.2.2.2.1 x.2.2.2.2) [2,3,8] [2,3] (((0:Int),u1,c2,v3,d4)) (show Bb1 (A3 p) (A3 q) (0:Int) u1 c2 v3 d4 from(by exact⟨h7,h9,by omega,by omega,by omega,Eq.refl _⟩)) ?_
 rintro⟨i20,u21,c22,v23,d24⟩ h_25
 obtain⟨h26,h27,h28,h29,h30,h31⟩:c22=(A3 p).cloud∧d24=(A3 q).cloud∧0≤i20∧i20≤(↑(A3 p).cloud.length:Int)∧i20≤(↑(A3 q).cloud.length:Int)∧M5 (A3 p).cloud (A3 q).cloud=M5 (List.drop i20.toNat (A3 p).cloud) (List.drop i20.toNat (A3 q).cloud):=h_25
 refine sq<|sq<|B1 (σ':=⟨[(2,.ptr (2) (0) (0) (0)),(3,.ptr (3) (0) (0) (0)),(8,.i .i64 (i20)),(56,.b (decide (i20 <(↑c22.length:Int)∧i20 <(↑d24.length:Int))))],[(2,⟨0,26,.var [.sl (List.map c3 u21),.sl (List.map A9 c22)]⟩),(3,⟨0,26,.var [.sl (List.map c3 v23),.sl (List.map A9 d24)]⟩)]⟩) ?_ ?_
 refine A5 (i20 <(↑c22.length:Int)) (fun h_33=>?_) (fun h_33=>?_)
 refine rG cx [2,3,8,56] [2,3] (tL 3 A9 c22 (tT 4 (A4 h_33) (tL 9 A9 d24 (tB 10 (i20 <(↑d24.length:Int)) (tD 11 (decide (i20 <(↑d24.length:Int))) (i20 <(↑c22.length:Int)∧i20 <(↑d24.length:Int)) (by simp only [eq_true h_33,tsl]) z0))))) ?_
 exact⟨rfl,by kernel_rfl⟩
 refine rG cx [2,3,8,56] [2,3] (tL 3 A9 c22 (tT 4 (A0 h_33) (tD 11 false (i20 <(↑c22.length:Int)∧i20 <(↑d24.length:Int)) (by simp only [eq_false h_33,tsl]) z0))) ?_
 exact⟨rfl,by kernel_rfl⟩
 refine sn<|dC (i20 <(↑c22.length:Int)∧i20 <(↑d24.length:Int)) (fun h34=>?_) fun h34=>?_
 refine sK<|sn<|sq<|bL 3<|sq<|rA cx [2,3,8,9,10] [2,3,9,10] (fA (0≤i20) (fG A9 c22 i20.toNat (fR 3 (fN 3 3 (fA (0≤i20) (fG A9 d24 i20.toNat (fR 3 (fN 3 3 (oR 3 (A9 c22[i20.toNat]!) (oR 8 (A9 d24[i20.toNat]!) z0))))))))))<|sn<|sq<|sq<|rG cx [2,3,8,9,10,73] [2,3,9,10] (tN 4 c22[i20.toNat]!.rep d24[i20.toNat]!.rep z0)<|sn<|dC (¬c22[i20.toNat]!.rep=d24[i20.toNat]!.rep) (fun h35=>?_) fun h35=>?_
 refine sq<|rG cx [4] [] (fT (A4g (c22[i20.toNat]!.rep) (d24[i20.toNat]!.rep)) (oA 4 (.i .i64 (H1 c22[i20.toNat]!.rep d24[i20.toNat]!.rep)) z0))<|sn<|rT<|nR<|bR<|nR<|nR<|bR<|nR<|qR (.i .i64 (H1 c22[i20.toNat]!.rep d24[i20.toNat]!.rep)) (.eq ?g9);rotate_left
 refine sK<|sn<|sq<|sq<|rG cx [2,3,8,9,10,83] [2,3,9,10] (tN 4 c22[i20.toNat]!.lo d24[i20.toNat]!.lo z0)<|sn<|dC (¬c22[i20.toNat]!.lo=d24[i20.toNat]!.lo) (fun h36=>?_) fun h36=>?_
 refine sq<|rG cx [4] [] (fT (A4g (c22[i20.toNat]!.lo) (d24[i20.toNat]!.lo)) (oA 4 (.i .i64 (H1 c22[i20.toNat]!.lo d24[i20.toNat]!.lo)) z0))<|sn<|rT<|nR<|bR<|nR<|nR<|bR<|nR<|qR (.i .i64 (H1 c22[i20.toNat]!.lo d24[i20.toNat]!.lo)) (.eq ?g10);rotate_left
 refine sK<|sn<|sq<|rG cx [2,3,8,9,10,93] [2,3,9,10] (tN 4 c22[i20.toNat]!.hi d24[i20.toNat]!.hi z0)<|sn<|dC (¬c22[i20.toNat]!.hi=d24[i20.toNat]!.hi) (fun h37=>?_) fun h37=>?_
 refine sq<|rG cx [4] [] (fT (A4g (c22[i20.toNat]!.hi) (d24[i20.toNat]!.hi)) (oA 4 (.i .i64 (H1 c22[i20.toNat]!.hi d24[i20.toNat]!.hi)) z0))<|sn<|rT<|bR<|nR<|nR<|bR<|nR<|qR (.i .i64 (H1 c22[i20.toNat]!.hi d24[i20.toNat]!.hi)) (.eq ?g11);rotate_left
 refine sK<|bN<|sn<|rG cx [2,3,8] [2,3] (tT 1 (B4 (by omega) (by have:=(O1 (A8 [p])).1;have h29:i20≤((E8 (A8 [p])).cloud.length:Int):=h29;omega):AV.i .i64 (IntKind.i64.wrap (i20+1))=AV.i .i64 (i20+1)) z0) ?_
 refine sn<|nX ((i20+1,u21,c22,v23,d24)) (show((↑(A3 p).cloud.length:Int)-(i20+1)).toNat <((↑(A3 p).cloud.length:Int)-i20).toNat from ?g13) (show Bb1 (A3 p) (A3 q) (i20+1) u21 c22 v23 d24 from ?g14);rotate_left 2
 refine eX 2<|nE<|nE<|bH<|sn<|sq<|rG cx [4] [] (tL 2 A9 c22 (tL 5 A9 d24 (fT (A4g ((↑c22.length:Int)) ((↑d24.length:Int))) (oA 6 (.i .i64 (H1 (↑c22.length:Int) (↑d24.length:Int))) z0))))<|sn<|rT<|qR (.i .i64 (H1 (↑c22.length:Int) (↑d24.length:Int))) (.eq ?g15);rotate_left
 case g9 =>
  exact congrArg (AV.i .i64) (E h26 h27 h28 h34 h31 (A9k h11 h13 h12) (A0k h35) (S1 h35))
 case g10 =>
  exact congrArg (AV.i .i64) (E h26 h27 h28 h34 h31 (A9k h11 h13 h12) (A0k h36) (S2 (Classical.not_not.1 h35) h36))
 case g11 =>
  exact congrArg (AV.i .i64) (E h26 h27 h28 h34 h31 (A9k h11 h13 h12) (A0k h37) (S3 (Classical.not_not.1 h35) (Classical.not_not.1 h36)))
 case g13 =>
  rw[h26]at h34
  generalize (A3 p).cloud.length=L at *
  omega
 case g14 =>
  have k6':=h34
  rw[h26,h27]at k6'
  have e:A1i c22[i20.toNat]! d24[i20.toNat]! = 0:=by rw[← S3 (Classical.not_not.1 h35) (Classical.not_not.1 h36)];exact H5.2 (Classical.not_not.1 h37)
  rw[h26,h27]at e
  have:=B0j h28 k6'.1 k6'.2 e h31
  exact⟨h26,h27,this.1,this.2.1,this.2.2.1,this.2.2.2⟩
 case g15 =>
  rw[h26,h27]at h34 ⊢
  refine congrArg (AV.i .i64) ?_
  rw[A78 (A9k h11 h13 h12)]
  by_cases a:i20 <((A3 p).cloud.length:Int)
  ·have b:¬ i20 <((A3 q).cloud.length:Int):=fun b=>h34 ⟨a,b⟩
   rw[B0f h28 a b h31]
   unfold H1
   rw[if_neg (by omega),if_pos (by omega)]
  ·by_cases b:i20 <((A3 q).cloud.length:Int)
   ·rw[B0g h28 a b h31]
    unfold H1
    rw[if_pos (by omega)]
   ·rw[B0h a b h31]
    unfold H1
    rw[if_neg (by omega),if_neg (by omega)]
theorem con46(a b:Past)(ha:a.cloud.length*16≤140737488350000)(hb:b.cloud.length*16≤140737488350000):Con Tryz.prog 46 [.agg (c26 a),.agg (c26 b)] (.b (decide (B8 (B3 a b)=0))) :=
 by
 refine sC A6 [.tmp 4] 9 Tryz.func46 ?_
 intro e0 cx
 refine sq<|rG cx [2,3] [2,3] z0<|sn<|sq<|rG cx [4] [] (fT (B7q (a) (b) (by(with_reducible assumption)) (by(with_reducible assumption))) (fT (con79 (B3 a b) ?g0) (oA 2 (.agg [.sl (List.map c3 (B3 a b).vec),.sl (List.map A9 (B3 a b).cloud)]) (oA 3 (.b (decide (B8 (B3 a b)=0))) z0)))) ?_;rotate_left
 refine sn<|rT ?_
 exact A3h (r:=.b (decide (B8 (B3 a b)=0))) (obl:=[]) (by kernel_rfl) trivial (B5.refl _)
 case g0=>have h:=(O1 (fun r=>V3 (A8 [a] r) (A8 [b] r))).1;have h2:(B3 a b).cloud.length≤8000000000:=h;omega
end Go.Proofs.YtphcaholhacnpaaGreat
