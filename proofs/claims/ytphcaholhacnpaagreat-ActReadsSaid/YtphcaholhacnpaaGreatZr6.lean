/- Dg: the law of what is read behind an act; others, kept. Conditions: sizes. EN: from a law's contract to its row: 'for every input it answers true, and the input reads as it did'. Conditions: none named, none written. Wx: what is handed in, by its types. Conditions: none. Wy: what is handed in, by its types (acts, facts). Conditions: none. Qj: facts of the program that every row asks for, each by itself. Conditions: none. -/
import Derived.Below
import Derived.OwnWalk
import Derived.WalkKit
import Derived.KernelRfl
import Derived.Laws.MakeOwn
import Derived.Laws.OwnMore
import Derived.Laws.Slices
import Derived.Laws.CopyOwn
import Derived.Laws.AppendOwnNone
import Derived.Laws.Rows
import Derived.Orders
import Derived.Test.YtphcaholhacnpaaGreatProg
import Derived.DataReads
import Derived.ChangeOld
import Derived.DataElems
import Derived.SizedLaws
import Derived.ChangeKeysEq
import Derived.Sort.LotA
import Derived.Shelf.SlSortFuncK.RowK2
import Derived.Shelf.SlSortCmp.NoneTotal
import Derived.Lib.Walk
import Derived.Shelf.SlLaysE0
import Derived.Shelf.RegionOpenPlain
import Derived.Deep.LoopGhost
import Derived.Lib.SliceRun
import Derived.Lib.Bytealg
import Derived.BigQuiet
import Derived.Shelf.SlSortFuncK.WholeK
import Derived.Shelf.GgSortFunc.Tiny
import Derived.Maps.RangeRun
import Derived.Shelf.SlSortFuncK.SWK
import Derived.Deep.Cut
import Derived.Deep.CutRange
import Derived.Deep.DeepCutAuto
import Derived.Lib.ReflectliteSwap
import Derived.Laws.Externs
import Derived.Lib.ReflectliteSlice
import Derived.Lib.AppendZeros
import Derived.ProofKit
import Derived.JoinedCond
import Derived.Deep.CondSized
import Derived.Test.YtphcaholhacnpaaGreatRows
import Derived.Test.YtphcaholhacnpaaGreatZr5
set_option linter.unusedVariables false
set_option linter.unusedSimpArgs false
namespace Go.Proofs.YtphcaholhacnpaaGreat
open Go.E
set_option maxRecDepth 100000
set_option maxHeartbeats 4000000
theorem A1a{p:Entry→Bool}{l:List Entry}{i:Int}(h0:0≤i)(hi:i < l.length)(hp:p l[i.toNat]! = true):l.filter p=(l.take i.toNat).filter p++l[i.toNat]! ::(l.drop (i+1).toNat).filter p:=by
 have:l=l.take i.toNat++l.drop i.toNat:=(List.take_append_drop _ _).symm
 conv=>lhs;rw[this,List.filter_append,B0j h0 hi,List.filter_cons_of_pos hp]
theorem Y3{l:List Entry}{i:Int}(h:¬ i < l.length):l.take i.toNat=l:=List.take_of_length_le (by omega)
theorem B7x{a b:List Entry}{s:ByteArray}{i j:Int}(h0:0≤i)(hi:i < a.length)(hs:a[i.toNat]!.sku=s)(h:Y6 a b s i j):Y6 a b s (i+1) j:=by
 unfold Y6 at *
 rw[G4 h0 hi,if_neg (by rw[A4v];exact fun k=>k hs),h]
theorem B45{a b:List Entry}{s:ByteArray}{i j:Int}(h0:0≤j)(hi:j < b.length)(hs:b[j.toNat]!.sku=s)(h:Y6 a b s i j):Y6 a b s i (j+1):=by
 unfold Y6 at *
 rw[G4 h0 hi,if_neg (by rw[A4v];exact fun k=>k hs),h]
theorem B7y{a b:List Entry}{s:ByteArray}{i j:Int}(h0:0≤i)(hi:i < a.length)(j0:0≤j)(hj:j < b.length)(ha:¬ a[i.toNat]!.sku=s)(hab:a[i.toNat]! = b[j.toNat]!)(h:Y6 a b s i j):Y6 a b s (i+1) (j+1):=by
 unfold Y6 at *
 rw[G4 h0 hi,G4 j0 hj,if_pos (A4v.2 ha),if_pos (by rw[← hab];exact A4v.2 ha),h,hab]
theorem ot_fin{a b:List Entry}{s:ByteArray}{i j:Int}(h0:0≤i)(j0:0≤j)(him:i≤a.length)(hjm:j≤b.length)(hi:¬(i < a.length∧a[i.toNat]!.sku=s))(hj:¬(j < b.length∧b[j.toNat]!.sku=s))(he:i=a.length∨j=b.length)(h:Y6 a b s i j) :
  (i=a.length∧j=b.length)↔a.filter (H4 s)=b.filter (H4 s):=by
 unfold Y6 at h
 constructor
 ·rintro⟨h1,h2⟩
  rwa [Y3 (l:=a) (by omega),Y3 (l:=b) (by omega)]at h
 ·intro k
  rcases he with e | e
  ·refine⟨e,Classical.byContradiction fun c=>?_⟩
   have hj':j < b.length:=by omega
   have n:¬ b[j.toNat]!.sku=s:=fun q=>hj ⟨hj',q⟩
   rw[Y3 (l:=a) (by omega)]at h
   rw[A1a j0 hj' (A4v.2 n),← h]at k
   have:=congrArg List.length k
   simp only [List.length_append,List.length_cons]at this
   omega
  ·refine⟨Classical.byContradiction fun c=>?_,e⟩
   have hi':i < a.length:=by omega
   have n:¬ a[i.toNat]!.sku=s:=fun q=>hi ⟨hi',q⟩
   rw[Y3 (l:=b) (by omega)]at h
   rw[A1a h0 hi' (A4v.2 n),← h]at k
   have:=congrArg List.length k
   simp only [List.length_append,List.length_cons]at this
   omega
theorem ot_dif{a b:List Entry}{s:ByteArray}{i j:Int}(h0:0≤i)(hi:i < a.length)(j0:0≤j)(hj:j < b.length)(ha:¬ a[i.toNat]!.sku=s)(hb:¬ b[j.toNat]!.sku=s)(hab:¬ a[i.toNat]! = b[j.toNat]!)(h:Y6 a b s i j):¬ a.filter (H4 s)=b.filter (H4 s):=fun k=>by
 unfold Y6 at h
 rw[A1a h0 hi (A4v.2 ha),A1a j0 hj (A4v.2 hb),h]at k
 exact hab (List.cons.inj (List.append_cancel_left k)).1
theorem A73{s:ByteArray}{p:Past}{e:Entry}:(s=noneS∧D7 p e.dot=true∨¬ s=noneS∧e.sku=s∧D7 p e.dot=true)↔¬ A4u s p e=true:=by
 unfold A4u
 rw[decide_eq_true_iff,Classical.not_not]
 constructor
 ·rintro(⟨a,b⟩ | ⟨a,b,c⟩)
  ·exact⟨.inl a,b⟩
  ·exact⟨.inr b,c⟩
 ·rintro⟨a | a,b⟩
  ·exact .inl ⟨a,b⟩
  ·by_cases c:s=noneS
   ·exact .inl ⟨c,b⟩
   ·exact .inr ⟨c,a,b⟩
theorem Ao8{l:List Entry}{j:Int}(h0:0≤j)(hj:j < l.length):l.take (j+1).toNat=l.take j.toNat++[l[j.toNat]!]:=(D1 h0 hj).symm
theorem B7z(a b:List Entry)(s:ByteArray)(ha:a.length≤4611686018427387904)(hb:b.length≤4611686018427387904):Con Tryz.prog 27 [.sl (a.map c46),.sl (b.map c46),.s s] (.b (decide (a.filter (H4 s)=b.filter (H4 s)))) :=
 by
 refine lN 0 c46 (a) Tryz.func27 fun hl_0=>lN 1 c46 (b) Tryz.func27 fun hl_1=>sC A6 [.tmp 6] 72 Tryz.func27 ?_
 intro e0 cx
 refine sq<|rG cx [0,1,2] [] z0<|sn<|sq<|rG cx [0,1,2,7,8] [] z0<|sn<|bL 0<|sL (X:=Int×Int) (fun x=>⟨[(0,.sl (List.map c46 a)),(1,.sl (List.map c46 b)),(2,.s (s)),(7,.i .i64 (x.1)),(8,.i .i64 (x.2))],[]⟩) (fun x ↦ decO1 a b x.1 x.2) (fun x ↦ Ad4 a b s x.1 x.2) [0,1,2,7,8] [] (((0:Int),(0:Int))) (show Ad4 a b s (0:Int) (0:Int)from(by exact⟨by omega,by omega,by omega,by omega,by simp [Y6]⟩)) ?_
 rintro⟨i0,j1⟩ h_2
 obtain⟨hh3,hh4,h5,h6,h7⟩:0≤i0∧i0≤(↑a.length:Int)∧0≤j1∧j1≤(↑b.length:Int)∧Y6 a b s i0 j1:=h_2
 refine bL 1<|sq<|bL 2<|sL (X:=Int) (fun x=>⟨[(0,.sl (List.map c46 a)),(1,.sl (List.map c46 b)),(2,.s (s)),(7,.i .i64 (x)),(8,.i .i64 (j1))],[]⟩) (fun x ↦ decOa a x) (fun x ↦ B7s a b s i0 j1 x) [0,1,2,7,8] [] (i0) (show B7s a b s i0 j1 i0 from(by exact⟨by omega,hh3,hh4,h5,h6,h7⟩)) ?_
 intro i8 h_9
 obtain⟨h10,h11⟩:i0≤i8∧Ad4 a b s i8 j1:=h_9
 refine sq<|sq<|A7 (σ':=⟨[(0,.sl (List.map c46 a)),(1,.sl (List.map c46 b)),(2,.s (s)),(7,.i .i64 (i8)),(8,.i .i64 (j1)),(21,.b (decide (i8 <(↑a.length:Int)∧a[i8.toNat]!.sku=s)))],[]⟩) ?_ ?_
 refine A2 (i8 <(↑a.length:Int)) (fun h_13=>?_) (fun h_13=>?_)
 refine rG cx [0,1,2,7,8,21] [] (tL 2 c46 a (tT 3 (A1 h_13) (fO (0≤i8) (fG c46 a i8.toNat (fR 4 (tT 11 (S4:AV.b (a[i8.toNat]!.sku.toList == s.toList)=AV.b (decide (a[i8.toNat]!.sku=s))) (tD 12 (decide (a[i8.toNat]!.sku=s)) (i8 <(↑a.length:Int)∧a[i8.toNat]!.sku=s) (by simp only [eq_true h_13,tsl]) (oR 7 (c46 a[i8.toNat]!) z0)))))))) ?_
 exact⟨rfl,by kernel_rfl⟩
 refine rG cx [0,1,2,7,8,21] [] (tL 2 c46 a (tT 3 (A0 h_13) (tD 12 false (i8 <(↑a.length:Int)∧a[i8.toNat]!.sku=s) (by simp only [eq_false h_13,tsl]) z0))) ?_
 exact⟨rfl,by kernel_rfl⟩
 refine sn<|dC (i8 <(↑a.length:Int)∧a[i8.toNat]!.sku=s) (fun h14=>?_) fun h14=>?_
 refine sK<|sn<|bL 3<|rG cx [0,1,2,7,8] [] (tW 1 (i8+1) z0)<|bN<|sn<|nX (i8+1) (show((↑a.length:Int)-(i8+1)).toNat <((↑a.length:Int)-i8).toNat from(by omega)) (show B7s a b s i0 j1 (i8+1)from(by exact⟨by omega,by omega,by have:=h14.1;omega,h5,h6,B7x (by omega) h14.1 h14.2 h11.2.2.2.2⟩))
 refine eX 2<|nE<|nE<|bH<|sn<|sq<|bL 4<|sL (X:=Int) (fun x=>⟨[(0,.sl (List.map c46 a)),(1,.sl (List.map c46 b)),(2,.s (s)),(7,.i .i64 (i8)),(8,.i .i64 (x))],[]⟩) (fun x ↦ decOa b x) (fun x ↦ B7t a b s i8 j1 x) [0,1,2,7,8] [] (j1) (show B7t a b s i8 j1 j1 from(by exact⟨by omega,h11⟩)) ?_
 intro j15 h_16
 obtain⟨h17,h18⟩:j1≤j15∧Ad4 a b s i8 j15:=h_16
 refine sq<|sq<|A7 (σ':=⟨[(0,.sl (List.map c46 a)),(1,.sl (List.map c46 b)),(2,.s (s)),(7,.i .i64 (i8)),(8,.i .i64 (j15)),(36,.b (decide (j15 <(↑b.length:Int)∧b[j15.toNat]!.sku=s)))],[]⟩) ?_ ?_
 refine A2 (j15 <(↑b.length:Int)) (fun h_20=>?_) (fun h_20=>?_)
 refine rG cx [0,1,2,7,8,36] [] (tL 2 c46 b (tT 3 (A1 h_20) (fO (0≤j15) (fG c46 b j15.toNat (fR 4 (tT 11 (S4:AV.b (b[j15.toNat]!.sku.toList == s.toList)=AV.b (decide (b[j15.toNat]!.sku=s))) (tD 12 (decide (b[j15.toNat]!.sku=s)) (j15 <(↑b.length:Int)∧b[j15.toNat]!.sku=s) (by simp only [eq_true h_20,tsl]) (oR 7 (c46 b[j15.toNat]!) z0)))))))) ?_
 exact⟨rfl,by kernel_rfl⟩
 refine rG cx [0,1,2,7,8,36] [] (tL 2 c46 b (tT 3 (A0 h_20) (tD 12 false (j15 <(↑b.length:Int)∧b[j15.toNat]!.sku=s) (by simp only [eq_false h_20,tsl]) z0))) ?_
 exact⟨rfl,by kernel_rfl⟩
 refine sn<|dC (j15 <(↑b.length:Int)∧b[j15.toNat]!.sku=s) (fun h21=>?_) fun h21=>?_
 refine sK<|sn<|bL 5<|rG cx [0,1,2,7,8] [] (tW 1 (j15+1) z0)<|bN<|sn<|nX (j15+1) (show((↑b.length:Int)-(j15+1)).toNat <((↑b.length:Int)-j15).toNat from(by omega)) (show B7t a b s i8 j1 (j15+1)from(by exact⟨by omega,h11.1,h11.2.1,by omega,by have:=h21.1;omega,B45 (by omega) h21.1 h21.2 h18.2.2.2.2⟩))
 refine eX 4<|nE<|nE<|bH<|sn<|sq<|sq<|A7 (σ':=⟨[(0,.sl (List.map c46 a)),(1,.sl (List.map c46 b)),(2,.s (s)),(7,.i .i64 (i8)),(8,.i .i64 (j15)),(48,.b (decide (i8=(↑a.length:Int)∨j15=(↑b.length:Int))))],[]⟩) ?_ ?_
 refine A2 (i8=(↑a.length:Int)) (fun h_23=>?_) (fun h_23=>?_)
 refine rG cx [0,1,2,7,8,48] [] (tL 2 c46 a (tT 3 (A1 h_23) (tD 9 true (i8=(↑a.length:Int)∨j15=(↑b.length:Int)) (by simp only [eq_true h_23,tsl]) z0))) ?_
 exact⟨rfl,by kernel_rfl⟩
 refine rG cx [0,1,2,7,8,48] [] (tL 2 c46 a (tT 3 (A0 h_23) (tL 7 c46 b (tB 8 (j15=(↑b.length:Int)) (tD 9 (decide (j15=(↑b.length:Int))) (i8=(↑a.length:Int)∨j15=(↑b.length:Int)) (by simp only [eq_false h_23,tsl]) z0))))) ?_
 exact⟨rfl,by kernel_rfl⟩
 refine sn<|dC (i8=(↑a.length:Int)∨j15=(↑b.length:Int)) (fun h24=>?_) fun h24=>?_
 refine sq<|A7 (σ':=⟨[(6,.b (decide (i8=(↑a.length:Int)∧j15=(↑b.length:Int))))],[]⟩) ?_ ?_
 refine A2 (i8=(↑a.length:Int)) (fun h_26=>?_) (fun h_26=>?_)
 refine rG cx [6] [] (tL 2 c46 a (tT 3 (A1 h_26) (tL 7 c46 b (tB 8 (j15=(↑b.length:Int)) (tD 10 (decide (j15=(↑b.length:Int))) (i8=(↑a.length:Int)∧j15=(↑b.length:Int)) (by simp only [eq_true h_26,tsl]) z0))))) ?_
 exact⟨rfl,by kernel_rfl⟩
 refine rG cx [6] [] (tL 2 c46 a (tT 3 (A0 h_26) (tD 10 false (i8=(↑a.length:Int)∧j15=(↑b.length:Int)) (by simp only [eq_false h_26,tsl]) z0))) ?_
 exact⟨rfl,by kernel_rfl⟩
 refine sn<|rT<|nR<|bR<|nR<|bR<|qR (.b (decide (i8=(↑a.length:Int)∧j15=(↑b.length:Int)))) (.eq (by exact congrArg AV.b (decide_eq_decide.2 (ot_fin h18.1 h18.2.2.1 h18.2.1 h18.2.2.2.1 h14 h21 h24 h18.2.2.2.2))))
 refine sK<|sn<|sq<|sq<|rA cx [0,1,2,7,8,67] [] (fO (0≤i8) (fP ((List.map c46 a)[i8.toNat]?=some (c46 a[i8.toNat]!)) (by have:=h18.1;have:=h18.2.1;rw[List.getElem?_map,List.getElem?_eq_getElem (by omega),getElem!_pos a i8.toNat (by omega)];rfl) (fR 4 (fN 4 4 (fO (0≤j15) (fP ((List.map c46 b)[j15.toNat]?=some (c46 b[j15.toNat]!)) (by have:=h18.2.2.1;have:=h18.2.2.2.1;rw[List.getElem?_map,List.getElem?_eq_getElem (by omega),getElem!_pos b j15.toNat (by omega)];rfl) (fR 4 (fN 4 4 (fT (A0k (eq46 a[i8.toNat]! b[j15.toNat]!)) (oR 2 (c46 a[i8.toNat]!) (oR 6 (c46 b[j15.toNat]!) (oA 8 (.b (decide ¬a[i8.toNat]! = b[j15.toNat]!)) z0)))))))))))) ?_
 refine sn<|dC (¬a[i8.toNat]! = b[j15.toNat]!) (fun h27=>?_) fun h27=>?_
 refine sq<|rG cx [6] [] z0<|sn<|rT<|nR<|bR<|nR<|bR<|qR (.b (false)) (.eq ?g8);rotate_left
 refine sK<|sn<|sq<|rG cx [0,1,2,7,8] [] (tT 1 (C1 (by omega) (by have:=h18.2.1;omega):AV.i .i64 (IntKind.i64.wrap (i8+1))=AV.i .i64 (i8+1)) z0) ?_
 refine sn<|rG cx [0,1,2,7,8] [] (tT 1 (C1 (by omega) (by have:=h18.2.2.2.1;omega):AV.i .i64 (IntKind.i64.wrap (j15+1))=AV.i .i64 (j15+1)) z0) ?_
 refine bN<|sn<|nX ((i8+1,j15+1)) (show((↑a.length:Int)-(i8+1)+((↑b.length:Int)-(j15+1))).toNat <((↑a.length:Int)-i0+((↑b.length:Int)-j1)).toNat from(by have:=h18.2.1;have:=h18.2.2.2.1;omega)) (show Ad4 a b s (i8+1) (j15+1)from ?g12);rotate_left
 case g8 =>
  have a1:=h18.2.1
  have a2:=h18.2.2.2.1
  exact congrArg AV.b (decide_eq_false (ot_dif h18.1 (by omega) h18.2.2.1 (by omega) (fun q=>h14 ⟨by omega,q⟩) (fun q=>h21 ⟨by omega,q⟩) h27 h18.2.2.2.2)).symm
 case g12 =>
  have a0:=h18.1
  have a1:=h18.2.1
  have a2:=h18.2.2.2.1
  have a3:=h18.2.2.1
  exact⟨by omega,by omega,by omega,by omega,B7y h18.1 (by omega) h18.2.2.1 (by omega) (fun q=>h14 ⟨by omega,q⟩) (Classical.not_not.1 h27) h18.2.2.2.2⟩
theorem con28(live l:List Entry)(s:ByteArray)(p:Past)(hp:szP p)(ha:live.length≤4611686018427387904):Con Tryz.prog 28 [.sl (live.map c46),.sl (l.map c46),.s s,.agg (c26 p)] (.b (decide (live.filter (A4u s p)=l))) :=
 by
 refine lN 0 c46 (live) Tryz.func28 fun hl_0=>lN 1 c46 (l) Tryz.func28 fun hl_1=>sC A6 [.tmp 8] 58 Tryz.func28 ?_
 intro e0 cx
 refine sq<|rG cx [0,1,2,7] [7] z0<|sn<|sq<|rG cx [0,1,2,7,9] [7] z0<|sn<|sq<|sq<|rG cx [0,1,2,7,9,10] [7] z0<|sn<|bL 0<|sL (X:=Int×Int×List Int×List Span) (fun x=>⟨[(0,.sl (List.map c46 live)),(1,.sl (List.map c46 l)),(2,.s (s)),(7,.ptr (7) (0) (0) (0)),(9,.i .i64 (x.1)),(10,.i .i64 (x.2.1))],[(7,⟨0,26,.var [.sl (List.map c3 x.2.2.1),.sl (List.map A9 x.2.2.2)]⟩)]⟩) (fun x ↦ decKp live x.1 x.2.1 x.2.2.1 x.2.2.2) (fun x ↦ B40 live l s p x.1 x.2.1 x.2.2.1 x.2.2.2) [0,1,2,7,9,10] [7] (((0:Int),(0:Int),p.vec,p.cloud)) (show B40 live l s p (0:Int) (0:Int) p.vec p.cloud from(by exact⟨rfl,rfl,by omega,by omega,by omega,by omega,by simp [B7u]⟩)) ?_
 rintro⟨j0,i1,v2,cc3⟩ h_4
 obtain⟨hh5,hh6,hh7,h8,h9,h10,h11⟩:v2=p.vec∧cc3=p.cloud∧0≤i1∧i1≤(↑live.length:Int)∧0≤j0∧j0≤(↑l.length:Int)∧B7u live l s p i1 j0:=h_4
 refine sq<|rD cx [0,1,2,7,9,10,14] [7] (tL 2 c46 live (zB 3 (i1 <(↑live.length:Int)))) (fun h12=>?_) fun h12=>?_
 refine sK<|sn<|sq<|bL 1<|sq<|sq<|A7 (σ':=⟨[(0,.sl (List.map c46 live)),(1,.sl (List.map c46 l)),(2,.s (s)),(7,.ptr (7) (0) (0) (0)),(9,.i .i64 (j0)),(10,.i .i64 (i1)),(36,.b (decide (s={ data:=#[]:ByteArray }∧D7 { vec:=v2,cloud:=cc3:Past } live[i1.toNat]!.dot=true∨¬s={ data:=#[]:ByteArray }∧live[i1.toNat]!.sku=s∧D7 { vec:=v2,cloud:=cc3:Past } live[i1.toNat]!.dot=true)))],[(7,⟨0,26,.var [.sl (List.map c3 v2),.sl (List.map A9 cc3)]⟩)]⟩) ?_ ?_
 refine A2 (s={ data:=#[]:ByteArray }) (fun h_14=>?_) (fun h_14=>?_)
 refine rA cx [0,1,2,7,9,10,36] [7] (tT 1 (V4 h_14:AV.b (s.toList == { data:=#[]:ByteArray }.toList)=AV.b true) (fA (0≤i1) (fG c46 live i1.toNat (fR 4 (fN 2 4 (fT (A8b ({ vec:=v2,cloud:=cc3:Past }) (live[i1.toNat]!.dot)) (tD 19 (D7 { vec:=v2,cloud:=cc3:Past } live[i1.toNat]!.dot) (s={ data:=#[]:ByteArray }∧D7 { vec:=v2,cloud:=cc3:Past } live[i1.toNat]!.dot=true∨¬s={ data:=#[]:ByteArray }∧live[i1.toNat]!.sku=s∧D7 { vec:=v2,cloud:=cc3:Past } live[i1.toNat]!.dot=true) (by simp only [eq_true h_14,tsl]) (oR 15 (c46 live[i1.toNat]!) (oA 18 (.b (D7 { vec:=v2,cloud:=cc3:Past } live[i1.toNat]!.dot)) z0))))))))) ?_
 exact⟨rfl,by kernel_rfl⟩
 refine A2 (live[i1.toNat]!.sku=s) (fun h_15=>?_) (fun h_15=>?_)
 refine rA cx [0,1,2,7,9,10,36] [7] (tT 1 (N2 h_14:AV.b (s.toList == { data:=#[]:ByteArray }.toList)=AV.b false) (fA (0≤i1) (fG c46 live i1.toNat (fR 4 (tT 9 (V4 h_15:AV.b (live[i1.toNat]!.sku.toList == s.toList)=AV.b true) (fA (0≤i1) (fG c46 live i1.toNat (fR 4 (fN 2 4 (fT (A8b ({ vec:=v2,cloud:=cc3:Past }) (live[i1.toNat]!.dot)) (tD 19 (D7 { vec:=v2,cloud:=cc3:Past } live[i1.toNat]!.dot) (s={ data:=#[]:ByteArray }∧D7 { vec:=v2,cloud:=cc3:Past } live[i1.toNat]!.dot=true∨¬s={ data:=#[]:ByteArray }∧live[i1.toNat]!.sku=s∧D7 { vec:=v2,cloud:=cc3:Past } live[i1.toNat]!.dot=true) (by simp only [eq_false h_14,eq_true h_15,tsl]) (oR 5 (c46 live[i1.toNat]!) (oR 15 (c46 live[i1.toNat]!) (oA 18 (.b (D7 { vec:=v2,cloud:=cc3:Past } live[i1.toNat]!.dot)) z0)))))))))))))) ?_
 exact⟨rfl,by kernel_rfl⟩
 refine rA cx [0,1,2,7,9,10,36] [7] (tT 1 (N2 h_14:AV.b (s.toList == { data:=#[]:ByteArray }.toList)=AV.b false) (fA (0≤i1) (fG c46 live i1.toNat (fR 4 (tT 9 (N2 h_15:AV.b (live[i1.toNat]!.sku.toList == s.toList)=AV.b false) (tD 19 false (s={ data:=#[]:ByteArray }∧D7 { vec:=v2,cloud:=cc3:Past } live[i1.toNat]!.dot=true∨¬s={ data:=#[]:ByteArray }∧live[i1.toNat]!.sku=s∧D7 { vec:=v2,cloud:=cc3:Past } live[i1.toNat]!.dot=true) (by simp only [eq_false h_14,eq_false h_15,tsl]) (oR 5 (c46 live[i1.toNat]!) z0))))))) ?_
 exact⟨rfl,by kernel_rfl⟩
 refine sn<|dC (s={ data:=#[]:ByteArray }∧D7 { vec:=v2,cloud:=cc3:Past } live[i1.toNat]!.dot=true∨¬s={ data:=#[]:ByteArray }∧live[i1.toNat]!.sku=s∧D7 { vec:=v2,cloud:=cc3:Past } live[i1.toNat]!.dot=true) (fun h16=>?_) fun h16=>?_
 refine eX 1<|nE<|bH<|sn<|rG cx [0,1,2,7,9,10] [7] (tW 1 (i1+1) z0)<|sn<|nX ((j0,i1+1,v2,cc3)) (show((↑live.length:Int)-(i1+1)).toNat <((↑live.length:Int)-i1).toNat from(by omega)) (show B40 live l s p j0 (i1+1) v2 cc3 from ?g1);rotate_left
 refine sK<|sn<|sq<|sq<|A7 (σ':=⟨[(0,.sl (List.map c46 live)),(1,.sl (List.map c46 l)),(2,.s (s)),(7,.ptr (7) (0) (0) (0)),(9,.i .i64 (j0)),(10,.i .i64 (i1)),(51,.b (decide ((↑l.length:Int)≤j0∨¬l[j0.toNat]! = live[i1.toNat]!)))],[(7,⟨0,26,.var [.sl (List.map c3 v2),.sl (List.map A9 cc3)]⟩)]⟩) ?_ ?_
 refine A2 ((↑l.length:Int)≤j0) (fun h_18=>?_) (fun h_18=>?_)
 refine rA cx [0,1,2,7,9,10,51] [7] (tL 2 c46 l (tT 3 (A1 h_18) (tD 14 true ((↑l.length:Int)≤j0∨¬l[j0.toNat]! = live[i1.toNat]!) (by simp only [eq_true h_18,tsl]) z0))) ?_
 exact⟨rfl,by kernel_rfl⟩
 refine rA cx [0,1,2,7,9,10,51] [7] (tL 2 c46 l (tT 3 (A0 h_18) (fA (0≤j0) (fG c46 l j0.toNat (fR 4 (fN 4 4 (fA (0≤i1) (fG c46 live i1.toNat (fR 4 (fN 4 4 (fT (A0k (eq46 l[j0.toNat]! live[i1.toNat]!)) (tD 14 (decide ¬l[j0.toNat]! = live[i1.toNat]!) ((↑l.length:Int)≤j0∨¬l[j0.toNat]! = live[i1.toNat]!) (by simp only [eq_false h_18,tsl]) (oR 7 (c46 l[j0.toNat]!) (oR 11 (c46 live[i1.toNat]!) (oA 13 (.b (decide ¬l[j0.toNat]! = live[i1.toNat]!)) z0))))))))))))))) ?_
 exact⟨rfl,by kernel_rfl⟩
 refine sn<|dC ((↑l.length:Int)≤j0∨¬l[j0.toNat]! = live[i1.toNat]!) (fun h19=>?_) fun h19=>?_
 refine sq<|rG cx [8] [] z0<|sn<|rT<|nR<|bR<|nR<|nR<|bR<|nR<|qR (.b (false)) (.eq ?g2);rotate_left
 refine sK<|sn<|rG cx [0,1,2,7,9,10] [7] (tW 1 (j0+1) z0)<|bN<|sn<|rG cx [0,1,2,7,9,10] [7] (tW 1 (i1+1) z0)<|sn<|nX ((j0+1,i1+1,v2,cc3)) (show((↑live.length:Int)-(i1+1)).toNat <((↑live.length:Int)-i1).toNat from(by omega)) (show B40 live l s p (j0+1) (i1+1) v2 cc3 from ?g3);rotate_left
 refine eX 0<|nE<|nE<|bH<|sn<|sq<|rG cx [8] [] (tL 2 c46 l (tB 3 (j0=(↑l.length:Int)) z0))<|sn<|rT<|qR (.b (decide (j0=(↑l.length:Int)))) (.eq ?g4);rotate_left
 case g1 =>
  subst hh5 hh6
  refine⟨rfl,rfl,by omega,by omega,h9,h10,?_⟩
  unfold B7u at *
  rw[G4 hh7 h12,if_neg (A73.1 h16),h11]
 case g2 =>
  subst hh5 hh6
  refine congrArg AV.b (decide_eq_false fun k=>?_).symm
  have h16:=Classical.not_not.1 fun q=>h16 (A73.2 q)
  unfold B7u at h11
  rw[A1a hh7 h12 h16,h11]at k
  have hl:=congrArg List.length k
  simp only [List.length_append,List.length_cons,List.length_take]at hl
  rcases h19 with h19 | h19
  ·omega
  ·refine h19 ?_
   have hh6:l.take j0.toNat++l.drop j0.toNat=l:=List.take_append_drop _ _
   rw[← hh6]at k
   rw[List.take_append_of_le_length (by rw[List.length_take];omega),List.take_take,show min j0.toNat j0.toNat=j0.toNat by omega]at k
   have k:=List.append_cancel_left k
   rw[B0j h9 (by omega)]at k
   exact(List.cons.inj k).1.symm
 case g3 =>
  subst hh5 hh6
  have h16:=Classical.not_not.1 fun q=>h16 (A73.2 q)
  have hj:j0 < l.length:=Int.not_le.1 fun q=>h19 (.inl q)
  have he:=Classical.not_not.1 fun q=>h19 (.inr q)
  refine⟨rfl,rfl,by omega,by omega,by omega,by omega,?_⟩
  unfold B7u at *
  rw[G4 hh7 h12,if_pos h16,h11,Ao8 h9 hj,he]
 case g4 =>
  refine congrArg AV.b (decide_eq_decide.2 ?_)
  unfold B7u at h11
  rw[Y3 (by omega)]at h11
  rw[h11]
  constructor
  ·intro e;exact Y3 (by omega)
  ·intro e
   have:=congrArg List.length e
   rw[List.length_take]at this
   omega
theorem con5(w:Wish)(hs:w.live.length*40≤140737488351232)(hb:szP w.seen)(hp:szP w.act.past):Con Tryz.prog 5 [.agg (c32 w)] (.b true) :=
 by
 have SZ:szF (A8 w.live w.seen w.rep w.lim w.act).1∧(A8 w.live w.seen w.rep w.lim w.act).1.recs.length≤1:=shp_sz (A72 w)
 have DE:A8 w.live w.seen w.rep w.lim w.act=B1 w:=rfl
 rw[DE]at SZ
 have y:¬¬(A8 w.live w.seen w.rep w.lim w.act).2=0→(B1 w).2=0:=fun h=>Classical.not_not.1 h
 have LL:∀ {l:List Entry},B2 l=0→l.length≤16000000000:=fun h=>A1r (L7 h)
 have EL:(B1 w).2=0→(C8 w.live (B1 w).1).1.length≤16000000000:=fun h=>LL (B0v h).2
 have KN:(B1 w).2=0→w.act.kind=1∨w.act.kind=2∨w.act.kind=3∨w.act.kind=4∨w.act.kind=5∨w.act.kind=6:=fun h=>A2m (F6 h).2.2.2.2.1
 have AQ:(B1 w).2=0→w.act.kind=2→1≤w.act.qty∧w.act.qty≤1000000:=fun h k=>B0g (fun q=>q (F6 h).2.2.2.2.1) (.inr k)
 have GD:(B1 w).2=0→w.act.kind≤4→J6 w.act.sku=true:=fun h k=>T6 (fun q=>q (F6 h).2.2.2.2.1) k
 have LQ:(B1 w).2=0→w.act.kind=2→0≤(B4 w.live w.act.sku).1.qty+w.act.qty∧(B4 w.live w.act.sku).1.qty+w.act.qty≤1000000*16000000000+1000000:=fun h k=>by
  have l:=(F6 h).1
  have q:=AQ h k
  have z:=B44 (s:=w.act.sku) l
  rw[(T9 l (GD h (by omega))).2.1]
  have:=LL l
  omega
 refine sC A6 [.tmp 2] 190 Tryz.func5 ?_
 intro e0 cx
 refine sq<|rG cx [1] [1] z0<|sn<|sq<|sq<|rG cx [1,15] [1] (fT (con13 ) (oA 0 (.b (true)) z0))<|sn<|X0 (by kernel_rfl) (by kernel_rfl)<|sK<|sn<|sq<|rG cx [1,3,4] [1,3] (fT (con15 (w.live) (w.seen) (w.rep) (w.lim) (w.act) (by(with_reducible assumption)) (by(with_reducible assumption)) (by(with_reducible assumption))) (oA 10 (.tup [.agg [.sl (List.map c46 (A8 w.live w.seen w.rep w.lim w.act).1.adds),.sl (List.map c3 (A8 w.live w.seen w.rep w.lim w.act).1.gone.vec),.sl (List.map A9 (A8 w.live w.seen w.rep w.lim w.act).1.gone.cloud),.sl (List.map c54 (A8 w.live w.seen w.rep w.lim w.act).1.recs)],.i .i64 ((A8 w.live w.seen w.rep w.lim w.act).2)]) z0))<|sn<|sq<|sq<|rG cx [1,3,31] [1,3] (tN 1 ((A8 w.live w.seen w.rep w.lim w.act).2) (0:Int) z0)<|sn<|dC (¬(A8 w.live w.seen w.rep w.lim w.act).2=0) (fun h0=>?_) fun h0=>?_
 refine sq<|A7 (σ':=⟨[(2,.b (decide ((↑(A8 w.live w.seen w.rep w.lim w.act).1.adds.length:Int)=0∧(↑(A8 w.live w.seen w.rep w.lim w.act).1.recs.length:Int)=0∧E0 (A8 w.live w.seen w.rep w.lim w.act).1.gone=0)))],[]⟩) ?_ ?_
 refine A2 ((↑(A8 w.live w.seen w.rep w.lim w.act).1.adds.length:Int)=0) (fun h2=>?_) (fun h2=>?_)
 refine A2 ((↑(A8 w.live w.seen w.rep w.lim w.act).1.recs.length:Int)=0) (fun h3=>?_) (fun h3=>?_)
 refine rG cx [2] [] (tL 2 c46 ((A8 w.live w.seen w.rep w.lim w.act).1.adds) (tT 3 (A1 h2) (tL 7 c54 ((A8 w.live w.seen w.rep w.lim w.act).1.recs) (tT 8 (A1 h3) (fT (An4 ((A8 w.live w.seen w.rep w.lim w.act).1.gone) (by rw[DE];exact SZ.1.1.1)) (tD 15 (decide (E0 (A8 w.live w.seen w.rep w.lim w.act).1.gone=0)) ((↑(A8 w.live w.seen w.rep w.lim w.act).1.adds.length:Int)=0∧(↑(A8 w.live w.seen w.rep w.lim w.act).1.recs.length:Int)=0∧E0 (A8 w.live w.seen w.rep w.lim w.act).1.gone=0) (by simp only [eq_true h2,eq_true h3,tsl]) (oA 13 (.b (decide (E0 (A8 w.live w.seen w.rep w.lim w.act).1.gone=0))) z0))))))) ?_
 exact⟨rfl,by kernel_rfl⟩
 refine rG cx [2] [] (tL 2 c46 ((A8 w.live w.seen w.rep w.lim w.act).1.adds) (tT 3 (A1 h2) (tL 7 c54 ((A8 w.live w.seen w.rep w.lim w.act).1.recs) (tT 8 (A0 h3) (tD 15 false ((↑(A8 w.live w.seen w.rep w.lim w.act).1.adds.length:Int)=0∧(↑(A8 w.live w.seen w.rep w.lim w.act).1.recs.length:Int)=0∧E0 (A8 w.live w.seen w.rep w.lim w.act).1.gone=0) (by simp only [eq_true h2,eq_false h3,tsl]) z0))))) ?_
 exact⟨rfl,by kernel_rfl⟩
 refine rG cx [2] [] (tL 2 c46 ((A8 w.live w.seen w.rep w.lim w.act).1.adds) (tT 3 (A0 h2) (tD 15 false ((↑(A8 w.live w.seen w.rep w.lim w.act).1.adds.length:Int)=0∧(↑(A8 w.live w.seen w.rep w.lim w.act).1.recs.length:Int)=0∧E0 (A8 w.live w.seen w.rep w.lim w.act).1.gone=0) (by simp only [eq_false h2,tsl]) z0))) ?_
 exact⟨rfl,by kernel_rfl⟩
 refine sn<|rT<|nR<|qR (.b (decide ((↑(A8 w.live w.seen w.rep w.lim w.act).1.adds.length:Int)=0∧(↑(A8 w.live w.seen w.rep w.lim w.act).1.recs.length:Int)=0∧E0 (A8 w.live w.seen w.rep w.lim w.act).1.gone=0))) (.eq ?g1);rotate_left
 refine sK<|sn<|sq<|rG cx [1,5,6] [1] (fT (con23 (w.live) ((A8 w.live w.seen w.rep w.lim w.act).1) (by rw[DE];exact SZ.1)) (oA 3 (.tup [.sl (List.map c46 (C8 w.live (A8 w.live w.seen w.rep w.lim w.act).1).1),.i .i64 ((C8 w.live (A8 w.live w.seen w.rep w.lim w.act).1).2)]) z0)) ?_
 refine sn<|sq<|sq<|A7 (σ':=⟨[(1,.ptr (1) (0) (0) (0)),(5,.sl (List.map c46 (C8 w.live (A8 w.live w.seen w.rep w.lim w.act).1).1)),(60,.b (decide (¬(C8 w.live (A8 w.live w.seen w.rep w.lim w.act).1).2=0∨¬B2 (C8 w.live (A8 w.live w.seen w.rep w.lim w.act).1).1=0)))],[(1,⟨0,32,.var [.sl (List.map c46 w.live),.sl (List.map c3 w.seen.vec),.sl (List.map A9 w.seen.cloud),.i .i64 (w.rep),.i .i64 (w.lim.lines),.i .i64 (w.lim.count),.i .i64 (w.act.kind),.s (w.act.sku),.i .i64 (w.act.qty),.sl (List.map c3 w.act.past.vec),.sl (List.map A9 w.act.past.cloud)]⟩)]⟩) ?_ ?_
 refine A2 (¬(C8 w.live (A8 w.live w.seen w.rep w.lim w.act).1).2=0) (fun h_5=>?_) (fun h_5=>?_)
 refine rG cx [1,5,60] [1] (tT 1 (E1 h_5:AV.b ((C8 w.live (A8 w.live w.seen w.rep w.lim w.act).1).2 !=0)=AV.b true) (tD 6 true (¬(C8 w.live (A8 w.live w.seen w.rep w.lim w.act).1).2=0∨¬B2 (C8 w.live (A8 w.live w.seen w.rep w.lim w.act).1).1=0) (by simp only [eq_false h_5,tsl]) z0)) ?_
 exact⟨rfl,by kernel_rfl⟩
 refine rG cx [1,5,60] [1] (tN 1 ((C8 w.live (A8 w.live w.seen w.rep w.lim w.act).1).2) (0:Int) (tT 2 (A0 h_5) (fT (I1 ((C8 w.live (A8 w.live w.seen w.rep w.lim w.act).1).1)) (tN 5 (B2 (C8 w.live (A8 w.live w.seen w.rep w.lim w.act).1).1) (0:Int) (tT 6 (by first | (simp only [eq_false h_5,tsl];done) | simp_all:AV.b (decide ¬B2 (C8 w.live (A8 w.live w.seen w.rep w.lim w.act).1).1=0)=AV.b (decide (¬(C8 w.live (A8 w.live w.seen w.rep w.lim w.act).1).2=0∨¬B2 (C8 w.live (A8 w.live w.seen w.rep w.lim w.act).1).1=0))) (oA 4 (.i .i64 (B2 (C8 w.live (A8 w.live w.seen w.rep w.lim w.act).1).1)) z0)))))) ?_
 exact⟨rfl,by kernel_rfl⟩
 refine sn<|dC (¬(C8 w.live (A8 w.live w.seen w.rep w.lim w.act).1).2=0∨¬B2 (C8 w.live (A8 w.live w.seen w.rep w.lim w.act).1).1=0) (fun h6=>?_) fun h6=>?_
 refine sq<|rG cx [2] [] z0<|sn<|rT<|nR<|qR (.b (false)) (.eq ?g3);rotate_left
 refine sK<|sn<|sq<|rG cx [1,5,7] [1,7] z0<|sn<|sq<|rG cx [1,5,7,8,9] [1,7,8] (fT (con25 (w.live) (w.act.sku) (by(with_reducible assumption))) (oA 4 (.tup [.agg [.s ((B4 w.live w.act.sku).1.sku),.i .i64 ((B4 w.live w.act.sku).1.qty),.i .i64 ((B4 w.live w.act.sku).1.parts)],.i .i64 ((B4 w.live w.act.sku).2)]) z0))<|sn<|sq<|rG cx [1,5,7,8,9,10] [1,7,8,10] (fT (con25 ((C8 w.live (A8 w.live w.seen w.rep w.lim w.act).1).1) (w.act.sku) (by rw[DE];have:=EL (y h0);omega)) (oA 3 (.tup [.agg [.s ((B4 (C8 w.live (A8 w.live w.seen w.rep w.lim w.act).1).1 w.act.sku).1.sku),.i .i64 ((B4 (C8 w.live (A8 w.live w.seen w.rep w.lim w.act).1).1 w.act.sku).1.qty),.i .i64 ((B4 (C8 w.live (A8 w.live w.seen w.rep w.lim w.act).1).1 w.act.sku).1.parts)],.i .i64 ((B4 (C8 w.live (A8 w.live w.seen w.rep w.lim w.act).1).1 w.act.sku).2)]) z0)) ?_
 refine sn<|sq ?_
 have hl_7:=(T5 (C8 w.live (A8 w.live w.seen w.rep w.lim w.act).1).1)
 have hl_8:=(T5 (C8 w.live (A8 w.live w.seen w.rep w.lim w.act).1).1 w.rep)
 have hl_9:=(T5 (C8 w.live (A8 w.live w.seen w.rep w.lim w.act).1).1 w.rep w.act.sku)
 refine rG cx [1,5,7,8,9,10,12] [1,7,8,10] (fT (con26 ((C8 w.live (A8 w.live w.seen w.rep w.lim w.act).1).1) (w.rep) (w.act.sku) (by rw[DE];have:=EL (y h0);omega)) (oA 5 (.tup [.sl (List.map c46 (E8 (C8 w.live (A8 w.live w.seen w.rep w.lim w.act).1).1 w.rep w.act.sku).1),.i .i64 ((E8 (C8 w.live (A8 w.live w.seen w.rep w.lim w.act).1).1 w.rep w.act.sku).2)]) z0)) ?_
 refine sn<|sq<|sq<|rG cx [1,5,7,8,9,10,12,88] [1,7,8,10] z0<|sn<|bL 0<|rD cx [1,5,7,8,9,10,12,88,89] [1,7,8,10] (zB 0 (w.act.kind=1)) (fun h10=>?_) fun h10=>?_
 refine sq<|A7 (σ':=⟨[(2,.b (decide ((B4 w.live w.act.sku).2=0∧(B4 (C8 w.live (A8 w.live w.seen w.rep w.lim w.act).1).1 w.act.sku).1.qty=w.act.qty∧(B4 (C8 w.live (A8 w.live w.seen w.rep w.lim w.act).1).1 w.act.sku).1.parts=1∧(↑(E8 (C8 w.live (A8 w.live w.seen w.rep w.lim w.act).1).1 w.rep w.act.sku).1.length:Int)=1∧List.filter (H4 w.act.sku) w.live=List.filter (H4 w.act.sku) (C8 w.live (A8 w.live w.seen w.rep w.lim w.act).1).1)))],[]⟩) ?_ ?_
 refine A2 ((B4 w.live w.act.sku).2=0) (fun h12=>?_) (fun h12=>?_)
 refine A2 ((B4 (C8 w.live (A8 w.live w.seen w.rep w.lim w.act).1).1 w.act.sku).1.qty=w.act.qty) (fun h13=>?_) (fun h13=>?_)
 refine A2 ((B4 (C8 w.live (A8 w.live w.seen w.rep w.lim w.act).1).1 w.act.sku).1.parts=1) (fun h14=>?_) (fun h14=>?_)
 refine A2 ((↑(E8 (C8 w.live (A8 w.live w.seen w.rep w.lim w.act).1).1 w.rep w.act.sku).1.length:Int)=1) (fun h15=>?_) (fun h15=>?_)
 refine rG cx [2] [] (tT 1 (A1 h12) (tT 7 (A1 h13) (tT 12 (A1 h14) (tL 16 c46 ((E8 (C8 w.live (A8 w.live w.seen w.rep w.lim w.act).1).1 w.rep w.act.sku).1) (tT 17 (A1 h15) (fT (B7z (w.live) ((C8 w.live (A8 w.live w.seen w.rep w.lim w.act).1).1) (w.act.sku) (by omega) (by rw[DE];have:=EL (y h0);omega)) (tD 27 (decide (List.filter (H4 w.act.sku) w.live=List.filter (H4 w.act.sku) (C8 w.live (A8 w.live w.seen w.rep w.lim w.act).1).1)) ((B4 w.live w.act.sku).2=0∧(B4 (C8 w.live (A8 w.live w.seen w.rep w.lim w.act).1).1 w.act.sku).1.qty=w.act.qty∧(B4 (C8 w.live (A8 w.live w.seen w.rep w.lim w.act).1).1 w.act.sku).1.parts=1∧(↑(E8 (C8 w.live (A8 w.live w.seen w.rep w.lim w.act).1).1 w.rep w.act.sku).1.length:Int)=1∧List.filter (H4 w.act.sku) w.live=List.filter (H4 w.act.sku) (C8 w.live (A8 w.live w.seen w.rep w.lim w.act).1).1) (by simp only [eq_true h12,eq_true h13,eq_true h14,eq_true h15,tsl]) (oA 25 (.b (decide (List.filter (H4 w.act.sku) w.live=List.filter (H4 w.act.sku) (C8 w.live (A8 w.live w.seen w.rep w.lim w.act).1).1))) z0)))))))) ?_
 exact⟨rfl,by kernel_rfl⟩
 refine rG cx [2] [] (tT 1 (A1 h12) (tT 7 (A1 h13) (tT 12 (A1 h14) (tL 16 c46 ((E8 (C8 w.live (A8 w.live w.seen w.rep w.lim w.act).1).1 w.rep w.act.sku).1) (tT 17 (A0 h15) (tD 27 false ((B4 w.live w.act.sku).2=0∧(B4 (C8 w.live (A8 w.live w.seen w.rep w.lim w.act).1).1 w.act.sku).1.qty=w.act.qty∧(B4 (C8 w.live (A8 w.live w.seen w.rep w.lim w.act).1).1 w.act.sku).1.parts=1∧(↑(E8 (C8 w.live (A8 w.live w.seen w.rep w.lim w.act).1).1 w.rep w.act.sku).1.length:Int)=1∧List.filter (H4 w.act.sku) w.live=List.filter (H4 w.act.sku) (C8 w.live (A8 w.live w.seen w.rep w.lim w.act).1).1) (by simp only [eq_true h12,eq_true h13,eq_true h14,eq_false h15,tsl]) z0)))))) ?_
 exact⟨rfl,by kernel_rfl⟩
 refine rG cx [2] [] (tT 1 (A1 h12) (tT 7 (A1 h13) (tT 12 (A0 h14) (tD 27 false ((B4 w.live w.act.sku).2=0∧(B4 (C8 w.live (A8 w.live w.seen w.rep w.lim w.act).1).1 w.act.sku).1.qty=w.act.qty∧(B4 (C8 w.live (A8 w.live w.seen w.rep w.lim w.act).1).1 w.act.sku).1.parts=1∧(↑(E8 (C8 w.live (A8 w.live w.seen w.rep w.lim w.act).1).1 w.rep w.act.sku).1.length:Int)=1∧List.filter (H4 w.act.sku) w.live=List.filter (H4 w.act.sku) (C8 w.live (A8 w.live w.seen w.rep w.lim w.act).1).1) (by simp only [eq_true h12,eq_true h13,eq_false h14,tsl]) z0)))) ?_
 exact⟨rfl,by kernel_rfl⟩
 refine rG cx [2] [] (tT 1 (A1 h12) (tT 7 (A0 h13) (tD 27 false ((B4 w.live w.act.sku).2=0∧(B4 (C8 w.live (A8 w.live w.seen w.rep w.lim w.act).1).1 w.act.sku).1.qty=w.act.qty∧(B4 (C8 w.live (A8 w.live w.seen w.rep w.lim w.act).1).1 w.act.sku).1.parts=1∧(↑(E8 (C8 w.live (A8 w.live w.seen w.rep w.lim w.act).1).1 w.rep w.act.sku).1.length:Int)=1∧List.filter (H4 w.act.sku) w.live=List.filter (H4 w.act.sku) (C8 w.live (A8 w.live w.seen w.rep w.lim w.act).1).1) (by simp only [eq_true h12,eq_false h13,tsl]) z0))) ?_
 exact⟨rfl,by kernel_rfl⟩
 refine rG cx [2] [] (tT 1 (A0 h12) (tD 27 false ((B4 w.live w.act.sku).2=0∧(B4 (C8 w.live (A8 w.live w.seen w.rep w.lim w.act).1).1 w.act.sku).1.qty=w.act.qty∧(B4 (C8 w.live (A8 w.live w.seen w.rep w.lim w.act).1).1 w.act.sku).1.parts=1∧(↑(E8 (C8 w.live (A8 w.live w.seen w.rep w.lim w.act).1).1 w.rep w.act.sku).1.length:Int)=1∧List.filter (H4 w.act.sku) w.live=List.filter (H4 w.act.sku) (C8 w.live (A8 w.live w.seen w.rep w.lim w.act).1).1) (by simp only [eq_false h12,tsl]) z0)) ?_
 exact⟨rfl,by kernel_rfl⟩
 refine sn<|rT<|bR<|nR<|qR (.b (decide ((B4 w.live w.act.sku).2=0∧(B4 (C8 w.live (A8 w.live w.seen w.rep w.lim w.act).1).1 w.act.sku).1.qty=w.act.qty∧(B4 (C8 w.live (A8 w.live w.seen w.rep w.lim w.act).1).1 w.act.sku).1.parts=1∧(↑(E8 (C8 w.live (A8 w.live w.seen w.rep w.lim w.act).1).1 w.rep w.act.sku).1.length:Int)=1∧List.filter (H4 w.act.sku) w.live=List.filter (H4 w.act.sku) (C8 w.live (A8 w.live w.seen w.rep w.lim w.act).1).1))) (.eq ?g7);rotate_left
 refine rD cx [1,5,7,8,9,10,12,88,118] [1,7,8,10] (zB 0 (w.act.kind=2)) (fun h16=>?_) fun h16=>?_
 refine sq<|A7 (σ':=⟨[(2,.b (decide ((B4 w.live w.act.sku).2=0∧(B4 (C8 w.live (A8 w.live w.seen w.rep w.lim w.act).1).1 w.act.sku).1.qty=(B4 w.live w.act.sku).1.qty+w.act.qty∧(↑(E8 (C8 w.live (A8 w.live w.seen w.rep w.lim w.act).1).1 w.rep w.act.sku).1.length:Int)=1∧List.filter (H4 w.act.sku) w.live=List.filter (H4 w.act.sku) (C8 w.live (A8 w.live w.seen w.rep w.lim w.act).1).1)))],[]⟩) ?_ ?_
 refine A2 ((B4 w.live w.act.sku).2=0) (fun h18=>?_) (fun h18=>?_)
 refine A2 ((B4 (C8 w.live (A8 w.live w.seen w.rep w.lim w.act).1).1 w.act.sku).1.qty=(B4 w.live w.act.sku).1.qty+w.act.qty) (fun h19=>?_) (fun h19=>?_)
 refine A2 ((↑(E8 (C8 w.live (A8 w.live w.seen w.rep w.lim w.act).1).1 w.rep w.act.sku).1.length:Int)=1) (fun h20=>?_) (fun h20=>?_)
 refine rG cx [2] [] (tT 1 (A1 h18) (tT 9 (C1 (by have:=LQ (y h0) h16;omega) (by have:=LQ (y h0) h16;omega):AV.i .i64 (IntKind.i64.wrap ((B4 w.live w.act.sku).1.qty+w.act.qty))=AV.i .i64 ((B4 w.live w.act.sku).1.qty+w.act.qty)) (tT 10 (A1 h19) (tL 14 c46 ((E8 (C8 w.live (A8 w.live w.seen w.rep w.lim w.act).1).1 w.rep w.act.sku).1) (tT 15 (A1 h20) (fT (B7z (w.live) ((C8 w.live (A8 w.live w.seen w.rep w.lim w.act).1).1) (w.act.sku) (by omega) (by rw[DE];have:=EL (y h0);omega)) (tD 25 (decide (List.filter (H4 w.act.sku) w.live=List.filter (H4 w.act.sku) (C8 w.live (A8 w.live w.seen w.rep w.lim w.act).1).1)) ((B4 w.live w.act.sku).2=0∧(B4 (C8 w.live (A8 w.live w.seen w.rep w.lim w.act).1).1 w.act.sku).1.qty=(B4 w.live w.act.sku).1.qty+w.act.qty∧(↑(E8 (C8 w.live (A8 w.live w.seen w.rep w.lim w.act).1).1 w.rep w.act.sku).1.length:Int)=1∧List.filter (H4 w.act.sku) w.live=List.filter (H4 w.act.sku) (C8 w.live (A8 w.live w.seen w.rep w.lim w.act).1).1) (by simp only [eq_true h18,eq_true h19,eq_true h20,tsl]) (oA 23 (.b (decide (List.filter (H4 w.act.sku) w.live=List.filter (H4 w.act.sku) (C8 w.live (A8 w.live w.seen w.rep w.lim w.act).1).1))) z0)))))))) ?_
 exact⟨rfl,by kernel_rfl⟩
 refine rG cx [2] [] (tT 1 (A1 h18) (tT 9 (C1 (by have:=LQ (y h0) h16;omega) (by have:=LQ (y h0) h16;omega):AV.i .i64 (IntKind.i64.wrap ((B4 w.live w.act.sku).1.qty+w.act.qty))=AV.i .i64 ((B4 w.live w.act.sku).1.qty+w.act.qty)) (tT 10 (A1 h19) (tL 14 c46 ((E8 (C8 w.live (A8 w.live w.seen w.rep w.lim w.act).1).1 w.rep w.act.sku).1) (tT 15 (A0 h20) (tD 25 false ((B4 w.live w.act.sku).2=0∧(B4 (C8 w.live (A8 w.live w.seen w.rep w.lim w.act).1).1 w.act.sku).1.qty=(B4 w.live w.act.sku).1.qty+w.act.qty∧(↑(E8 (C8 w.live (A8 w.live w.seen w.rep w.lim w.act).1).1 w.rep w.act.sku).1.length:Int)=1∧List.filter (H4 w.act.sku) w.live=List.filter (H4 w.act.sku) (C8 w.live (A8 w.live w.seen w.rep w.lim w.act).1).1) (by simp only [eq_true h18,eq_true h19,eq_false h20,tsl]) z0)))))) ?_
 exact⟨rfl,by kernel_rfl⟩
 refine rG cx [2] [] (tT 1 (A1 h18) (tT 9 (C1 (by have:=LQ (y h0) h16;omega) (by have:=LQ (y h0) h16;omega):AV.i .i64 (IntKind.i64.wrap ((B4 w.live w.act.sku).1.qty+w.act.qty))=AV.i .i64 ((B4 w.live w.act.sku).1.qty+w.act.qty)) (tT 10 (A0 h19) (tD 25 false ((B4 w.live w.act.sku).2=0∧(B4 (C8 w.live (A8 w.live w.seen w.rep w.lim w.act).1).1 w.act.sku).1.qty=(B4 w.live w.act.sku).1.qty+w.act.qty∧(↑(E8 (C8 w.live (A8 w.live w.seen w.rep w.lim w.act).1).1 w.rep w.act.sku).1.length:Int)=1∧List.filter (H4 w.act.sku) w.live=List.filter (H4 w.act.sku) (C8 w.live (A8 w.live w.seen w.rep w.lim w.act).1).1) (by simp only [eq_true h18,eq_false h19,tsl]) z0)))) ?_
 exact⟨rfl,by kernel_rfl⟩
 refine rG cx [2] [] (tT 1 (A0 h18) (tD 25 false ((B4 w.live w.act.sku).2=0∧(B4 (C8 w.live (A8 w.live w.seen w.rep w.lim w.act).1).1 w.act.sku).1.qty=(B4 w.live w.act.sku).1.qty+w.act.qty∧(↑(E8 (C8 w.live (A8 w.live w.seen w.rep w.lim w.act).1).1 w.rep w.act.sku).1.length:Int)=1∧List.filter (H4 w.act.sku) w.live=List.filter (H4 w.act.sku) (C8 w.live (A8 w.live w.seen w.rep w.lim w.act).1).1) (by simp only [eq_false h18,tsl]) z0)) ?_
 exact⟨rfl,by kernel_rfl⟩
 refine sn<|rT<|bR<|nR<|qR (.b (decide ((B4 w.live w.act.sku).2=0∧(B4 (C8 w.live (A8 w.live w.seen w.rep w.lim w.act).1).1 w.act.sku).1.qty=(B4 w.live w.act.sku).1.qty+w.act.qty∧(↑(E8 (C8 w.live (A8 w.live w.seen w.rep w.lim w.act).1).1 w.rep w.act.sku).1.length:Int)=1∧List.filter (H4 w.act.sku) w.live=List.filter (H4 w.act.sku) (C8 w.live (A8 w.live w.seen w.rep w.lim w.act).1).1))) (.eq ?g15);rotate_left
 refine rD cx [1,5,7,8,9,10,88,145] [1,7,8,10] (zB 0 (w.act.kind=3)) (fun h21=>?_) fun h21=>?_
 refine sq<|A7 (σ':=⟨[(2,.b (decide ((B4 w.live w.act.sku).2=0∧(0:Int) <(B4 w.live w.act.sku).1.parts∧(B4 (C8 w.live (A8 w.live w.seen w.rep w.lim w.act).1).1 w.act.sku).1.parts=0∧List.filter (H4 w.act.sku) w.live=List.filter (H4 w.act.sku) (C8 w.live (A8 w.live w.seen w.rep w.lim w.act).1).1)))],[]⟩) ?_ ?_
 refine A2 ((B4 w.live w.act.sku).2=0) (fun h23=>?_) (fun h23=>?_)
 refine A2 ((0:Int) <(B4 w.live w.act.sku).1.parts) (fun h24=>?_) (fun h24=>?_)
 refine A2 ((B4 (C8 w.live (A8 w.live w.seen w.rep w.lim w.act).1).1 w.act.sku).1.parts=0) (fun h25=>?_) (fun h25=>?_)
 refine rG cx [2] [] (tT 1 (A1 h23) (tT 5 (A1 h24) (tT 10 (A1 h25) (fT (B7z (w.live) ((C8 w.live (A8 w.live w.seen w.rep w.lim w.act).1).1) (w.act.sku) (by omega) (by rw[DE];have:=EL (y h0);omega)) (tD 20 (decide (List.filter (H4 w.act.sku) w.live=List.filter (H4 w.act.sku) (C8 w.live (A8 w.live w.seen w.rep w.lim w.act).1).1)) ((B4 w.live w.act.sku).2=0∧(0:Int) <(B4 w.live w.act.sku).1.parts∧(B4 (C8 w.live (A8 w.live w.seen w.rep w.lim w.act).1).1 w.act.sku).1.parts=0∧List.filter (H4 w.act.sku) w.live=List.filter (H4 w.act.sku) (C8 w.live (A8 w.live w.seen w.rep w.lim w.act).1).1) (by simp only [eq_true h23,eq_true h24,eq_true h25,tsl]) (oA 18 (.b (decide (List.filter (H4 w.act.sku) w.live=List.filter (H4 w.act.sku) (C8 w.live (A8 w.live w.seen w.rep w.lim w.act).1).1))) z0)))))) ?_
 exact⟨rfl,by kernel_rfl⟩
 refine rG cx [2] [] (tT 1 (A1 h23) (tT 5 (A1 h24) (tT 10 (A0 h25) (tD 20 false ((B4 w.live w.act.sku).2=0∧(0:Int) <(B4 w.live w.act.sku).1.parts∧(B4 (C8 w.live (A8 w.live w.seen w.rep w.lim w.act).1).1 w.act.sku).1.parts=0∧List.filter (H4 w.act.sku) w.live=List.filter (H4 w.act.sku) (C8 w.live (A8 w.live w.seen w.rep w.lim w.act).1).1) (by simp only [eq_true h23,eq_true h24,eq_false h25,tsl]) z0)))) ?_
 exact⟨rfl,by kernel_rfl⟩
 refine rG cx [2] [] (tT 1 (A1 h23) (tT 5 (A0 h24) (tD 20 false ((B4 w.live w.act.sku).2=0∧(0:Int) <(B4 w.live w.act.sku).1.parts∧(B4 (C8 w.live (A8 w.live w.seen w.rep w.lim w.act).1).1 w.act.sku).1.parts=0∧List.filter (H4 w.act.sku) w.live=List.filter (H4 w.act.sku) (C8 w.live (A8 w.live w.seen w.rep w.lim w.act).1).1) (by simp only [eq_true h23,eq_false h24,tsl]) z0))) ?_
 exact⟨rfl,by kernel_rfl⟩
 refine rG cx [2] [] (tT 1 (A0 h23) (tD 20 false ((B4 w.live w.act.sku).2=0∧(0:Int) <(B4 w.live w.act.sku).1.parts∧(B4 (C8 w.live (A8 w.live w.seen w.rep w.lim w.act).1).1 w.act.sku).1.parts=0∧List.filter (H4 w.act.sku) w.live=List.filter (H4 w.act.sku) (C8 w.live (A8 w.live w.seen w.rep w.lim w.act).1).1) (by simp only [eq_false h23,tsl]) z0)) ?_
 exact⟨rfl,by kernel_rfl⟩
 refine sn<|rT<|bR<|nR<|qR (.b (decide ((B4 w.live w.act.sku).2=0∧(0:Int) <(B4 w.live w.act.sku).1.parts∧(B4 (C8 w.live (A8 w.live w.seen w.rep w.lim w.act).1).1 w.act.sku).1.parts=0∧List.filter (H4 w.act.sku) w.live=List.filter (H4 w.act.sku) (C8 w.live (A8 w.live w.seen w.rep w.lim w.act).1).1))) (.eq ?g17);rotate_left
 refine rD cx [1,5,7,88,167] [1,7] (zB 0 (w.act.kind=5)) (fun h26=>?_) fun h26=>?_
 refine sq<|rG cx [2] [] (tL 1 c46 ((C8 w.live (A8 w.live w.seen w.rep w.lim w.act).1).1) (tB 2 ((↑(C8 w.live (A8 w.live w.seen w.rep w.lim w.act).1).1.length:Int)=0) z0))<|sn<|rT<|bR<|nR<|qR (.b (decide ((↑(C8 w.live (A8 w.live w.seen w.rep w.lim w.act).1).1.length:Int)=0))) (.eq ?g18);rotate_left
 refine rD cx [1,5,7,88,172] [1,7] (zB 0 (w.act.kind=4)) (fun h27=>?_) fun h27=>?_
 refine sq<|rG cx [2] [] (fT (con28 (w.live) ((C8 w.live (A8 w.live w.seen w.rep w.lim w.act).1).1) (w.act.sku) (w.act.past) (by(with_reducible assumption)) (by omega)) (oA 7 (.b (decide (List.filter (A4u w.act.sku w.act.past) w.live=(C8 w.live (A8 w.live w.seen w.rep w.lim w.act).1).1))) z0))<|sn<|rT<|bR<|nR<|qR (.b (decide (List.filter (A4u w.act.sku w.act.past) w.live=(C8 w.live (A8 w.live w.seen w.rep w.lim w.act).1).1))) (.eq ?g19);rotate_left
 refine rD cx [1,5,7,182] [1,7] (zB 0 (w.act.kind=6)) (fun h28=>?_) fun h28=>?_
 refine sq<|rG cx [2] [] (fT (con28 (w.live) ((C8 w.live (A8 w.live w.seen w.rep w.lim w.act).1).1) ({ data:=#[]:ByteArray }) (w.act.past) (by(with_reducible assumption)) (by omega)) (oA 5 (.b (decide (List.filter (A4u { data:=#[]:ByteArray } w.act.past) w.live=(C8 w.live (A8 w.live w.seen w.rep w.lim w.act).1).1))) z0))<|sn<|rT<|bR<|nR<|qR (.b (decide (List.filter (A4u { data:=#[]:ByteArray } w.act.past) w.live=(C8 w.live (A8 w.live w.seen w.rep w.lim w.act).1).1))) (.eq ?g20);rotate_left
 refine sK<|bN<|sn<|sq<|rG cx [2] [] z0<|sn<|rT<|qR (.b (false)) (.eq ?g21);rotate_left
 case g1 =>
  rw[DE]at h0 ⊢
  rw[B7v h0]
  exact congrArg AV.b (decide_eq_true ⟨rfl,rfl,(G9 _).2 A0q⟩)
 case g3 =>
  rw[DE]at h6
  have z:=B0v (y h0)
  rcases h6 with h6 | h6
  ·exact absurd z.1 h6
  ·exact absurd z.2 h6
 case g7 =>
  rw[DE]
  obtain⟨L,e1,e2,e3⟩:=A06 (y h0)
  rw[e1]
  have g:=GD (y h0) (by omega)
  obtain⟨z1,z2,z3,z4⟩:=rd_set (y h0) h10 e2 e3
  obtain⟨l1,l2,l3⟩:=T9 (s:=w.act.sku) ((F8 _).2 e2) g
  exact congrArg AV.b (decide_eq_true ⟨(T9 (F6 (y h0)).1 g).1,by rw[l2,z3],by rw[l3,z4],z1,z2⟩)
 case g15 =>
  rw[DE]
  obtain⟨L,e1,e2,e3⟩:=A06 (y h0)
  rw[e1]
  have g:=GD (y h0) (by omega)
  obtain⟨z1,z2,z3⟩:=rd_add (y h0) h16 e2 e3
  obtain⟨l1,l2,l3⟩:=T9 (s:=w.act.sku) ((F8 _).2 e2) g
  obtain⟨m1,m2,m3⟩:=T9 (s:=w.act.sku) (F6 (y h0)).1 g
  exact congrArg AV.b (decide_eq_true ⟨m1,by rw[l2,m2,z3],z1,z2⟩)
 case g17 =>
  rw[DE]
  obtain⟨L,e1,e2,e3⟩:=A06 (y h0)
  rw[e1]
  have g:=GD (y h0) (by omega)
  obtain⟨z1,z2,z3⟩:=B0u (y h0) h21 e2 e3
  obtain⟨l1,l2,l3⟩:=T9 (s:=w.act.sku) ((F8 _).2 e2) g
  obtain⟨m1,m2,m3⟩:=T9 (s:=w.act.sku) (F6 (y h0)).1 g
  exact congrArg AV.b (decide_eq_true ⟨m1,by rw[m3];exact z1,by rw[l3,z2];rfl,z3⟩)
 case g18 =>
  rw[DE]
  obtain⟨L,e1,e2,e3⟩:=A06 (y h0)
  rw[e1,B43 (y h0) h26 e3]
  rfl
 case g19 =>
  rw[DE]
  obtain⟨L,e1,e2,e3⟩:=A06 (y h0)
  rw[e1]
  have e:=(F6 (y h0)).2.2.2.2.2
  rw[e,B09 h27]at e3
  exact congrArg AV.b (decide_eq_true (B5c (F6 (y h0)).1 e2 e3))
 case g20 =>
  rw[DE]
  obtain⟨L,e1,e2,e3⟩:=A06 (y h0)
  rw[e1]
  have e:=(F6 (y h0)).2.2.2.2.2
  rw[e,B0b h28]at e3
  exact congrArg AV.b (decide_eq_true (B5c (F6 (y h0)).1 e2 e3))
 case g21 =>
  have:=KN (y h0)
  omega
end Go.Proofs.YtphcaholhacnpaaGreat
namespace Go.E
open Go.RowKit Go.ChangeShapes Go.WideShapes Go.ChangeAt
def TyA(T:Tab)(L n t:Nat)(av:AV):Prop :=
 match look T t with
 | some ti=>if ti.isAgg then ∃ cs,av=.agg cs∧TyC T L n t cs else TyC T L n t [av]
 | none=>False
def B46(T:Tab)(L n:Nat):List Nat→List AV→Prop
 | [],[]=>True
 | t :: ts,a :: aL=>TyA T L n t a∧B46 T L n ts aL
 | _,_=>False
section
variable {P : Program} {T : Tab} {H : Type} {enc : TypeId × Value → H} {W : World} {spare : Nat → Bool} {held : Bool}
theorem A4w(hT:TabOk P T){n t:Nat}{ti:TI}(hti:look T t=some ti)(hp:L0 T n t=true)(hg:ti.isAgg=false){r:Reach}{base:Nat}{v:Value}(hv:Value.okWide P W r base t v):v.oneCell'=true∨∃ x,v=x∧v.cells=#[v]:=by
 have hu:=(hT t ti hti).1
 unfold Value.okWide at hv
 rw[hu]at hv
 cases n with
 | zero=>simp [L0]at hp
 | succ n =>
  unfold L0 at hp
  rw[hti]at hp
  simp only at hp
  unfold TI.isAgg at hg
  cases hd:ti.desc with
  | bool=>rw[hd]at hv;simp only [Cell.okWide,hu,hd,Cell.ok]at hv;cases v <;> simp_all [Value.oneCell',Value.cells]
  | int k=>rw[hd]at hv;simp only [Cell.okWide,hu,hd,Cell.ok]at hv;cases v <;> simp_all [Value.oneCell',Value.cells]
  | string=>rw[hd]at hv;simp only [Cell.okWide,hu,hd,Cell.ok]at hv;cases v <;> simp_all [Value.oneCell',Value.cells]
  | slice e=>rw[hd]at hv;simp only [Cell.okWide,hu,hd,Cell.ok]at hv;cases v <;> simp_all [Value.oneCell',Value.cells]
  | struct fs=>rw[hd]at hg;simp at hg
  | array k e=>rw[hd]at hg;simp at hg
  | _=>rw[hd]at hp;first | exact absurd hp Bool.false_ne_true | cases hp
theorem B47(hT:TabOk P T){n t:Nat}(hp:L0 T n t=true){r:Reach}{base:Nat}{v:Value}{d:DataW H}{ps:List MemPlace}(hv:Value.okWide P W r base t v)
  (hd:DataW.Trod enc P W 0 spare held t v d ps) (hw:∀ m∈d.weights P t,m≤reachBytes) {L:Nat} (hL:bulkD d≤L):∃ av,RelV0 (fun k=>k < W.heap.size) W av v∧TyA T L n t av:=by
 obtain⟨ti,hti⟩:=Q4 hp
 obtain⟨fuel,hf⟩:=hd
 obtain⟨avs,hc,hty⟩:=B27 hT n t hp fuel _ _ _ hf hw L hL
 by_cases hg:ti.isAgg=true
 ·have hu:=(hT t ti hti).1
  have hv':=hv
  unfold Value.okWide at hv'
  rw[hu]at hv'
  have:∃ cs,v=.agg cs:=by
   unfold TI.isAgg at hg
   split at hg
   ·rename_i fs hd;rw[hd]at hv';obtain⟨cs,h,_⟩:=hv';exact⟨cs,h⟩
   ·rename_i k e hd;rw[hd]at hv';obtain⟨cs,h,_⟩:=hv';exact⟨cs,h⟩
   ·cases hg
  obtain⟨cs,rfl⟩:=this
  refine⟨.agg avs,?_,by unfold TyA;rw[hti];simp only [hg,if_true];exact⟨avs,rfl,hty⟩⟩
  have:=RelV0.agg (S:=fun k=>k < W.heap.size) (w:=W) avs cs.toList (by rw[hc.1];simp [Value.cells]) (fun u hu=>hc.2.1 u (by simpa [Value.cells]using hu)) (fun j a u ha hu=>hc.2.2 j a u ha (by simpa [Value.cells]using hu))
  simpa using this
 ·have hg':ti.isAgg=false:=by simpa using hg
  have h1:v.cells.toList=[v]:=by
   rcases A4w hT hti hp hg' hv with h | ⟨_,_,h⟩
   ·cases v <;> simp_all [Value.oneCell',Value.cells]
   ·rw[h]
  rw[h1]at hc
  obtain⟨c1,_,c3⟩:=hc
  match avs,c1,c3,hty with
  | [a],_,c3,hty=>exact⟨a,c3 0 a v rfl rfl,by unfold TyA;rw[hti];simp only [hg',Bool.false_eq_true,if_false];exact hty⟩
theorem A9d(hT:TabOk P T){L n:Nat}{r:Reach}{base:Nat}:∀(ts:List Nat) (vs:List Value) (ds:List (DataW H)) (ps:List MemPlace),(∀ t∈ts,L0 T n t=true) →
  (∀(j:Nat) t v,ts[j]?=some t→vs[j]?=some v→Value.okWide P W r base t v)→DataW.TrodAll enc P W 0 spare held ts vs ds ps→(∀ m∈DataW.weightsEach P ts ds,m≤reachBytes)→bulkDs ds≤L →
  ∃ avs:List AV,avs.length=vs.length∧(∀(j:Nat) (a:AV) (u:Value),avs[j]?=some a→vs[j]?=some u→RelV0 (fun k=>k < W.heap.size) W a u)∧B46 T L n ts avs∧ds.length=ts.length
 | [],[],[],ps,_,_,_,_,_=>⟨[],rfl,fun j a u ha=>by simp at ha,trivial,rfl⟩
 | t :: ts,v :: vs,d :: ds,ps,hp,hv,hA,hw,hL=>by
  simp only [bulkDs]at hL
  obtain⟨p,q,h1,h2,_⟩:=hA
  obtain⟨a,e1,e2⟩:=B47 hT (hp t (by simp)) (hv 0 t v rfl rfl) h1 (fun m hm=>hw m (by simp only [DataW.weightsEach,List.mem_append];exact .inl hm)) (L:=L) (by omega)
  obtain⟨aL,f1,f2,f3,f4⟩:=A9d (L:=L) hT ts vs ds q (fun t ht=>hp t (List.mem_cons_of_mem _ ht)) (fun j t v ht hv'=>hv (j+1) t v (by simpa using ht) (by simpa using hv')) h2 (fun m hm=>hw m (by simp only [DataW.weightsEach,List.mem_append];exact .inr hm)) (by omega)
  refine⟨a :: aL,by simp [f1],fun j b u hb hu=>?_,⟨e2,f3⟩,by simp [f4]⟩
  cases j with
  | zero=>simp at hb hu;subst hb hu;exact e1
  | succ j=>exact f2 j b u (by simpa using hb) (by simpa using hu)
 | [],_ :: _,_,_,_,_,hA,_,_=>hA.elim
 | [],[],_ :: _,_,_,_,hA,_,_=>hA.elim
 | _ :: _,[],_,_,_,_,hA,_,_=>hA.elim
 | _ :: _,_ :: _,[],_,_,_,hA,_,_=>hA.elim
theorem A1b(hl:laidOutB P=true){W':World}(hb:Below W.heap.size W W'):∀(ts:List Nat) (vs:List Value) (ds:List (DataW H)) (ps:List MemPlace),(∀ t∈ts,P.readableRec t=true∧t < P.types.size) →
  (∀ x∈ps,x.block < W.heap.size)→DataW.TrodAll enc P W 0 (fun _=>true) true ts vs ds ps→DataW.TrodAll enc P W' 0 (fun b=>decide (b < W.heap.size)) true ts vs ds ps
 | [],[],[],ps,_,_,h=>h
 | t :: ts,v :: vs,d :: ds,ps,hr,hlt,h=>by
  obtain⟨p,q,h1,h2,rfl⟩:=h
  exact⟨p,q,Below.trod hl (hr t (by simp)).1 (hr t (by simp)).2 h1 hb (fun x hx=>hlt x (List.mem_append_left _ hx)),
   A1b hl hb ts vs ds q (fun t ht=>hr t (List.mem_cons_of_mem _ ht)) (fun x hx=>hlt x (List.mem_append_right _ hx)) h2,rfl⟩
 | [],_ :: _,_,_,_,_,hA=>hA.elim
 | [],[],_ :: _,_,_,_,hA=>hA.elim
 | _ :: _,[],_,_,_,_,hA=>hA.elim
 | _ :: _,_ :: _,[],_,_,_,hA=>hA.elim
end
theorem B48{T:Tab}{C:Checked}{f:FuncId}{fn:Func}{s:ChangeSpec}{H:Type}{enc:TypeId×Value→H}(ts:List Nat)(tb L n:Nat)
  (hT:TabOk C.prog T) (hl:laidOutB C.prog=true)
  (hts:fn.params=ts.toArray) (htb:fn.resultTypes=#[tb]) (hub:C.prog.underlying tb=some .bool) (hpl:ts.all (fun t=>L0 T n t && C.prog.readableRec t && Nat.blt t C.prog.types.size)=true)
  (hvars:s.vars=[]) (hspec:∀ ds:List (DataW H),ds.length=ts.length→s.fn H (ds++[])={ results:=[.lit (.bool true)],args:=ds })
  (hcon:∀ avs,B46 T L n ts avs→Con C.prog f avs (.b true)) {W:World} {base:Nat} {args:Array Value} {ds gs:List (DataW H)} {before:List MemPlace} {us:List Nat}
  (hval:∀(j:Nat) t v,fn.params[j]?=some t→args[j]?=some v→Value.okWide C.prog W .any base t v) (hW:DataW.Whole enc C.prog fn.params.toList s.vars false W args.toList ds gs before)
  (hsz:(DataW.weightsEach C.prog (fn.params.toList++us) (ds++gs)).all (·≤reachBytes)=true) (hbk:bulkDs (ds++gs)≤L) :
  Calls C.prog f args W fun e W'=>∃ v,e=.returned v∧s.post enc C.prog fn false true false false W args v W':=by
 have hW':=hW
 obtain⟨p,q,hA,hV,rfl,_,_⟩:=hW
 rw[hvars]at hV
 obtain⟨rfl,rfl⟩:=trodVars_none hV
 rw[List.append_nil]at hW' hbk
 have hpars:fn.params.toList=ts:=by rw[hts]
 have hA':DataW.TrodAll enc C.prog W 0 (fun _=>true) true ts args.toList ds p:=by rw[← hpars];exact hA
 have hpl':∀ t∈ts,L0 T n t=true∧C.prog.readableRec t=true∧t < C.prog.types.size:=by
  intro t ht
  have:=List.all_eq_true.1 hpl t ht
  simp only [Bool.and_eq_true]at this
  exact⟨this.1.1,this.1.2,by simpa using this.2⟩
 have hw:∀ m∈DataW.weightsEach C.prog ts ds,m≤reachBytes:=by
  intro m hm
  have hsz':=hsz
  rw[List.append_nil,hpars]at hsz'
  have hsub:∀(ts us:List Nat) (ds:List (DataW H)),∀ m∈DataW.weightsEach C.prog ts ds,m∈DataW.weightsEach C.prog (ts++us) ds:=by
   intro ts us ds
   induction ts generalizing ds with
   | nil=>intro m hm;cases ds <;> simp [DataW.weightsEach]at hm
   | cons t ts ih =>
    intro m hm
    cases ds with
    | nil=>simp [DataW.weightsEach]at hm
    | cons d ds =>
     simp only [DataW.weightsEach,List.cons_append,List.mem_append]at hm ⊢
     rcases hm with hm | hm
     ·exact .inl hm
     ·exact .inr (ih ds m hm)
  have:=List.all_eq_true.1 hsz' m (hsub ts _ ds m hm)
  simpa using this
 obtain⟨avs,h1,h2,h3,h4⟩:=A9d hT ts args.toList ds p (fun t ht=>(hpl' t ht).1) (fun j t v ht hv=>hval j t v (by rw[hts];simpa using ht) (by simpa using hv)) hA' hw hbk
 have hlt:∀ x∈p,x.block < W.heap.size:=fun x hx=>hW'.lt x hx
 have hsp:=hspec ds h4
 have:=(hcon avs h3).2 W (fun k=>k < W.heap.size) args.toList (fun _ h=>h) (by rw[h1]) h2
 rw[Array.toArray_toList]at this
 refine this.mono fun e W' ⟨v,he,hr,hb⟩=>?_
 cases hr with
 | b =>
  refine⟨_,he,ds,[],p,[],p,[],hW',?_,?_,?_,hb.frame _,fun h=>by cases h⟩
  ·rw[hsp,htb]
   exact trodAll_mk1 (shut_bool hub true)
  ·rw[hsp,hpars]
   exact A1b hl hb ts args.toList ds p (fun t ht=>(hpl' t ht).2) hlt hA'
  ·rw[hsp,hvars]
   rfl
theorem Ao9{T:Tab}{C:Checked}{os:Os}{f:FuncId}{fn:Func}{s:ChangeSpec}{conds:List PathCond}{H:Type}{enc:TypeId×Value→H}(ts:List Nat)(tb n:Nat)
  (hT:TabOk C.prog T) (hl:laidOutB C.prog=true) (own:ownKnob C.prog.godebug=none) (started:os.Started) (noInit:C.prog.inits.idxOf? f=none) (hfn:C.prog.funcs[f]?=some fn)
  (hts:fn.params=ts.toArray) (htb:fn.resultTypes=#[tb]) (hub:C.prog.underlying tb=some .bool) (hpl:ts.all (fun t=>L0 T n t && C.prog.readableRec t && Nat.blt t C.prog.types.size)=true)
  (hvars:s.vars=[]) (hspec:∀ ds:List (DataW H),ds.length=ts.length→s.fn H (ds++[])={ results:=[.lit (.bool true)],args:=ds })
  (witness:∃(w:World) (tape:Tape) (i:Input),w.os=os∧(w.forCall tape i).Shaped C.prog∧i.vars=[]∧Input.okWide C.prog (w.forCall tape i) .any w.heap.size f i ∧
   s.pre6 enc C.prog fn conds false (w.forCall tape i).memory i.args∧({}:Assume).holds C.prog (lone (Frame.enter C.prog f i.args .normal) [] (w.forCall tape i)))
  (hcon:∀ L avs,B46 T L n ts avs→Con C.prog f avs (.b true)) :
  ReturnsInHanded {} C os f .any (s.pre6 enc C.prog fn conds false) (s.post enc C.prog fn false true false false):=by
 refine returnsInHanded_of_change_sized own started noInit hfn witness ?_
 intro W base args ds gs before hval hW _ hsz _
 exact B48 ts tb (bulkDs (ds++gs)) n hT hl hts htb hub hpl hvars hspec (hcon _) hval hW hsz (Nat.le_refl _)
theorem Y4{α:Type}{g:α→List AV}{Q:α→Prop}{C:List AV→Prop}(h:∀ r,C r→∃ x,r=g x∧Q x):∀(rows:List (List AV)),(∀ r∈rows,C r)→∃ xs:List α,rows=xs.map g∧∀ x∈xs,Q x
 | [],_=>⟨[],rfl,fun x hx=>by simp at hx⟩
 | r :: rows,hr=>by
  obtain⟨x,h1,h2⟩:=h r (hr r (by simp))
  obtain⟨xs,h3,h4⟩:=Y4 h rows fun q hq=>hr q (List.mem_cons_of_mem _ hq)
  refine⟨x :: xs,by rw[h1,h3];rfl,fun y hy=>?_⟩
  rcases List.mem_cons.1 hy with rfl | hy
  ·exact h2
  ·exact h4 y hy
end Go.E
namespace Go.Proofs.YtphcaholhacnpaaGreat
open Go.E
set_option maxRecDepth 100000
set_option maxHeartbeats 4000000
open Go.ChangeShapes Go.WideShapes Go.ChangeAt Go.RowKit Go
theorem Tryz.own:Go.ownKnob Tryz.prog.godebug=none:=by kernel_rfl
theorem Tryz.laidOut:laidOutB Tryz.prog=true:=by kernel_rfl
def inr(n:Int):Prop:=-9223372036854775808≤n∧n≤9223372036854775807
theorem ty3{L n:Nat}{cs:List AV}(h:TyC tab L (n+1) 3 cs):∃ x,cs=c3 x∧inr x:=by
 obtain⟨x,rfl,h1,h2⟩:=h
 exact⟨x,rfl,h1,h2⟩
theorem ty44{L n:Nat}{cs:List AV}(h:TyC tab L (n+2) 44 cs):∃ d:Dot,cs=c44 d∧inr d.rep∧inr d.num:=by
 obtain⟨a,b,rfl,ha,c,d,rfl,hc,rfl⟩:=h
 obtain⟨x,rfl,hx⟩:=ty3 ha
 obtain⟨y,rfl,hy⟩:=ty3 hc
 exact⟨⟨x,y⟩,rfl,hx,hy⟩
theorem ty9{L n:Nat}{cs:List AV}(h:TyC tab L (n+1) 9 cs):∃ s:ByteArray,cs=[.s s]∧s.size≤140737488351232:=by
 obtain⟨s,rfl,_,h2,_⟩:=h
 exact⟨s,rfl,h2⟩
theorem ty141{L n:Nat}{cs:List AV}(h:TyC tab L (n+2) 141 cs):∃ d:Span,cs=A9 d∧inr d.rep∧inr d.lo∧inr d.hi:=by
 obtain⟨a,b,rfl,ha,c,d,rfl,hc,e,f,rfl,he,rfl⟩:=h
 obtain⟨x,rfl,hx⟩:=ty3 ha
 obtain⟨y,rfl,hy⟩:=ty3 hc
 obtain⟨z,rfl,hz⟩:=ty3 he
 exact⟨⟨x,y,z⟩,rfl,hx,hy,hz⟩
def inE(e:Entry):Prop:=inr e.dot.rep∧inr e.dot.num∧e.sku.size≤140737488351232∧inr e.qty
theorem ty46{L n:Nat}{cs:List AV}(h:TyC tab L (n+3) 46 cs):∃ e:Entry,cs=c46 e∧inE e:=by
 obtain⟨a,b,rfl,ha,c,d,rfl,hc,e,f,rfl,he,rfl⟩:=h
 obtain⟨x,rfl,hx⟩:=ty44 ha
 obtain⟨y,rfl,hy⟩:=ty9 hc
 obtain⟨z,rfl,hz⟩:=ty3 he
 exact⟨⟨x,y,z⟩,rfl,hx.1,hx.2,hy,hz⟩
theorem ty22{L n:Nat}{cs:List AV}(h:TyC tab L (n+4) 22 cs):∃ xs:List Entry,cs=[.sl (xs.map c46)]∧((∀ x∈xs,inE x)∧xs.length*40≤140737488351232)∧xs.length≤L:=by
 obtain⟨rows,rfl,h1,h2,hL,h3⟩:=h
 obtain⟨xs,rfl,hx⟩:=Y4 (fun r hr=>ty46 hr) rows h3
 exact⟨xs,rfl,⟨hx,by rw[List.length_map]at h2;exact h2⟩,by rw[List.length_map]at hL;exact hL⟩
mutual
theorem bulk_eq {H : Type} : ∀ d : DataW H, Rows.uptoBulk d = bulkD d
  | .lit l => by cases l <;> simp [Rows.uptoBulk, bulkD]
  | .nil => by simp [Rows.uptoBulk, bulkD]
  | .ptr d => by simp only [Rows.uptoBulk, bulkD, bulk_eq d]
  | .slice elems spare => by simp only [Rows.uptoBulk, bulkD, bulks_eq elems, bulks_eq spare]
  | .agg parts => by simp only [Rows.uptoBulk, bulkD, bulks_eq parts]
  | .iface _ d => by simp only [Rows.uptoBulk, bulkD, bulk_eq d]
  | .map entries => by simp only [Rows.uptoBulk, bulkD, bulkm_eq entries]
  | .held _ => by simp [Rows.uptoBulk, bulkD]
theorem bulks_eq {H : Type} : ∀ l : List (DataW H), Rows.uptoBulkAll l = bulkDs l
  | [] => by simp [Rows.uptoBulkAll, bulkDs]
  | d :: r => by simp only [Rows.uptoBulkAll, bulkDs, bulk_eq d, bulks_eq r]
theorem bulkm_eq {H : Type} : ∀ l : List (Lit × DataW H), Rows.uptoBulkEntries l = bulkDm l
  | [] => by simp [Rows.uptoBulkEntries, bulkDm]
  | x :: r => by simp only [Rows.uptoBulkEntries, bulkDm, bulke_eq x, bulkm_eq r]
theorem bulke_eq {H : Type} : ∀ x : Lit × DataW H, Rows.uptoBulkEntry x = bulkDe x
  | (l, d) => by cases l <;> simp only [Rows.uptoBulkEntry, bulkDe, bulk_eq d]
end
end Go.Proofs.YtphcaholhacnpaaGreat
namespace Go.Proofs.YtphcaholhacnpaaGreat
open Go.E
set_option maxRecDepth 100000
set_option maxHeartbeats 4000000
def inPL(L:Nat)(p:Past):Prop:=szP p∧p.cloud.length≤L∧p.vec.length≤L
theorem ly23{L n:Nat}{cs:List AV}(h:TyC tab L (n+2) 23 cs):∃ xs:List Int,cs=c23 xs∧xs.length*8≤140737488351232∧xs.length≤L:=by
 obtain⟨rows,rfl,h1,h2,hL,h3⟩:=h
 obtain⟨xs,rfl,hx⟩:=Y4 (fun r hr=>ty3 hr) rows h3
 exact⟨xs,rfl,by rw[List.length_map]at h2;exact h2,by rw[List.length_map]at hL;exact hL⟩
theorem ly24{L n:Nat}{cs:List AV}(h:TyC tab L (n+3) 24 cs):∃ xs:List Span,cs=[.sl (xs.map A9)]∧xs.length*24≤140737488351232∧xs.length≤L:=by
 obtain⟨rows,rfl,h1,h2,hL,h3⟩:=h
 obtain⟨xs,rfl,hx⟩:=Y4 (fun r hr=>ty141 hr) rows h3
 exact⟨xs,rfl,by rw[List.length_map]at h2;exact h2,by rw[List.length_map]at hL;exact hL⟩
theorem ly26{L n:Nat}{cs:List AV}(h:TyC tab L (n+4) 26 cs):∃ p:Past,cs=c26 p∧inPL L p:=by
 obtain⟨a,b,rfl,ha,c,d,rfl,hc,rfl⟩:=h
 obtain⟨x,rfl,hx⟩:=ly23 (L:=L) (n:=n+1) ha
 obtain⟨y,rfl,hy⟩:=ly24 hc
 exact⟨⟨x,y⟩,rfl,⟨by simp only;omega,by simp only;omega⟩,hy.2,hx.2⟩
theorem ly30{L n:Nat}{cs:List AV}(h:TyC tab L (n+5) 30 cs):∃ a:Actn,cs=c30 a∧inr a.kind∧inr a.qty∧inPL L a.past:=by
 obtain⟨a,b,rfl,ha,a2,b2,rfl,ha2,a3,b3,rfl,ha3,a4,b4,rfl,ha4,rfl⟩:=h
 obtain⟨x1,rfl,h1⟩:=ty3 (L:=L) (n:=n+3) ha
 obtain⟨x2,rfl,h2⟩:=ty9 (L:=L) (n:=n+3) ha2
 obtain⟨x3,rfl,h3⟩:=ty3 (L:=L) (n:=n+3) ha3
 obtain⟨x4,rfl,h4⟩:=ly26 ha4
 exact⟨⟨x1,x2,x3,x4⟩,rfl,h1,h3,h4⟩
theorem ly28{L n:Nat}{cs:List AV}(h:TyC tab L (n+2) 28 cs):∃ l:Limits,cs=c28 l∧inr l.lines∧inr l.count:=by
 obtain⟨a,b,rfl,ha,c,d,rfl,hc,rfl⟩:=h
 obtain⟨x,rfl,hx⟩:=ty3 ha
 obtain⟨y,rfl,hy⟩:=ty3 hc
 exact⟨⟨x,y⟩,rfl,hx,hy⟩
def inWL(L:Nat)(w:Wish):Prop:=(w.live.length*40≤140737488351232∧w.live.length≤L)∧inPL L w.seen∧inr w.act.kind∧inr w.act.qty∧inPL L w.act.past∧inr w.rep∧inr w.lim.lines∧inr w.lim.count
theorem ly32{L n:Nat}{cs:List AV}(h:TyC tab L (n+6) 32 cs):∃ w:Wish,cs=c32 w∧inWL L w:=by
 obtain⟨a,b,rfl,ha,a2,b2,rfl,ha2,a3,b3,rfl,ha3,a4,b4,rfl,ha4,a5,b5,rfl,ha5,rfl⟩:=h
 obtain⟨x1,rfl,h1⟩:=ty22 (L:=L) (n:=n+1) ha
 obtain⟨x2,rfl,h2⟩:=ly26 (L:=L) (n:=n+1) ha2
 obtain⟨x3,rfl,h3⟩:=ty3 (L:=L) (n:=n+4) ha3
 obtain⟨x4,rfl,h4⟩:=ly28 (L:=L) (n:=n+3) ha4
 obtain⟨x5,rfl,h5⟩:=ly30 ha5
 exact⟨⟨x1,x2,x3,x4,x5⟩,rfl,⟨h1.1.2,h1.2⟩,h2,h5.1,h5.2.1,h5.2.2,h3,h4.1,h4.2⟩
theorem ta32{L:Nat}{a:AV}(h:TyA tab L 9 32 a):∃ f:Wish,a=.agg (c32 f)∧inWL L f:=by
 obtain⟨cs,rfl,h2⟩:=(show ∃ cs,a=.agg cs∧TyC tab L 9 32 cs from h)
 obtain⟨d,rfl,k⟩:=ly32 (L:=L) (n:=3) h2
 exact⟨d,rfl,k⟩
end Go.Proofs.YtphcaholhacnpaaGreat
namespace Go.Proofs.YtphcaholhacnpaaGreat
open Go.E
set_option maxRecDepth 100000
set_option maxHeartbeats 4000000
theorem Tryz.rowedM:Go.mapsRowed Tryz.prog=true:=by kernel_rfl
theorem Tryz.stopsH:Tryz.prog.stopsHeard=true:=by kernel_rfl
theorem Tryz.mayE:Tryz.prog.mayEnter=true:=by kernel_rfl
end Go.Proofs.YtphcaholhacnpaaGreat
