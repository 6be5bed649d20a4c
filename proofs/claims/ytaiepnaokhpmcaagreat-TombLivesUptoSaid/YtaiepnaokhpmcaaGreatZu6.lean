/- Tx: tomb: Join, Live, Past, Clash, and the document's. Conditions: sizes. Ty: the document's tomb: Join, Live, Past, Clash. Conditions: sizes. Lp: entries in form, in plain words. Conditions: none. Tn: what the tomb's calls come to, in plain words. Conditions: none. Za: the laws of the tomb: what they share; TombForms, TombJoins, TombClashes. Conditions: sizes. Zb: the law TombUnion, TombOrderless. Conditions: sizes. EN: from a law's contract to its row: 'for every input it answers true, and the input reads as it did'. Conditions: none named, none written. Wx: what is handed in, by its types. Conditions: none. Wy: what is handed in, by its types (acts, facts). Conditions: none. Qk: what is handed in, small (facts). Conditions: none. Qj: facts of the program that every row asks for, each by itself. Conditions: none. -/
import Derived.Below
import Derived.OwnWalk
import Derived.WalkKit
import Derived.KernelRfl
import Derived.Laws.MakeOwn
import Derived.Laws.OwnMore
import Derived.Laws.Slices
import Derived.Laws.CopyOwn
import Derived.Laws.AppendOwnNone
import Derived.Laws.Rows
import Derived.Orders
import Derived.Test.YtaiepnaokhpmcaaGreatProg
import Derived.DataReads
import Derived.ChangeOld
import Derived.DataElems
import Derived.SizedLaws
import Derived.ChangeKeysEq
import Derived.Sort.LotA
import Derived.Shelf.SlSortFuncK.RowK2
import Derived.Shelf.SlSortCmp.NoneTotal
import Derived.Lib.Walk
import Derived.Shelf.SlLaysE0
import Derived.Shelf.RegionOpenPlain
import Derived.Deep.LoopGhost
import Derived.Lib.SliceRun
import Derived.Lib.Bytealg
import Derived.Shelf.SlSortFuncK.SWK
import Derived.Deep.Cut
import Derived.Deep.CutRange
import Derived.Deep.DeepCutAuto
import Derived.Lib.ReflectliteSwap
import Derived.Laws.Externs
import Derived.Lib.ReflectliteSlice
import Derived.Calls
import Derived.Lib.AppendZeros
import Derived.ProofKit
import Derived.JoinedCond
import Derived.Deep.CondSized
import Derived.Test.YtaiepnaokhpmcaaGreatRows
import Derived.Test.YtaiepnaokhpmcaaGreatZu5
set_option linter.unusedVariables false
set_option linter.unusedSimpArgs false
namespace Go.Proofs.YtaiepnaokhpmcaaGreat
open Go.E
set_option maxRecDepth 100000
set_option maxHeartbeats 4000000
theorem B8h(s:List Entry):(A29 s).2=0∨(A29 s).2=10:=by unfold A29;split <;> simp
theorem B4g{a b:List Entry}(ha:E5 a=0)(hb:E5 b=0):(H6 a b).2=0∨(H6 a b).2=10:=by rw[A97 ha hb];exact B8h _
noncomputable def I6(a b:Facts):Facts:=⟨(H6 a.adds b.adds).1,D3 [a.gone,b.gone],A76 (a.recs++b.recs)⟩
noncomputable def A0(a b:Facts):Facts×Int:=if T0 a b=true then(if(H6 a.adds b.adds).2=0 then(I6 a b,0)else(zeroF,10))else(zeroF,1)
noncomputable def B0l(f:Facts):List Entry:=(f.adds.filter fun e=>C5 f.gone e.dot == false).filter fun e=>decide (G3 f.recs e=0)
noncomputable def A7(f:Facts):List Entry×Int:=if okF f=true then(B0l f,0)else([],1)
def A3j(es:List Entry):Past:=H3 (ofT (es.map fun e=>e.dot))
noncomputable def A9(f:Facts):Past×Int:=if okF f=true then(D3 [A3j f.adds,f.gone],0)else(⟨[],[]⟩,1)
noncomputable def B0m(b:Facts)(e:Entry):Bool:=(C6 b.adds e.dot).2 && decide (¬(C6 b.adds e.dot).1=e)
noncomputable def H9(a b:Facts):Dot×Bool:=if T0 a b=true then(match a.adds.find? (B0m b)with | some e=>(e.dot,true) | none=>(⟨0,0⟩,false))else(⟨0,0⟩,false)
def szB(n:Nat)(f:Facts):Prop:=szF f∧f.recs.length≤n*1048576∧A2m f.recs≤n*1099512676352
theorem G1{n m:Nat}{f:Facts}(h:szB n f)(hm:n≤m):szB m f:=⟨h.1,Nat.le_trans h.2.1 (Nat.mul_le_mul_right _ hm),Nat.le_trans h.2.2 (Nat.mul_le_mul_right _ hm)⟩
theorem An3{n:Nat}{f:Facts}(h:szB n f)(hn:n≤7):szG f:=⟨h.1,by have:=h.2.1;omega⟩
theorem Bl1{n:Nat}{f:Facts}(h:szB n f)(hn:n≤7):tokR f.recs:=⟨by have:=h.2.2;omega,by have:=h.2.1;omega⟩
theorem A5m{a b:Facts}(h:¬ T0 a b=true):A0 a b=(zeroF,1):=by unfold A0;rw[if_neg h]
theorem A5n{a b:Facts}(h:T0 a b=true)(k:¬(H6 a.adds b.adds).2=0):A0 a b=(zeroF,10):=by unfold A0;rw[if_pos h,if_neg k]
theorem An4{a b:Facts}(h:T0 a b=true)(k:(H6 a.adds b.adds).2=0):A0 a b=(I6 a b,0):=by unfold A0;rw[if_pos h,if_pos k]
theorem O1{a b:Facts}(h:T0 a b=true):(E5 a.adds=0∧a.gone=A5 a.gone∧G9 a.recs=0)∧(E5 b.adds=0∧b.gone=A5 b.gone∧G9 b.recs=0) :=
 ⟨E6.1 (G0.1 h).1,E6.1 (G0.1 h).2⟩
theorem B4h{a b:Facts}(h:T0 a b=true)(k:¬(H6 a.adds b.adds).2=0):(H6 a.adds b.adds).2=10:=(B4g (O1 h).1.1 (O1 h).2.1).resolve_left k
theorem Bl2{a b:Facts}(h:T0 a b=true):A15 [a.gone,b.gone]*16≤140737488350000:=by
 have h1:=A00 (O1 h).1.2.1
 have h2:=A00 (O1 h).2.2.1
 have e:A15 [a.gone,b.gone]=a.gone.cloud.length+1+(b.gone.cloud.length+1):=by simp [A15]
 rw[e]
 omega
theorem An5{es:List Entry}(h:E5 es=0):N2 es=(A3j es,0):=by unfold N2;rw[if_pos (L8 h)];rfl
theorem B4i(es:List Entry):A3j es=A5 (A3j es):=(A3u _).symm
theorem B8i{f:Facts}(h:okF f=true):A15 [(N2 f.adds).1,f.gone]*16≤140737488350000:=by
 rw[An5 (E6.1 h).1]
 have h1:=A00 (B4i f.adds)
 have h2:=A00 (E6.1 h).2.1
 have e:A15 [A3j f.adds,f.gone]=(A3j f.adds).cloud.length+1+(f.gone.cloud.length+1):=by simp [A15]
 show A15 [A3j f.adds,f.gone]*16≤_
 rw[e]
 omega
theorem An6{f:Facts}(h:okF f=true):N9 f.adds f.gone false=(f.adds.filter (fun e=>C5 f.gone e.dot == false),0):=by
 unfold N9
 rw[if_pos ⟨L8 (E6.1 h).1,(E6.1 h).2.1⟩]
theorem A79{f:Facts}(h:okF f=true):M5 (N9 f.adds f.gone false).1 f.recs=A7 f:=by
 rw[An6 h]
 unfold M5 A7
 rw[if_pos h,if_pos ⟨(Y1 _).2 (A2g ((Y1 _).1 (E6.1 h).1) List.filter_sublist),(E6.1 h).2.2⟩]
 rfl
theorem B4j{f:Facts}(h:¬ I1 f=0):A7 f=([],1):=by unfold A7;rw[if_neg (fun k=>h (K6.2 k))]
theorem An7{f:Facts}(h:¬ I1 f=0):A9 f=(⟨[],[]⟩,1):=by unfold A9;rw[if_neg (fun k=>h (K6.2 k))]
theorem R5{f:Facts}(h:okF f=true):A9 f=(D3 [A3j f.adds,f.gone],0):=by unfold A9;rw[if_pos h]
theorem Av7{a b:Facts}(h:¬ T0 a b=true):H9 a b=(⟨0,0⟩,false):=by unfold H9;rw[if_neg h]
theorem Ag1{a b:Facts}(h:T0 a b=true){i:Int}(h0:0≤i)(hi:i < a.adds.length)(hb:∀ j:Nat,(j:Int) < i→B0m b a.adds[j]! = false)(hc:B0m b a.adds[i.toNat]! = true):H9 a b=(a.adds[i.toNat]!.dot,true):=by
 have e:a.adds.find? (B0m b)=some a.adds[i.toNat]!:=by
  rw[List.find?_eq_some_iff_getElem]
  refine⟨hc,i.toNat,by omega,by rw[getElem!_pos a.adds i.toNat (by omega)],fun j hj=>?_⟩
  have:=hb j (by omega)
  rw[getElem!_pos a.adds j (by omega)]at this
  rw[this]
  rfl
 unfold H9
 rw[if_pos h,e]
theorem A7a{a b:Facts}(h:T0 a b=true){i:Int}(hi:¬ i < a.adds.length)(hb:∀ j:Nat,(j:Int) < i→B0m b a.adds[j]! = false):H9 a b=(⟨0,0⟩,false):=by
 have e:a.adds.find? (B0m b)=none:=by
  rw[List.find?_eq_none]
  intro x hx
  obtain⟨j,hj,rfl⟩:=List.mem_iff_getElem.1 hx
  have:=hb j (by omega)
  rw[getElem!_pos a.adds j hj]at this
  rw[this]
  simp
 unfold H9
 rw[if_pos h,e]
theorem A5o{b:Facts}{e:Entry}:B0m b e=true↔(C6 b.adds e.dot).2=true∧¬(C6 b.adds e.dot).1=e:=by unfold B0m;rw[Bool.and_eq_true,decide_eq_true_iff]
theorem Ag2(a b:Facts)(ha:szB 3 a)(hb:szB 3 b):Con Tryz.prog 30 [.agg (c29 a),.agg (c29 b)] (.tup [.agg (c29 (A0 a b).1),.i .i64 (A0 a b).2]) :=
 by
 have y:¬¬T0 a b=true→T0 a b=true:=Classical.not_not.1
 have ru:¬¬T0 a b=true→F2 a.recs b.recs=(A76 (a.recs++b.recs),0):=fun h=>B4f (O1 (y h)).1.2.2 (O1 (y h)).2.2.2
 refine sC B1 [.cell 4 29,.tmp 5] 47 Tryz.func30 ?_
 intro e0 cx
 refine sq<|rG cx [2,3,4] [2,3,4] z0<|sn<|sq<|sq<|rG cx [2,3,4,12] [2,3,4] (fT (B7o (a) (b) (by exact ha.1) (by exact hb.1)) (tT 3 (D0:(AV.b !T0 a b)=AV.b (decide ¬T0 a b=true)) (oA 2 (.b (T0 a b)) z0))) ?_
 refine sn<|dC (¬T0 a b=true) (fun h0=>?_) fun h0=>?_
 refine sq<|rG cx [4,5] [4] z0<|sn<|rT<|nR<|qR (.tup [.agg [.nl,.nl,.nl,.nl],.i .i64 ((1:Int))]) (B8.tup (ZLe.cons (B8.agg (ZLe.cons (B8.nl' (show List.map c45 (A0 a b).1.adds=[]from(by rw[A5m h0];rfl))) (ZLe.cons (B8.nl' (show List.map c3 (A0 a b).1.gone.vec=[]from(by rw[A5m h0];rfl))) (ZLe.cons (B8.nl' (show List.map B7 (A0 a b).1.gone.cloud=[]from(by rw[A5m h0];rfl))) (ZLe.cons (B8.nl' (show List.map c81 (A0 a b).1.recs=[]from(by rw[A5m h0];rfl))) ZLe.nil))))) (ZLe.cons (B8.eq (show AV.i .i64 1=AV.i .i64 (A0 a b).2 from(by rw[A5m h0]))) ZLe.nil)))
 refine sK<|sn<|sq<|rG cx [2,3,4,6,7] [2,3,4] (fT (con70 (a.adds) (b.adds)) (oA 4 (resC (con70 (a.adds) (b.adds))) z0))<|sn<|sq<|sq<|rG cx [2,3,4,6,7,23] [2,3,4] (tN 1 ((H6 a.adds b.adds).2) (0:Int) z0)<|sn<|dC (¬(H6 a.adds b.adds).2=0) (fun h1=>?_) fun h1=>?_
 refine sq<|rG cx [4,5] [4] z0<|sn<|rT<|nR<|qR (.tup [.agg [.nl,.nl,.nl,.nl],.i .i64 ((H6 a.adds b.adds).2)]) (B8.tup (ZLe.cons (B8.agg (ZLe.cons (B8.nl' (show List.map c45 (A0 a b).1.adds=[]from(by rw[A5n (y h0) h1];rfl))) (ZLe.cons (B8.nl' (show List.map c3 (A0 a b).1.gone.vec=[]from(by rw[A5n (y h0) h1];rfl))) (ZLe.cons (B8.nl' (show List.map B7 (A0 a b).1.gone.cloud=[]from(by rw[A5n (y h0) h1];rfl))) (ZLe.cons (B8.nl' (show List.map c81 (A0 a b).1.recs=[]from(by rw[A5n (y h0) h1];rfl))) ZLe.nil))))) (ZLe.cons (B8.eq (show AV.i .i64 (H6 a.adds b.adds).2=AV.i .i64 (A0 a b).2 from(by rw[A5n (y h0) h1,B4h (y h0) h1]))) ZLe.nil)))
 refine sK<|sn<|sq<|rG cx [2,3,4,6,7,8] [2,3,4] (fT (con75 (a.recs) (b.recs) (by exact Ad8 ha.1.2) (by exact Ad8 hb.1.2) (by have:=ha.2.1;have:=hb.2.1;omega)) (oA 4 (.tup [.sl (List.map c81 (F2 a.recs b.recs).1),.i .i64 ((F2 a.recs b.recs).2)]) z0)) ?_
 refine sn<|sq<|sq<|rG cx [2,3,4,6,7,8,35] [2,3,4] (tN 1 ((F2 a.recs b.recs).2) (0:Int) z0)<|sn<|dC (¬(F2 a.recs b.recs).2=0) (fun h2=>?_) fun h2=>?_
 refine sq<|rG cx [4,5] [4] z0<|sn<|rT<|nR<|qR (.tup [.agg [.nl,.nl,.nl,.nl],.i .i64 ((F2 a.recs b.recs).2)]) (B8.tup (ZLe.cons (B8.agg (ZLe.cons (B8.nl' (show List.map c45 (A0 a b).1.adds=[]from(by exact absurd (by rw[ru h0]) h2))) (ZLe.cons (B8.nl' (show List.map c3 (A0 a b).1.gone.vec=[]from(by exact absurd (by rw[ru h0]) h2))) (ZLe.cons (B8.nl' (show List.map B7 (A0 a b).1.gone.cloud=[]from(by exact absurd (by rw[ru h0]) h2))) (ZLe.cons (B8.nl' (show List.map c81 (A0 a b).1.recs=[]from(by exact absurd (by rw[ru h0]) h2))) ZLe.nil))))) (ZLe.cons (B8.eq (show AV.i .i64 (F2 a.recs b.recs).2=AV.i .i64 (A0 a b).2 from(by exact absurd (by rw[ru h0]) h2))) ZLe.nil)))
 refine sK<|sn<|sq<|rG cx [4,5] [4] (fT (Bh2 ([a.gone,b.gone]) (by exact Bl2 (y h0))) (oA 6 (.agg [.sl (List.map c3 (D3 [a.gone,b.gone]).vec),.sl (List.map B7 (D3 [a.gone,b.gone]).cloud)]) z0)) ?_
 refine sn<|rT<|qR (.tup [.agg [.sl (List.map c45 (H6 a.adds b.adds).1),.sl (List.map c3 (D3 [a.gone,b.gone]).vec),.sl (List.map B7 (D3 [a.gone,b.gone]).cloud),.sl (List.map c81 (F2 a.recs b.recs).1)],.i .i64 ((0:Int))]) (B8.tup (ZLe.cons (B8.eq (show AV.agg [AV.sl (List.map c45 (H6 a.adds b.adds).1),AV.sl (List.map c3 (D3 [a.gone,b.gone]).vec),AV.sl (List.map B7 (D3 [a.gone,b.gone]).cloud),AV.sl (List.map c81 (F2 a.recs b.recs).1)]=AV.agg [AV.sl (List.map c45 (A0 a b).1.adds),AV.sl (List.map c3 (A0 a b).1.gone.vec),AV.sl (List.map B7 (A0 a b).1.gone.cloud),AV.sl (List.map c81 (A0 a b).1.recs)]from(by rw[An4 (y h0) (Classical.not_not.1 h1),ru h0];rfl))) (ZLe.cons (B8.eq (show AV.i .i64 0=AV.i .i64 (A0 a b).2 from(by rw[An4 (y h0) (Classical.not_not.1 h1)]))) ZLe.nil)))
theorem B4k(f:Facts)(hb:szB 7 f):Con Tryz.prog 31 [.agg (c29 f)] (.tup [.sl ((A7 f).1.map c45),.i .i64 (A7 f).2]) :=
 by
 have y:¬¬I1 f=0→okF f=true:=fun h=>K6.1 (Classical.not_not.1 h)
 refine sC B1 [.tmp 2,.tmp 3] 26 Tryz.func31 ?_
 intro e0 cx
 refine sq<|rG cx [1] [1] z0<|sn<|sq<|sq<|rG cx [1,8] [1] (fT (B07 (f) (by exact hb.1)) (tN 2 (I1 f) (0:Int) (oA 1 (.i .i64 (I1 f)) z0))) ?_
 refine sn<|dC (¬I1 f=0) (fun h0=>?_) fun h0=>?_
 refine sq<|rG cx [2,3] [] z0<|sn<|rT<|nR<|qR (.tup [.nl,.i .i64 ((1:Int))]) (B8.tup (ZLe.cons (B8.nl' (show List.map c45 (A7 f).1=[]from(by rw[B4j h0];rfl))) (ZLe.cons (B8.eq (show AV.i .i64 1=AV.i .i64 (A7 f).2 from(by rw[B4j h0]))) ZLe.nil)))
 refine sK<|sn<|sq<|rG cx [1,4,5] [1] (fT (con68 (f.adds) (f.gone) (by exact hb.1.1.1)) (oA 4 (.tup [.sl (List.map c45 (N9 f.adds f.gone false).1),.i .i64 ((N9 f.adds f.gone false).2)]) z0)) ?_
 refine sn<|sq<|sq<|rG cx [1,4,5,18] [1] (tN 1 ((N9 f.adds f.gone false).2) (0:Int) z0)<|sn<|dC (¬(N9 f.adds f.gone false).2=0) (fun h1=>?_) fun h1=>?_
 refine sq<|rG cx [2,3] [] z0<|sn<|rT<|nR<|qR (.tup [.nl,.i .i64 ((N9 f.adds f.gone false).2)]) (B8.tup (ZLe.cons (B8.nl' (show List.map c45 (A7 f).1=[]from(by exact absurd (by rw[An6 (y h0)]) h1))) (ZLe.cons (B8.eq (show AV.i .i64 (N9 f.adds f.gone false).2=AV.i .i64 (A7 f).2 from(by exact absurd (by rw[An6 (y h0)]) h1))) ZLe.nil)))
 refine sK<|sn<|sq<|rG cx [2,3] [] (fT (con69 ((N9 f.adds f.gone false).1) (f.recs) (by exact Ad8 hb.1.2) (by exact Bl1 hb (Nat.le_refl _))) (oA 3 (.tup [.sl (List.map c45 (M5 (N9 f.adds f.gone false).1 f.recs).1),.i .i64 ((M5 (N9 f.adds f.gone false).1 f.recs).2)]) z0)) ?_
 refine sn<|rT<|qR (.tup [.sl (List.map c45 (M5 (N9 f.adds f.gone false).1 f.recs).1),.i .i64 ((M5 (N9 f.adds f.gone false).1 f.recs).2)]) (B8.tup (ZLe.cons (B8.eq (show AV.sl (List.map c45 (M5 (N9 f.adds f.gone false).1 f.recs).1)=AV.sl (List.map c45 (A7 f).1)from(by rw[A79 (y h0)]))) (ZLe.cons (B8.eq (show AV.i .i64 (M5 (N9 f.adds f.gone false).1 f.recs).2=AV.i .i64 (A7 f).2 from(by rw[A79 (y h0)]))) ZLe.nil)))
theorem B0n(f:Facts)(hb:szF f):Con Tryz.prog 45 [.agg (c29 f)] (.tup [.agg (c26 (A9 f).1),.i .i64 (A9 f).2]) :=
 by
 have y:¬¬I1 f=0→okF f=true:=fun h=>K6.1 (Classical.not_not.1 h)
 refine sC B1 [.cell 2 26,.tmp 3] 22 Tryz.func45 ?_
 intro e0 cx
 refine sq<|rG cx [1,2] [1,2] z0<|sn<|sq<|sq<|rG cx [1,2,8] [1,2] (fT (B07 (f) (by(with_reducible assumption))) (tN 2 (I1 f) (0:Int) (oA 1 (.i .i64 (I1 f)) z0)))<|sn<|dC (¬I1 f=0) (fun h0=>?_) fun h0=>?_
 refine sq<|rG cx [2,3] [2] z0<|sn<|rT<|nR<|qR (.tup [.agg [.nl,.nl],.i .i64 ((1:Int))]) (B8.tup (ZLe.cons (B8.agg (ZLe.cons (B8.nl' (show List.map c3 (A9 f).1.vec=[]from(by rw[An7 h0];rfl))) (ZLe.cons (B8.nl' (show List.map B7 (A9 f).1.cloud=[]from(by rw[An7 h0];rfl))) ZLe.nil))) (ZLe.cons (B8.eq (show AV.i .i64 1=AV.i .i64 (A9 f).2 from(by rw[An7 h0]))) ZLe.nil)))
 refine sK<|sn<|sq<|rG cx [1,2,4,5] [1,2,4] (fT (con87 (f.adds)) (oA 2 (.tup [.agg [.sl (List.map c3 (N2 f.adds).1.vec),.sl (List.map B7 (N2 f.adds).1.cloud)],.i .i64 ((N2 f.adds).2)]) z0))<|sn<|sq<|rG cx [2,3] [2] (fT (Bh2 ([(N2 f.adds).1,f.gone]) (by exact B8i (y h0))) (oA 4 (.agg [.sl (List.map c3 (D3 [(N2 f.adds).1,f.gone]).vec),.sl (List.map B7 (D3 [(N2 f.adds).1,f.gone]).cloud)]) z0)) ?_
 refine sn<|rT<|qR (.tup [.agg [.sl (List.map c3 (D3 [(N2 f.adds).1,f.gone]).vec),.sl (List.map B7 (D3 [(N2 f.adds).1,f.gone]).cloud)],.i .i64 ((N2 f.adds).2)]) (B8.tup (ZLe.cons (B8.eq (show AV.agg [AV.sl (List.map c3 (D3 [(N2 f.adds).1,f.gone]).vec),AV.sl (List.map B7 (D3 [(N2 f.adds).1,f.gone]).cloud)]=AV.agg [AV.sl (List.map c3 (A9 f).1.vec),AV.sl (List.map B7 (A9 f).1.cloud)]from(by rw[R5 (y h0),An5 (E6.1 (y h0)).1]))) (ZLe.cons (B8.eq (show AV.i .i64 (N2 f.adds).2=AV.i .i64 (A9 f).2 from(by rw[R5 (y h0),An5 (E6.1 (y h0)).1]))) ZLe.nil)))
end Go.Proofs.YtaiepnaokhpmcaaGreat
namespace Go.Proofs.YtaiepnaokhpmcaaGreat
open Go.E
set_option maxRecDepth 100000
set_option maxHeartbeats 4000000
def Bl3(a b:Facts)(i:Int)(x1:List Entry)(x2:List Int)(x3:List Span)(x4:List Record)(y1:List Entry)(y2:List Int)(y3:List Span)(y4:List Record)(r m:Int):Prop:=x1=a.adds∧y1=b.adds∧0≤i∧i≤a.adds.length∧∀ j:Nat,(j:Int) < i→B0m b a.adds[j]! = false
def decCr(a:Facts)(i:Int)(x1:List Entry)(x2:List Int)(x3:List Span)(x4:List Record)(y1:List Entry)(y2:List Int)(y3:List Span)(y4:List Record)(r m:Int):Nat:=(a.adds.length-i).toNat
theorem An8{a b:Facts}(h:¬I1 a=0∨¬I1 b=0):¬ T0 a b=true:=fun k=>h.elim (fun g=>g (K6.2 (G0.1 k).1)) (fun g=>g (K6.2 (G0.1 k).2))
theorem A31{a b:Facts}(h:¬(¬I1 a=0∨¬I1 b=0)):T0 a b=true:=G0.2 ⟨K6.1 (Classical.not_not.1 fun k=>h (.inl k)),K6.1 (Classical.not_not.1 fun k=>h (.inr k))⟩
theorem Av8{es:List Entry}{d:Dot}(h:(C6 es d).2=true):(C6 es d).1.dot=d:=by
 unfold C6 at *
 split at h
 ·rename_i e he
  have:=List.find?_some he
  exact of_decide_eq_true this
 ·cases h
theorem con38(a b:Facts)(ha:szF a)(hb:szF b):Con Tryz.prog 38 [.agg (c29 a),.agg (c29 b)] (.tup [.agg (c43 (H9 a b).1),.b (H9 a b).2]) :=
 by
 refine sC B1 [.cell 4 43,.tmp 5] 50 Tryz.func38 ?_
 intro e0 cx
 refine sq<|rG cx [2,3,4] [2,3,4] z0<|sn<|sq<|sq<|B4 (σ':=⟨[(2,.ptr (2) (0) (0) (0)),(3,.ptr (3) (0) (0) (0)),(4,.ptr (4) (0) (0) (0)),(16,.b (decide (¬I1 a=0∨¬I1 b=0)))],[(2,⟨0,29,.var [.sl (List.map c45 a.adds),.sl (List.map c3 a.gone.vec),.sl (List.map B7 a.gone.cloud),.sl (List.map c81 a.recs)]⟩),(3,⟨0,29,.var [.sl (List.map c45 b.adds),.sl (List.map c3 b.gone.vec),.sl (List.map B7 b.gone.cloud),.sl (List.map c81 b.recs)]⟩),(4,⟨0,43,.var [.i .i64 ((0:Int)),.i .i64 ((0:Int))]⟩)]⟩) ?_ ?_
 refine A4 (¬I1 a=0) (fun h_1=>?_) (fun h_1=>?_)
 refine rG cx [2,3,4,16] [2,3,4] (fT (Am6 (a) (by(with_reducible assumption))) (tT 2 (C4 h_1:AV.b (I1 a !=0)=AV.b true) (tD 7 true (¬I1 a=0∨¬I1 b=0) (by simp only [eq_false h_1,tsl]) (oA 1 (.i .i64 (I1 a)) z0)))) ?_
 exact⟨rfl,by kernel_rfl⟩
 refine rG cx [2,3,4,16] [2,3,4] (fT (Am6 (a) (by(with_reducible assumption))) (tN 2 (I1 a) (0:Int) (tT 3 (A3 h_1) (fT (Am6 (b) (by(with_reducible assumption))) (tN 6 (I1 b) (0:Int) (tT 7 (by first | (simp only [eq_false h_1,tsl];done) | simp_all:AV.b (decide ¬I1 b=0)=AV.b (decide (¬I1 a=0∨¬I1 b=0))) (oA 1 (.i .i64 (I1 a)) (oA 5 (.i .i64 (I1 b)) z0)))))))) ?_
 exact⟨rfl,by kernel_rfl⟩
 refine sn<|dC (¬I1 a=0∨¬I1 b=0) (fun h2=>?_) fun h2=>?_
 refine sq<|rG cx [4,5] [4] z0<|sn<|rT<|nR<|qR (.tup [.agg [.i .i64 ((0:Int)),.i .i64 ((0:Int))],.b (false)]) (B8.tup (ZLe.cons (B8.eq (show AV.agg [AV.i .i64 (0:Int),AV.i .i64 (0:Int)]=AV.agg [AV.i .i64 (H9 a b).1.rep,AV.i .i64 (H9 a b).1.num]from(by rw[Av7 (An8 h2)]))) (ZLe.cons (B8.eq (show AV.b false=AV.b (H9 a b).2 from(by rw[Av7 (An8 h2)]))) ZLe.nil)))
 refine sK<|sn<|sq<|sq<|rG cx [2,3,4,6] [2,3,4] z0<|sn<|bL 0<|sL (X:=Int×List Entry×List Int×List Span×List Record×List Entry×List Int×List Span×List Record×Int×Int) (fun x=>⟨[(2,.ptr (2) (0) (0) (0)),(3,.ptr (3) (0) (0) (0)),(4,.ptr (4) (0) (0) (0)),(6,.i .i64 (x.1))],[(2,⟨0,29,.var [.sl (List.map c45 x.2.1),.sl (List.map c3 x.2.2.1),.sl (List.map B7 x.2.2.2.1),.sl (List.map c81 x.2.2.2.2.1)]⟩),(3,⟨0,29,.var [.sl (List.map c45 x.2.2.2.2.2.1),.sl (List.map c3 x.2.2.2.2.2.2.1),.sl (List.map B7 x.2.2.2.2.2.2.2.1),.sl (List.map c81 x.2.2.2.2.2.2.2.2.1)]⟩),(4,⟨0,43,.var [.i .i64 (x.2.2.2.2.2.2.2.2.2.1),.i .i64 (x.2.2.2.2.2.2.2.2.2.2)]⟩)]⟩) (fun x ↦ decCr a x.1 x.2.1 x.2.2.1 x.2.2.2.1 x.2.2.2.2.1 x.2.2.2.2.2.1 x.2.2.2.2.2.2.1 x.2.2.2.2.2.2.2.1 x.2.2.2.2.2.2.2.2.1 x.2.2.2.2.2.2.2.2.2.1 x.2.2.2.2.2.2.2.2.2.2) (fun x ↦ Bl3 a b x.1 x.2.1 x.2.2.1 x.2.2.2.1 x.2.2.2.2.1 x.2.2.2.2.2.1 x.2.2.2.2.2.2.1 x.2.2.2.2.2.2.2.1 x.2.2.2.2.2.2.2.2.1 x.2.2.2.2.2.2.2.2.2.1 x.2.2.2.2.2.2.2.2.2.2) [2,3,4,6] [2,3,4] (((0:Int),a.adds,a.gone.vec,a.gone.cloud,a.recs,b.adds,b.gone.vec,b.gone.cloud,b.recs,(0:Int),(0:Int))) (show Bl3 a b (0:Int) a.adds a.gone.vec a.gone.cloud a.recs b.adds b.gone.vec b.gone.cloud b.recs (0:Int) (0:Int)from(by exact⟨rfl,rfl,by omega,by omega,fun j hj=>by omega⟩)) ?_
 rintro⟨i3,xx4,x5,x6,x7,y8,y9,y10,y11,r12,m13⟩ h_14
 obtain⟨h15,h16,h17,h18,h19⟩:xx4=a.adds∧y8=b.adds∧0≤i3∧i3≤(↑a.adds.length:Int)∧∀(j:Nat),(↑j:Int) < i3→B0m b a.adds[j]! = false:=h_14
 refine sq<|rD cx [2,3,4,6,22] [2,3,4] (tL 3 c45 xx4 (zB 4 (i3 <(↑xx4.length:Int)))) (fun h20=>?_) fun h20=>?_
 refine sK<|sn<|sq<|bL 1<|sq<|rA cx [2,3,4,6,7,8] [2,3,4,7] (fA (0≤i3) (fG c45 xx4 i3.toNat (fR 4 (fN 2 4 (fT (con40 (y8) (xx4[i3.toNat]!.dot)) (oR 5 (c45 xx4[i3.toNat]!) (oA 8 (.tup [.agg [.i .i64 ((C6 y8 xx4[i3.toNat]!.dot).1.dot.rep),.i .i64 ((C6 y8 xx4[i3.toNat]!.dot).1.dot.num),.s ((C6 y8 xx4[i3.toNat]!.dot).1.sku),.i .i64 ((C6 y8 xx4[i3.toNat]!.dot).1.qty)],.b ((C6 y8 xx4[i3.toNat]!.dot).2)]) z0)))))))<|sn<|sq<|B4 (σ':=⟨[(2,.ptr (2) (0) (0) (0)),(3,.ptr (3) (0) (0) (0)),(4,.ptr (4) (0) (0) (0)),(6,.i .i64 (i3)),(7,.ptr (7) (0) (0) (0)),(46,.b (decide ((C6 y8 xx4[i3.toNat]!.dot).2=true∧¬(C6 y8 xx4[i3.toNat]!.dot).1=xx4[i3.toNat]!)))],[(2,⟨0,29,.var [.sl (List.map c45 xx4),.sl (List.map c3 x5),.sl (List.map B7 x6),.sl (List.map c81 x7)]⟩),(3,⟨0,29,.var [.sl (List.map c45 y8),.sl (List.map c3 y9),.sl (List.map B7 y10),.sl (List.map c81 y11)]⟩),(4,⟨0,43,.var [.i .i64 (r12),.i .i64 (m13)]⟩),(7,⟨0,45,.var [.i .i64 ((C6 y8 xx4[i3.toNat]!.dot).1.dot.rep),.i .i64 ((C6 y8 xx4[i3.toNat]!.dot).1.dot.num),.s ((C6 y8 xx4[i3.toNat]!.dot).1.sku),.i .i64 ((C6 y8 xx4[i3.toNat]!.dot).1.qty)]⟩)]⟩) ?_ ?_
 refine A4 ((C6 y8 xx4[i3.toNat]!.dot).2=true) (fun h_22=>?_) (fun h_22=>?_)
 refine rA cx [2,3,4,6,7,46] [2,3,4,7] (tT 0 (I7 h_22) (fA (0≤i3) (fG c45 xx4 i3.toNat (fR 4 (fN 4 4 (fT (V1 (Bn5 (C6 y8 xx4[i3.toNat]!.dot).1 xx4[i3.toNat]!)) (tD 9 (decide ¬(C6 y8 xx4[i3.toNat]!.dot).1=xx4[i3.toNat]!) ((C6 y8 xx4[i3.toNat]!.dot).2=true∧¬(C6 y8 xx4[i3.toNat]!.dot).1=xx4[i3.toNat]!) (by simp only [eq_true h_22,tsl]) (oR 6 (c45 xx4[i3.toNat]!) (oA 8 (.b (decide ¬(C6 y8 xx4[i3.toNat]!.dot).1=xx4[i3.toNat]!)) z0))))))))) ?_
 exact⟨rfl,by kernel_rfl⟩
 refine rA cx [2,3,4,6,7,46] [2,3,4,7] (tT 0 (F4 h_22:AV.b (C6 y8 xx4[i3.toNat]!.dot).2=AV.b false) (tD 9 false ((C6 y8 xx4[i3.toNat]!.dot).2=true∧¬(C6 y8 xx4[i3.toNat]!.dot).1=xx4[i3.toNat]!) (by simp only [eq_false h_22,tsl]) z0)) ?_
 exact⟨rfl,by kernel_rfl⟩
 refine sn<|dC ((C6 y8 xx4[i3.toNat]!.dot).2=true∧¬(C6 y8 xx4[i3.toNat]!.dot).1=xx4[i3.toNat]!) (fun h23=>?_) fun h23=>?_
 refine sq<|rG cx [4,5] [4] z0<|sn<|rT<|bR<|nR<|nR<|bR<|nR<|qR (.tup [.agg [.i .i64 ((C6 y8 xx4[i3.toNat]!.dot).1.dot.rep),.i .i64 ((C6 y8 xx4[i3.toNat]!.dot).1.dot.num)],.b (true)]) (B8.tup (ZLe.cons (B8.eq (show AV.agg [AV.i .i64 (C6 y8 xx4[i3.toNat]!.dot).1.dot.rep,AV.i .i64 (C6 y8 xx4[i3.toNat]!.dot).1.dot.num]=AV.agg [AV.i .i64 (H9 a b).1.rep,AV.i .i64 (H9 a b).1.num]from(by subst h15 h16;rw[Ag1 (A31 h2) h17 h20 h19 (A5o.2 h23),Av8 h23.1]))) (ZLe.cons (B8.eq (show AV.b true=AV.b (H9 a b).2 from(by subst h15 h16;rw[Ag1 (A31 h2) h17 h20 h19 (A5o.2 h23)]))) ZLe.nil)))
 refine sK<|bN<|sn<|rG cx [2,3,4,6] [2,3,4] (tT 1 (B6 (by omega) (by have:=R1 (L8 (O1 (A31 h2)).1.1);omega):AV.i .i64 (IntKind.i64.wrap (i3+1))=AV.i .i64 (i3+1)) z0) ?_
 refine sn<|nX ((i3+1,xx4,x5,x6,x7,y8,y9,y10,y11,r12,m13)) (show((↑a.adds.length:Int)-(i3+1)).toNat <((↑a.adds.length:Int)-i3).toNat from(by subst h15;omega)) (show Bl3 a b (i3+1) xx4 x5 x6 x7 y8 y9 y10 y11 r12 m13 from ?g7);rotate_left
 refine eX 0<|nE<|nE<|bH<|sn<|sq<|rG cx [4,5] [4] z0<|sn<|rT<|qR (.tup [.agg [.i .i64 ((0:Int)),.i .i64 ((0:Int))],.b (false)]) (B8.tup (ZLe.cons (B8.eq (show AV.agg [AV.i .i64 (0:Int),AV.i .i64 (0:Int)]=AV.agg [AV.i .i64 (H9 a b).1.rep,AV.i .i64 (H9 a b).1.num]from(by subst h15;rw[A7a (A31 h2) h20 h19]))) (ZLe.cons (B8.eq (show AV.b false=AV.b (H9 a b).2 from(by subst h15;rw[A7a (A31 h2) h20 h19]))) ZLe.nil)))
 case g7 =>
  subst h15 h16
  refine⟨rfl,rfl,by omega,by omega,fun j hj=>?_⟩
  by_cases c:j=i3.toNat
  ·rw[c];exact Bool.eq_false_iff.2 fun k=>h23 (A5o.1 k)
  ·exact h19 j (by omega)
end Go.Proofs.YtaiepnaokhpmcaaGreat
namespace Go.Proofs.YtaiepnaokhpmcaaGreat
open Go.E
set_option maxRecDepth 100000
set_option maxHeartbeats 4000000
theorem A99{s:List Entry}(hs:B3s s){i j:Nat}(hij:i < j)(hj:j < s.length):¬ dLt s[j]!.dot s[i]!.dot=true:=by
 have:=List.pairwise_iff_getElem.1 hs i j (by omega) hj hij
 rw[← getElem!_pos s i (by omega),← getElem!_pos s j hj]at this
 simpa [ltE]using this
theorem B4l{s:List Entry}(hs:B3s s):∀(n:Nat) (l:List Entry),n≤s.length→P8 s n=some l→upE l∧∀ e,e∈l↔e∈s.take n
 | 0,l,_,h=>by
  simp only [P8,Option.some.injEq]at h
  subst h
  exact⟨List.Pairwise.nil,fun e=>by simp⟩
 | n+1,l,hn,h=>by
  rw[P8]at h
  split at h
  ·cases h
  ·rename_i l0 h0
   obtain⟨i1,i2⟩:=B4l hs n l0 (by omega) h0
   have et:s.take (n+1)=s.take n++[s[n]!]:=by rw[getElem!_pos s n (by omega),← List.take_succ_eq_append_getElem (by omega)]
   split at h
   ·rename_i hc
    simp only [Option.some.injEq]at h
    subst h
    refine⟨List.pairwise_append.2 ⟨i1,by simp,fun x hx y hy=>?_⟩,fun e=>?_⟩
    ·have:y=s[n]!:=by simpa using hy
     subst this
     obtain⟨i,hi,rfl⟩:=List.mem_iff_getElem.1 ((i2 x).1 hx)
     rw[List.length_take]at hi
     rw[List.getElem_take,← getElem!_pos s i (by omega)]
     have h1:=A99 hs (i:=i) (j:=n) (by omega) (by omega)
     apply Classical.byContradiction
     intro h2
     have hd:=Ag0 h2 h1
     rcases hc with hc | hc
     ·omega
     ·by_cases ei:i=n-1
      ·subst ei;exact hc hd
      ·have h3:=A99 hs (i:=i) (j:=n-1) (by omega) (by omega)
       have h4:=A99 hs (i:=n-1) (j:=n) (by omega) (by omega)
       rw[hd]at h3
       exact hc (Ag0 h3 h4)
    ·rw[List.mem_append,et,List.mem_append,i2]
   ·rename_i hc
    split at h
    ·rename_i he
     simp only [Option.some.injEq]at h
     subst h
     refine⟨i1,fun e=>?_⟩
     rw[et,List.mem_append,i2]
     constructor
     ·exact fun k=>.inl k
     ·rintro(k | k)
      ·exact k
      ·have hn0:¬ n=0:=fun k0=>hc (.inl k0)
       have:e=s[n-1]!:=by rw[he];simpa using k
       subst this
       have hlt:n-1 <(s.take n).length:=by rw[List.length_take];omega
       have:=List.getElem_mem hlt
       rw[List.getElem_take,← getElem!_pos s (n-1) (by omega)]at this
       exact this
    ·cases h
theorem Ag3{s:List Entry}(hc:∀ x∈s,∀ y∈s,x.dot=y.dot→x=y):∀ n:Nat,n≤s.length→∃ l,P8 s n=some l
 | 0,_=>⟨[],rfl⟩
 | n+1,hn=>by
  obtain⟨l,hl⟩:=Ag3 hc n (by omega)
  rw[P8,hl]
  simp only
  split
  ·exact⟨_,rfl⟩
  ·rename_i h
   rw[if_pos]
   ·exact⟨_,rfl⟩
   ·refine hc _ (A7y (by omega)) _ (A7y (by omega)) ?_
    apply Classical.byContradiction
    exact fun k=>h (.inr k)
theorem B4m(es:List Entry)(e:Entry):e∈A54 es↔e∈es:=(List.mergeSort_perm es _).mem_iff
def A7b(a b:List Entry):Prop:=∀ x∈a,∀ y∈b,x.dot=y.dot→x=y
theorem B4n{a b:List Entry}(ha:A19 a)(hb:A19 b)(hc:A7b a b):∃ l,H6 a b=(l,0)∧A19 l∧∀ e,e∈l↔e∈a∨e∈b:=by
 rw[A97 ((Y1 a).2 ha) ((Y1 b).2 hb)]
 have hall:∀ x∈A54 (a++b),∀ y∈A54 (a++b),x.dot=y.dot→x=y:=by
  intro x hx y hy hd
  rw[B4m,List.mem_append]at hx hy
  rcases hx with hx | hx <;> rcases hy with hy | hy
  ·exact A2h ha hx hy hd
  ·exact hc x hx y hy hd
  ·exact(hc y hy x hx hd.symm).symm
  ·exact A2h hb hx hy hd
 obtain⟨l,hl⟩:=Ag3 hall _ (Nat.le_refl _)
 obtain⟨h1,h2⟩:=B4l (B05 _) _ l (Nat.le_refl _) hl
 have h3:∀ e,e∈l↔e∈a∨e∈b:=fun e=>by rw[h2,List.take_length,B4m,List.mem_append]
 refine⟨l,by unfold A29;rw[hl],⟨fun e he=>?_,h1⟩,h3⟩
 rcases(h3 e).1 he with k | k
 ·exact ha.1 e k
 ·exact hb.1 e k
end Go.Proofs.YtaiepnaokhpmcaaGreat
namespace Go.Proofs.YtaiepnaokhpmcaaGreat
open Go.E
set_option maxRecDepth 100000
set_option maxHeartbeats 4000000
theorem O8{f:Facts}:okF f=true↔A19 f.adds∧f.gone=A5 f.gone∧Bf2 f.recs:=by rw[E6,Y1,P7]
theorem B4o{es:List Entry}(h:A19 es){x:Entry}(hx:x∈es):C6 es x.dot=(x,true):=by
 unfold C6
 cases hf:es.find? (fun e=>decide (e.dot=x.dot))with
 | none =>
  rw[List.find?_eq_none]at hf
  exact absurd (decide_eq_true rfl) (hf x hx)
 | some e =>
  have h0:=List.find?_some hf
  have h1:e.dot=x.dot:=of_decide_eq_true h0
  rw[A2h h (List.mem_of_find?_eq_some hf) hx h1]
theorem Av9{es:List Entry}{d:Dot}(h:(C6 es d).2=true):(C6 es d).1∈es:=by
 unfold C6 at *
 split at h
 ·rename_i e he
  exact List.mem_of_find?_eq_some he
 ·cases h
theorem An9{es:List Entry}(h:A19 es){e:Entry}:B3y es e=true↔e∈es:=by
 unfold B3y
 rw[decide_eq_true_iff]
 constructor
 ·intro k
  have:=Av9 (es:=es) (d:=e.dot) (by rw[k])
  rwa [k]at this
 ·exact fun k=>B4o h k
theorem B0o{a b:Facts}(h:T0 a b=true):(H9 a b).2=true↔∃ e∈a.adds,B0m b e=true:=by
 unfold H9
 rw[if_pos h]
 cases hf:a.adds.find? (B0m b)with
 | none =>
  rw[List.find?_eq_none]at hf
  constructor
  ·intro k;cases k
  ·rintro⟨e,he,k⟩
   exact absurd k (hf e he)
 | some e=>exact⟨fun _=>⟨e,List.mem_of_find?_eq_some hf,List.find?_some hf⟩,fun _=>rfl⟩
theorem B4p{a b:List Entry}{f:Facts}(hb:A19 f.adds):(∃ e∈a,B0m f e=true)↔¬ A7b a f.adds:=by
 constructor
 ·rintro⟨e,he,k⟩ h
  obtain⟨k1,k2⟩:=A5o.1 k
  exact k2 (h e he _ (Av9 k1) (Av8 k1).symm).symm
 ·intro h
  apply Classical.byContradiction
  intro k
  refine h fun x hx y hy hd=>?_
  apply Classical.byContradiction
  intro c
  refine k ⟨x,hx,A5o.2 ?_⟩
  rw[hd,B4o hb hy]
  exact⟨rfl,fun e=>c e.symm⟩
noncomputable def K3(a b:Facts):Bool:=T0 a b && !(H9 a b).2
def O2(l:List Entry)(e:Entry):Bool:=decide (e∈l)
noncomputable def A5u(f:Facts)(e:Entry):Bool:=C5 f.gone e.dot || decide (0 < G3 f.recs e)
def agF(a b:Facts):Prop:=okF a=true∧okF b=true∧A7b a.adds b.adds
theorem A5p{a b:Facts}(h:T0 a b=true):(H9 a b).2=true↔¬ A7b a.adds b.adds:=by
 rw[B0o h]
 exact B4p (b:=[]) (O8.1 (G0.1 h).2).1
theorem A3w{a b:Facts}:K3 a b=true↔agF a b:=by
 unfold K3 agF
 rw[Bool.and_eq_true,Bool.not_eq_true',Bool.eq_false_iff]
 constructor
 ·rintro⟨h1,h2⟩
  exact⟨(G0.1 h1).1,(G0.1 h1).2,Classical.byContradiction fun k=>h2 ((A5p h1).2 k)⟩
 ·rintro⟨h1,h2,h3⟩
  have h:=G0.2 ⟨h1,h2⟩
  exact⟨h,fun k=>(A5p h).1 k h3⟩
theorem B0p{a b:List Entry}(h:A7b a b):A7b b a:=fun x hx y hy hd=>(h y hy x hx hd.symm).symm
theorem agF.symm{a b:Facts}(h:agF a b):agF b a:=⟨h.2.1,h.1,B0p h.2.2⟩
theorem B8j{x y:Facts}(hx:okF x=true)(hy:okF y=true)(h1:∀ e,e∈x.adds↔e∈y.adds)(h2:∀ d,C5 x.gone d=C5 y.gone d)(h3:∀ r,r∈x.recs↔r∈y.recs):x=y:=by
 obtain⟨x1,x2,x3⟩:=O8.1 hx
 obtain⟨y1,y2,y3⟩:=O8.1 hy
 have e1:=A78 x1.2 y1.2 h1
 have e2:=Ar4 x2 y2 h2
 have e3:=A6w x3.2 y3.2 (fun r hr=>(A8h.1 (x3.1 r hr)).2.1) (fun r hr=>(A8h.1 (y3.1 r hr)).2.1) h3
 cases x
 cases y
 simp only at e1 e2 e3
 rw[e1,e2,e3]
theorem E0{a b:Facts}(h:agF a b):A0 a b=(I6 a b,0)∧okF (I6 a b)=true∧(∀ e,e∈(I6 a b).adds↔e∈a.adds∨e∈b.adds)∧(∀ d,C5 (I6 a b).gone d=(C5 a.gone d || C5 b.gone d))∧∀ r,r∈(I6 a b).recs↔r∈a.recs∨r∈b.recs:=by
 obtain⟨a1,a2,a3⟩:=E6.1 h.1
 obtain⟨b1,b2,b3⟩:=E6.1 h.2.1
 obtain⟨l,u1,u2,u3⟩:=B4n ((Y1 _).1 a1) ((Y1 _).1 b1) h.2.2
 have hb:=G0.2 ⟨h.1,h.2.1⟩
 have hn:=Af7 a3 b3
 refine⟨An4 hb (by rw[u1]),O8.2 ⟨?_,Ab9 _,(P7 _).1 (B0i a3 b3)⟩,fun e=>?_,fun d=>?_,fun r=>?_⟩
 ·show A19 (H6 a.adds b.adds).1
  rw[u1];exact u2
 ·show e∈(H6 a.adds b.adds).1↔_
  rw[u1];exact u3 e
 ·show C5 (D3 [a.gone,b.gone]) d=_
  rw[A8b]
  simp
 ·show r∈A76 (a.recs++b.recs)↔_
  rw[A95 hn,List.mem_append]
def B0q(a b:Facts):Prop:=(∀ e∈a.adds,e∈b.adds)∧(∀ d,C5 a.gone d=true→C5 b.gone d=true)∧∀ r∈a.recs,r∈b.recs
theorem Aw0{a b:Facts}(hb:okF b=true):I9 (D2 a b)=true↔B0q a b:=by
 have b1:=(O8.1 hb).1
 unfold I9 B0q
 rw[decide_eq_true_iff]
 refine and_congr ?_ (and_congr ?_ ?_)
 ·show((a.adds.filter fun e=>!B3y b.adds e).length:Int)=0↔_
  constructor
  ·intro h e he
   apply Classical.byContradiction
   intro k
   have:e∈a.adds.filter fun e=>!B3y b.adds e:=List.mem_filter.2 ⟨he,by rw[Bool.not_eq_true',Bool.eq_false_iff];exact fun c=>k ((An9 b1).1 c)⟩
   rw[List.eq_nil_of_length_eq_zero (by omega:(a.adds.filter fun e=>!B3y b.adds e).length=0)]at this
   cases this
  ·intro h
   have:a.adds.filter (fun e=>!B3y b.adds e)=[]:=List.filter_eq_nil_iff.2 fun e he k=>by
    rw[(An9 b1).2 (h e he)]at k;cases k
   rw[this];rfl
 ·show E3 (D5 a.gone b.gone)=0↔_
  rw[A0j]
  constructor
  ·intro h d hd
   have:=h d
   rw[A8a,hd]at this
   simpa using this
  ·intro h d
   rw[A8a]
   cases hd:C5 a.gone d with
   | false=>rfl
   | true=>rw[h d hd];rfl
 ·show((a.recs.filter fun r=>decide (¬ r∈b.recs)).length:Int)=0↔_
  constructor
  ·intro h r hr
   apply Classical.byContradiction
   intro k
   have:r∈a.recs.filter fun r=>decide (¬ r∈b.recs):=List.mem_filter.2 ⟨hr,decide_eq_true k⟩
   rw[List.eq_nil_of_length_eq_zero (by omega:(a.recs.filter fun r=>decide (¬ r∈b.recs)).length=0)]at this
   cases this
  ·intro h
   have:a.recs.filter (fun r=>decide (¬ r∈b.recs))=[]:=List.filter_eq_nil_iff.2 fun r hr k=>(of_decide_eq_true k) (h r hr)
   rw[this];rfl
theorem A5q{a b:Facts}(ha:okF a=true)(hb:okF b=true):(A8 a b).2=0∧((A8 a b).1=true↔B0q a b):=by
 unfold A8
 rw[if_pos (G0.2 ⟨ha,hb⟩)]
 exact⟨rfl,Aw0 hb⟩
theorem Ao0{a b:Facts}(ha:okF a=true):okF (D2 a b)=true:=by
 obtain⟨a1,a2,a3⟩:=O8.1 ha
 exact O8.2 ⟨A2g a1 List.filter_sublist,A6t _ _,⟨fun r hr=>a3.1 r (List.mem_filter.1 hr).1,List.Pairwise.sublist List.filter_sublist a3.2⟩⟩
theorem Bl4{a b:Facts}(hb:okF b=true):(∀ e,e∈(D2 a b).adds↔e∈a.adds∧¬ e∈b.adds)∧(∀ d,C5 (D2 a b).gone d=(C5 a.gone d && !C5 b.gone d))∧∀ r,r∈(D2 a b).recs↔r∈a.recs∧¬ r∈b.recs:=by
 have b1:=(O8.1 hb).1
 refine⟨fun e=>?_,fun d=>A8a _ _ d,fun r=>?_⟩
 ·show e∈a.adds.filter (fun e=>!B3y b.adds e)↔_
  rw[List.mem_filter,Bool.not_eq_true',Bool.eq_false_iff,ne_eq,An9 b1]
 ·show r∈a.recs.filter (fun r=>decide (¬ r∈b.recs))↔_
  rw[List.mem_filter,decide_eq_true_iff]
theorem Ag4{f:Facts}(h:okF f=true):I9 f=true↔f=zeroF:=by
 unfold I9
 rw[decide_eq_true_iff]
 constructor
 ·rintro⟨h1,h2,h3⟩
  have e1:f.adds=[]:=List.eq_nil_of_length_eq_zero (by omega)
  have e3:f.recs=[]:=List.eq_nil_of_length_eq_zero (by omega)
  have e2:=(A2t (O8.1 h).2.1).1 h2
  cases f
  simp only at e1 e2 e3
  rw[e1,e2,e3]
  rfl
 ·rintro rfl
  exact⟨rfl,(A2t A1y.symm).2 rfl,rfl⟩
theorem Aw1{f:Facts}{e:Entry}:e∈B0l f↔e∈f.adds∧C5 f.gone e.dot=false∧G3 f.recs e=0:=by
 unfold B0l
 rw[List.mem_filter,List.mem_filter,decide_eq_true_iff,beq_iff_eq,and_assoc]
theorem Ag5{f:Facts}(h:okF f=true):A19 (B0l f):=A2g (A2g (O8.1 h).1 List.filter_sublist) List.filter_sublist
theorem Y2{f:Facts}(h:okF f=true):A7 f=(B0l f,0):=by unfold A7;rw[if_pos h]
theorem B8k{es:List Entry}(h:A19 es)(d:Dot):C5 (A3j es) d=true↔∃ e∈es,e.dot=d:=by
 unfold A3j
 rw[has_of]
 constructor
 ·rintro⟨_,k⟩
  exact List.mem_map.1 k
 ·rintro⟨e,he,k⟩
  refine⟨?_,List.mem_map.2 ⟨e,he,k⟩⟩
  have:=Ae3 (h.1 e he)
  rw[← k]
  unfold A0f
  rw[decide_eq_true_eq]
  exact this
theorem A0l{f:Facts}(h:okF f=true)(d:Dot):C5 (A9 f).1 d=true↔(∃ e∈f.adds,e.dot=d)∨C5 f.gone d=true:=by
 rw[R5 h]
 show C5 (D3 [A3j f.adds,f.gone]) d=true↔_
 rw[A8b,← B8k (O8.1 h).1]
 simp
theorem B4q{a b:List Record}(h:a.Perm b):A2m a=A2m b:=by
 induction h with
 | nil=>rfl
 | cons x _ ih=>simp only [A2m,List.map_cons,List.sum_cons]at *;omega
 | swap x y l=>simp only [A2m,List.map_cons,List.sum_cons];omega
 | trans _ _ ih1 ih2=>omega
theorem Aw2{a b:List Record}(h:a.Sublist b):A2m a≤A2m b:=by
 induction h with
 | slnil=>exact Nat.le_refl _
 | cons x h ih=>simp only [A2m,List.map_cons,List.sum_cons]at *;omega
 | cons_cons x h ih=>simp only [A2m,List.map_cons,List.sum_cons]at *;omega
theorem A9a{α:Type}(p:α→α→Bool):∀(l:List α) (a:α),(A94 p a l).Sublist l
 | [],a=>by simp [A94]
 | b :: l,a=>by
  simp only [A94]
  split
  ·exact .cons _ (A9a p l b)
  ·exact .cons_cons _ (A9a p l b)
theorem B8l{l:List Record}(h:A0z l):A2m (A76 l)≤A2m l:=by
 have h1:(A76 l).Sublist (A69 l):=by
  unfold A76 I5
  cases A69 l with
  | nil=>exact .slnil
  | cons a t=>exact .cons_cons _ (A9a _ t a)
 rw[← B4q (Af2 h)]
 exact Aw2 h1
theorem Y3{a b:Facts}{n m:Nat}(ha:szB n a)(hb:szB m b):szB (n+m) (A0 a b).1:=by
 have z:szB (n+m) zeroF:=⟨⟨⟨by decide,by decide⟩,fun r hr=>(by cases hr)⟩,Nat.zero_le _,Nat.zero_le _⟩
 unfold A0
 split
 ·rename_i h
  split
  ·have hp:=O1 h
   have hn:=Af7 hp.1.2.2 hp.2.2.2
   have t:=N5 (B5 [a.gone,b.gone])
   refine⟨⟨⟨?_,?_⟩,fun r hr=>?_⟩,?_,?_⟩
   ·show(H3 (B5 [a.gone,b.gone])).cloud.length*16≤_
    have:=t.1;omega
   ·show(H3 (B5 [a.gone,b.gone])).vec.length≤_
    have:=t.2;omega
   ·have hr:r∈A76 (a.recs++b.recs):=hr
    rw[A95 hn,List.mem_append]at hr
    exact hr.elim (ha.1.2 r) (hb.1.2 r)
   ·show(A76 (a.recs++b.recs)).length≤_
    have h1:=B85 (a.recs++b.recs)
    rw[List.length_append]at h1
    have h2:=ha.2.1
    have h3:=hb.2.1
    rw[Nat.add_mul]
    omega
   ·show A2m (A76 (a.recs++b.recs))≤_
    have h1:=B8l hn
    rw[A8w]at h1
    have h2:=ha.2.2
    have h3:=hb.2.2
    rw[Nat.add_mul]
    omega
  ·exact z
 ·exact z
theorem A9b{a b:Facts}{n:Nat}(ha:szB n a):szB n (D7 a b).1:=by
 unfold D7
 split
 ·refine⟨A8s ha.1,?_,?_⟩
  ·exact Nat.le_trans (List.length_filter_le _ _) ha.2.1
  ·exact Nat.le_trans (Aw2 List.filter_sublist) ha.2.2
 ·exact⟨⟨⟨by decide,by decide⟩,fun r hr=>(by cases hr)⟩,Nat.zero_le _,Nat.zero_le _⟩
end Go.Proofs.YtaiepnaokhpmcaaGreat
namespace Go.Proofs.YtaiepnaokhpmcaaGreat
open Go.E
set_option maxRecDepth 100000
set_option maxHeartbeats 4000000
def Ao1:Facts:=⟨B9.adds,B9.gone,I4.recs⟩
theorem Aw3:okF Ao1=true:=E6.2 ⟨(E6.1 A2w).1,(E6.1 A2w).2.1,(E6.1 B9y).2.2⟩
theorem A2i:A0 B9 I4=(Ao1,0):=by
 have J:=E0 (a:=B9) (b:=I4) ⟨A2w,B9y,fun x hx y hy=>(by cases hy)⟩
 rw[J.1]
 congr 1
 refine B8j J.2.1 Aw3 (fun e=>?_) (fun d=>?_) (fun r=>?_)
 ·rw[J.2.2.1];simp [I4,Ao1]
 ·rw[J.2.2.2.1]
  show(C5 B9.gone d || C5 ⟨[],[]⟩ d)=C5 B9.gone d
  rw[A3v,Bool.or_false]
 ·rw[J.2.2.2.2];simp [B9,Ao1]
theorem Ag6:A7 Ao1=([⟨⟨0,2⟩,⟨#[66]⟩,2⟩],0):=by
 have e:B0l Ao1=[⟨⟨0,2⟩,⟨#[66]⟩,2⟩]:=by decide +kernel
 rw[Y2 Aw3,e]
theorem B8m:szB 3 B9:=⟨A2x.1,by decide,by decide⟩
theorem Bl5:szB 3 I4:=⟨B9z.1,by decide,by decide⟩
theorem B8n:szB 7 Ao1:=⟨⟨A2x.1.1,B9z.1.2⟩,by decide,by decide⟩
def Bl6(l:List Entry)(e:Entry)(i:Int)(r m:Int)(s:ByteArray)(q:Int):Prop:=r=e.dot.rep∧m=e.dot.num∧s=e.sku∧q=e.qty∧0≤i∧i≤l.length∧∀ j:Nat,(j:Int) < i→¬ l[j]! = e
def decLi(l:List Entry)(i:Int)(r m:Int)(s:ByteArray)(q:Int):Nat:=(l.length-i).toNat
theorem Bl7{f:Facts}(hb:szF f):(A9 f).1.vec.length≤16∧(A9 f).1.cloud.length≤8000000000:=by
 unfold A9
 split
 ·have t:=N5 (B5 [A3j f.adds,f.gone])
  exact⟨t.2,t.1⟩
 ·exact⟨by decide,by decide⟩
theorem Bl8 :Con Tryz.prog 28 [] (.b true) :=
 by
 refine sC B1 [.tmp 0] 43 Tryz.func28 ?_
 intro e0 cx
 refine sq<|rG cx [] [] z0<|sn<|sq<|rG cx [1,2] [1] (fT (con16 ) (fT (con17 ) (fT (Ag2 (B9) (I4) (by exact B8m) (by exact Bl5)) (oA 0 (.agg [.sl (List.map c45 B9.adds),.sl (List.map c3 B9.gone.vec),.sl (List.map B7 B9.gone.cloud),.sl (List.map c81 B9.recs)]) (oA 1 (.agg [.sl (List.map c45 I4.adds),.sl (List.map c3 I4.gone.vec),.sl (List.map B7 I4.gone.cloud),.sl (List.map c81 I4.recs)]) (oA 2 (.tup [.agg [.sl (List.map c45 (A0 B9 I4).1.adds),.sl (List.map c3 (A0 B9 I4).1.gone.vec),.sl (List.map B7 (A0 B9 I4).1.gone.cloud),.sl (List.map c81 (A0 B9 I4).1.recs)],.i .i64 ((A0 B9 I4).2)]) z0)))))) ?_
 refine sn<|sq<|sq<|B4 (σ':=⟨[(1,.ptr (1) (0) (0) (0)),(23,.b (decide (¬(A0 B9 I4).2=0∨¬(↑(A0 B9 I4).1.adds.length:Int)=3∨¬(↑(A0 B9 I4).1.recs.length:Int)=1)))],[(1,⟨0,29,.var [.sl (List.map c45 (A0 B9 I4).1.adds),.sl (List.map c3 (A0 B9 I4).1.gone.vec),.sl (List.map B7 (A0 B9 I4).1.gone.cloud),.sl (List.map c81 (A0 B9 I4).1.recs)]⟩)]⟩) ?_ ?_
 refine A4 (¬(A0 B9 I4).2=0) (fun h_1=>?_) (fun h_1=>?_)
 refine rG cx [1,23] [1] (tT 1 (C4 h_1:AV.b ((A0 B9 I4).2 !=0)=AV.b true) (tD 13 true (¬(A0 B9 I4).2=0∨¬(↑(A0 B9 I4).1.adds.length:Int)=3∨¬(↑(A0 B9 I4).1.recs.length:Int)=1) (by simp only [eq_false h_1,tsl]) z0)) ?_
 exact⟨rfl,by kernel_rfl⟩
 refine A4 (¬(↑(A0 B9 I4).1.adds.length:Int)=3) (fun h_2=>?_) (fun h_2=>?_)
 refine rG cx [1,23] [1] (tN 1 ((A0 B9 I4).2) (0:Int) (tT 2 (A3 h_1) (tL 5 c45 ((A0 B9 I4).1.adds) (tT 6 (C4 h_2:AV.b ((↑(A0 B9 I4).1.adds.length:Int) !=3)=AV.b true) (tT 13 (by first | (simp only [eq_false h_1,eq_false h_2,tsl];done) | simp_all:AV.b true=AV.b (decide (¬(A0 B9 I4).2=0∨¬(↑(A0 B9 I4).1.adds.length:Int)=3∨¬(↑(A0 B9 I4).1.recs.length:Int)=1))) z0))))) ?_
 exact⟨rfl,by kernel_rfl⟩
 refine rG cx [1,23] [1] (tN 1 ((A0 B9 I4).2) (0:Int) (tT 2 (A3 h_1) (tL 5 c45 ((A0 B9 I4).1.adds) (tN 6 (↑(A0 B9 I4).1.adds.length:Int) (3:Int) (tT 7 (A3 h_2) (tL 11 c81 ((A0 B9 I4).1.recs) (tN 12 (↑(A0 B9 I4).1.recs.length:Int) (1:Int) (tT 13 (by first | (simp only [eq_false h_1,eq_false h_2,tsl];done) | simp_all:AV.b (decide ¬(↑(A0 B9 I4).1.recs.length:Int)=1)=AV.b (decide (¬(A0 B9 I4).2=0∨¬(↑(A0 B9 I4).1.adds.length:Int)=3∨¬(↑(A0 B9 I4).1.recs.length:Int)=1))) z0)))))))) ?_
 exact⟨rfl,by kernel_rfl⟩
 refine sn<|dC (¬(A0 B9 I4).2=0∨¬(↑(A0 B9 I4).1.adds.length:Int)=3∨¬(↑(A0 B9 I4).1.recs.length:Int)=1) (fun h3=>?_) fun h3=>?_
 refine sq<|rG cx [0] [] z0<|sn<|rT<|nR<|qR (.b (false)) (.eq ?g2);rotate_left
 refine sK<|sn<|sq<|rG cx [3,2] [] (fT (B4k ((A0 B9 I4).1) (by rw[A2i];exact B8n)) (oA 1 (.tup [.sl (List.map c45 (A7 (A0 B9 I4).1).1),.i .i64 ((A7 (A0 B9 I4).1).2)]) z0)) ?_
 refine sn<|sq<|B4 (σ':=⟨[(0,.b (decide ((A7 (A0 B9 I4).1).2=0∧(↑(A7 (A0 B9 I4).1).1.length:Int)=1∧(A7 (A0 B9 I4).1).1[(0:Nat)]! = { dot:={ rep:=(0:Int),num:=(2:Int):Dot },sku:=(A8u (0:Int) (2:Int) { data:=#[(66:UInt8)]:ByteArray } (2:Int)).sku,qty:=(2:Int):Entry })))],[]⟩) ?_ ?_
 refine A4 ((A7 (A0 B9 I4).1).2=0) (fun h5=>?_) (fun h5=>?_)
 refine A4 ((↑(A7 (A0 B9 I4).1).1.length:Int)=1) (fun h6=>?_) (fun h6=>?_)
 refine rA cx [0] [] (tT 1 (A6 h5) (tL 4 c45 ((A7 (A0 B9 I4).1).1) (tT 5 (A6 h6) (fO ((0:Int)≤(0:Int)) (fP ((List.map c45 (A7 (A0 B9 I4).1).1)[Int.toNat (0:Int)]?=some (c45 (A7 (A0 B9 I4).1).1[(0:Nat)]!)) (by rw[A2i,Ag6];rfl) (fR 4 (fN 4 4 (fT (B7r ((0:Int)) ((2:Int)) ({ data:=#[(66:UInt8)]:ByteArray }) ((2:Int))) (fT (Bn5 (A7 (A0 B9 I4).1).1[(0:Nat)]! { dot:={ rep:=(0:Int),num:=(2:Int):Dot },sku:=(A8u (0:Int) (2:Int) { data:=#[(66:UInt8)]:ByteArray } (2:Int)).sku,qty:=(2:Int):Entry }) (tD 14 (decide ((A7 (A0 B9 I4).1).1[(0:Nat)]! = { dot:={ rep:=(0:Int),num:=(2:Int):Dot },sku:=(A8u (0:Int) (2:Int) { data:=#[(66:UInt8)]:ByteArray } (2:Int)).sku,qty:=(2:Int):Entry })) ((A7 (A0 B9 I4).1).2=0∧(↑(A7 (A0 B9 I4).1).1.length:Int)=1∧(A7 (A0 B9 I4).1).1[(0:Nat)]! = { dot:={ rep:=(0:Int),num:=(2:Int):Dot },sku:=(A8u (0:Int) (2:Int) { data:=#[(66:UInt8)]:ByteArray } (2:Int)).sku,qty:=(2:Int):Entry }) (by simp only [eq_true h5,eq_true h6,tsl]) (oR 9 (c45 (A7 (A0 B9 I4).1).1[(0:Nat)]!) (oA 11 (.agg [.i .i64 ((0:Int)),.i .i64 ((2:Int)),.s ((A8u (0:Int) (2:Int) { data:=#[(66:UInt8)]:ByteArray } (2:Int)).sku),.i .i64 ((2:Int))]) (oA 12 (.b (decide ((A7 (A0 B9 I4).1).1[(0:Nat)]! = { dot:={ rep:=(0:Int),num:=(2:Int):Dot },sku:=(A8u (0:Int) (2:Int) { data:=#[(66:UInt8)]:ByteArray } (2:Int)).sku,qty:=(2:Int):Entry }))) z0))))))))))))) ?_
 exact⟨rfl,by kernel_rfl⟩
 refine rA cx [0] [] (tT 1 (A6 h5) (tL 4 c45 ((A7 (A0 B9 I4).1).1) (tT 5 (A3 h6) (tD 14 false ((A7 (A0 B9 I4).1).2=0∧(↑(A7 (A0 B9 I4).1).1.length:Int)=1∧(A7 (A0 B9 I4).1).1[(0:Nat)]! = { dot:={ rep:=(0:Int),num:=(2:Int):Dot },sku:=(A8u (0:Int) (2:Int) { data:=#[(66:UInt8)]:ByteArray } (2:Int)).sku,qty:=(2:Int):Entry }) (by simp only [eq_true h5,eq_false h6,tsl]) z0)))) ?_
 exact⟨rfl,by kernel_rfl⟩
 refine rA cx [0] [] (tT 1 (A3 h5) (tD 14 false ((A7 (A0 B9 I4).1).2=0∧(↑(A7 (A0 B9 I4).1).1.length:Int)=1∧(A7 (A0 B9 I4).1).1[(0:Nat)]! = { dot:={ rep:=(0:Int),num:=(2:Int):Dot },sku:=(A8u (0:Int) (2:Int) { data:=#[(66:UInt8)]:ByteArray } (2:Int)).sku,qty:=(2:Int):Entry }) (by simp only [eq_false h5,tsl]) z0)) ?_
 exact⟨rfl,by kernel_rfl⟩
 refine sn<|rT<|qR (.b (decide ((A7 (A0 B9 I4).1).2=0∧(↑(A7 (A0 B9 I4).1).1.length:Int)=1∧(A7 (A0 B9 I4).1).1[(0:Nat)]! = { dot:={ rep:=(0:Int),num:=(2:Int):Dot },sku:=(A8u (0:Int) (2:Int) { data:=#[(66:UInt8)]:ByteArray } (2:Int)).sku,qty:=(2:Int):Entry }))) (.eq (by rw[A2i,Ag6];rfl))
 case g2=>rw[A2i]at h3;rcases h3 with h3 | h3 | h3 <;> exact absurd rfl h3
theorem B8o(a b:Facts)(ha:szF a)(hb:szF b):Con Tryz.prog 29 [.agg (c29 a),.agg (c29 b)] (.b (K3 a b)) :=
 by
 refine sC B1 [.tmp 4] 23 Tryz.func29 ?_
 intro e0 cx
 refine sq<|rG cx [2,3] [2,3] z0<|sn<|sq<|sq<|B4 (σ':=⟨[(2,.ptr (2) (0) (0) (0)),(3,.ptr (3) (0) (0) (0)),(14,.b (decide (¬I1 a=0∨¬I1 b=0)))],[(2,⟨0,29,.var [.sl (List.map c45 a.adds),.sl (List.map c3 a.gone.vec),.sl (List.map B7 a.gone.cloud),.sl (List.map c81 a.recs)]⟩),(3,⟨0,29,.var [.sl (List.map c45 b.adds),.sl (List.map c3 b.gone.vec),.sl (List.map B7 b.gone.cloud),.sl (List.map c81 b.recs)]⟩)]⟩) ?_ ?_
 refine A4 (¬I1 a=0) (fun h_1=>?_) (fun h_1=>?_)
 refine rG cx [2,3,14] [2,3] (fT (Am6 (a) (by(with_reducible assumption))) (tT 2 (C4 h_1:AV.b (I1 a !=0)=AV.b true) (tD 7 true (¬I1 a=0∨¬I1 b=0) (by simp only [eq_false h_1,tsl]) (oA 1 (.i .i64 (I1 a)) z0)))) ?_
 exact⟨rfl,by kernel_rfl⟩
 refine rG cx [2,3,14] [2,3] (fT (Am6 (a) (by(with_reducible assumption))) (tN 2 (I1 a) (0:Int) (tT 3 (A3 h_1) (fT (Am6 (b) (by(with_reducible assumption))) (tN 6 (I1 b) (0:Int) (tT 7 (by first | (simp only [eq_false h_1,tsl];done) | simp_all:AV.b (decide ¬I1 b=0)=AV.b (decide (¬I1 a=0∨¬I1 b=0))) (oA 1 (.i .i64 (I1 a)) (oA 5 (.i .i64 (I1 b)) z0)))))))) ?_
 exact⟨rfl,by kernel_rfl⟩
 refine sn<|dC (¬I1 a=0∨¬I1 b=0) (fun h2=>?_) fun h2=>?_
 refine sq<|rG cx [4] [] z0<|sn<|rT<|nR<|qR (.b (false)) (.eq (by unfold K3;rw[Bool.eq_false_iff.2 (An8 h2)];rfl))
 refine sK<|sn<|sq<|rG cx [6] [] (fT (con38 (a) (b) (by(with_reducible assumption)) (by(with_reducible assumption))) (oA 2 (.tup [.agg [.i .i64 ((H9 a b).1.rep),.i .i64 ((H9 a b).1.num)],.b ((H9 a b).2)]) z0))<|sn<|sq<|rG cx [4] [] (tO 1 ((H9 a b).2) z0)<|sn<|rT<|qR (.b (decide ¬(H9 a b).2=true)) (.eq ?g1);rotate_left
 case g1=>unfold K3;rw[A31 h2];cases(H9 a b).2 <;> rfl
theorem Ag7(l:List Entry)(e:Entry):Con Tryz.prog 32 [.sl (l.map c45),.agg (c45 e)] (.b (O2 l e)) :=
 by
 refine lN 0 c45 (l) Tryz.func32 fun hl_0=>sC B1 [.tmp 4] 17 Tryz.func32 ?_
 intro e0 cx
 refine sq<|rG cx [0,3] [3] z0<|sn<|sq<|sq<|rG cx [3,7,8,9] [3] (tL 1 c45 l z0)<|sn<|bL 0<|sL (X:=Int×Int×Int×ByteArray×Int) (fun x=>⟨[(3,.ptr (3) (0) (0) (0)),(7,.sl (List.map c45 l)),(8,.i .i64 ((↑l.length:Int))),(9,.i .i64 (x.1))],[(3,⟨0,45,.var [.i .i64 (x.2.1),.i .i64 (x.2.2.1),.s (x.2.2.2.1),.i .i64 (x.2.2.2.2)]⟩)]⟩) (fun x ↦ decLi l x.1 x.2.1 x.2.2.1 x.2.2.2.1 x.2.2.2.2) (fun x ↦ Bl6 l e x.1 x.2.1 x.2.2.1 x.2.2.2.1 x.2.2.2.2) [3,7,8,9] [3] (((0:Int),e.dot.rep,e.dot.num,e.sku,e.qty)) (show Bl6 l e (0:Int) e.dot.rep e.dot.num e.sku e.qty from(by exact⟨rfl,rfl,rfl,rfl,by omega,by omega,fun j hj=>by omega⟩)) ?_
 rintro⟨i0,r1,m2,s3,q4⟩ h_5
 obtain⟨h6,h7,h8,h9,h10,h11,h12⟩:r1=e.dot.rep∧m2=e.dot.num∧s3=e.sku∧q4=e.qty∧0≤i0∧i0≤(↑l.length:Int)∧∀(j:Nat),(↑j:Int) < i0→¬l[j]! = e:=h_5
 refine rE cx [3,7,8,9,10] [3] (zB 0 (i0 <(↑l.length:Int))) (fun h13=>?_) fun h13=>?_
 refine sK<|sn<|sq<|bL 1<|sq<|rG cx [3,7,8,9,6] [3,6] (fA (0≤i0) (fG c45 l i0.toNat (fR 4 (fN 4 4 (oR 0 (c45 l[i0.toNat]!) z0)))))<|sn<|sq<|rG cx [3,7,8,9,15] [3] (fT (Bn5 l[i0.toNat]! { dot:={ rep:=r1,num:=m2:Dot },sku:=s3,qty:=q4:Entry }) (oA 2 (.b (decide (l[i0.toNat]! = { dot:={ rep:=r1,num:=m2:Dot },sku:=s3,qty:=q4:Entry }))) z0))<|sn<|dC (l[i0.toNat]! = { dot:={ rep:=r1,num:=m2:Dot },sku:=s3,qty:=q4:Entry }) (fun h14=>?_) fun h14=>?_
 refine sq<|rG cx [4] [] z0<|sn<|rT<|bR<|nR<|nR<|bR<|nR<|qR (.b (true)) (.eq (by subst h6 h7 h8 h9;unfold O2;rw[decide_eq_true];rw[← show l[i0.toNat]! = e from h14];exact D6 (by omega)))
 refine sK<|bN<|sn<|rG cx [3,7,8,9] [3] (tW 0 (i0+1) z0)<|sn<|nX ((i0+1,r1,m2,s3,q4)) (show((↑l.length:Int)-(i0+1)).toNat <((↑l.length:Int)-i0).toNat from(by omega)) (show Bl6 l e (i0+1) r1 m2 s3 q4 from ?g2);rotate_left
 refine eX 0<|nE<|nE<|bH<|sn<|sq<|rG cx [4] [] z0<|sn<|rT<|qR (.b (false)) (.eq ?g3);rotate_left
 case g2 =>
  subst h6 h7 h8 h9
  refine⟨rfl,rfl,rfl,rfl,by omega,by omega,fun j hj=>?_⟩
  by_cases c:j=i0.toNat
  ·rw[c];exact h14
  ·exact h12 j (by omega)
 case g3 =>
  unfold O2
  rw[decide_eq_false]
  intro k
  obtain⟨j,hj,k⟩:=List.mem_iff_getElem.1 k
  exact h12 j (by omega) (by rw[getElem!_pos l j hj];exact k)
theorem Bl9(f:Facts)(e:Entry)(hb:szF f):Con Tryz.prog 33 [.agg (c29 f),.agg (c45 e)] (.b (A5u f e)) :=
 by
 have:=hb.1.1
 refine sC B1 [.tmp 4] 17 Tryz.func33 ?_
 intro e0 cx
 refine sq<|rG cx [2,3] [2,3] z0<|sn<|sq<|B4 (σ':=⟨[(4,.b (decide (C5 f.gone e.dot=true∨(0:Int) < G3 f.recs e)))],[]⟩) ?_ ?_
 refine A4 (C5 f.gone e.dot=true) (fun h1=>?_) (fun h1=>?_)
 refine rg (A:=_∧_∧(AV.b true=AV.b (decide (C5 f.gone e.dot=true∨(0:Int) < G3 f.recs e)))) cx [(4,{ val:=some (.b (C5 f.gone e.dot)),tell:=some (.b (true)) }),(12,{ tell:=some (.b (decide (C5 f.gone e.dot=true∨(0:Int) < G3 f.recs e))) })] [4] [] ⟨(I7 h1),(A20 (f.gone) (e.dot) (by omega)),(by simp only [eq_true h1,tsl])⟩ ?_
 exact⟨rfl,by kernel_rfl⟩
 refine rg (A:=(AV.b (C5 f.gone e.dot)=AV.b false)∧_∧_∧(AV.b (decide (G3 f.recs e >(0:Int)))=AV.b (decide ((0:Int) < G3 f.recs e)))∧(AV.b (decide ((0:Int) < G3 f.recs e))=AV.b (decide (C5 f.gone e.dot=true∨(0:Int) < G3 f.recs e)))) cx [(4,{ val:=some (.b (C5 f.gone e.dot)),tell:=some (.b (false)) }),(9,{ val:=some (.i .i64 (G3 f.recs e)) }),(10,{ tell:=some (.b (decide ((0:Int) < G3 f.recs e))) }),(12,{ tell:=some (.b (decide (C5 f.gone e.dot=true∨(0:Int) < G3 f.recs e))) })] [4] [] ⟨(F4 h1),(A20 (f.gone) (e.dot) (by omega)),(con76 (f.recs) (e) (by exact Ad8 hb.2)),(by kernel_rfl),(by simp only [eq_false h1,tsl])⟩ ?_
 exact⟨rfl,by kernel_rfl⟩
 refine sn<|rT<|qR (.b (decide (C5 f.gone e.dot=true∨(0:Int) < G3 f.recs e))) (.eq ?g3);rotate_left
 case g3=>unfold A5u;cases C5 f.gone e.dot <;> simp
end Go.Proofs.YtaiepnaokhpmcaaGreat
namespace Go.Proofs.YtaiepnaokhpmcaaGreat
open Go.E
set_option maxRecDepth 100000
set_option maxHeartbeats 4000000
theorem Bm0{a:Facts}(h:okF a=true):agF a a:=⟨h,h,fun x hx y hy hd=>A2h (O8.1 h).1 hx hy hd⟩
theorem Bm1{a b c:Facts}(h:agF a b)(h1:agF a c)(h2:agF b c):agF (I6 a b) c :=
 ⟨(E0 h).2.1,h1.2.1,fun x hx y hy hd=>(((E0 h).2.2.1 x).1 hx).elim (fun k=>h1.2.2 x k y hy hd) (fun k=>h2.2.2 x k y hy hd)⟩
theorem B4r{a b:Facts}(h:agF a b):I6 a b=I6 b a:=by
 obtain⟨_,o1,p1,q1,r1⟩:=E0 h
 obtain⟨_,o2,p2,q2,r2⟩:=E0 h.symm
 exact B8j o1 o2 (fun e=>by rw[p1,p2,or_comm]) (fun d=>by rw[q1,q2,Bool.or_comm]) (fun r=>by rw[r1,r2,or_comm])
theorem B0r{a b:Facts}(h:agF a b):agF (I6 a b) a∧I6 (I6 a b) a=I6 a b:=by
 have g:=Bm1 h (Bm0 h.1) h.symm
 obtain⟨_,o1,p1,q1,r1⟩:=E0 h
 obtain⟨_,o2,p2,q2,r2⟩:=E0 g
 refine⟨g,B8j o2 o1 (fun e=>?_) (fun d=>?_) (fun r=>?_)⟩
 ·rw[p2,p1];exact⟨fun k=>k.elim id .inl,.inl⟩
 ·rw[q2,q1];cases C5 a.gone d <;> cases C5 b.gone d <;> rfl
 ·rw[r2,r1];exact⟨fun k=>k.elim id .inl,.inl⟩
theorem A3x{a b c:Facts}(h:agF a b):B0q (I6 a b) c↔B0q a c∧B0q b c:=by
 obtain⟨_,o1,p1,q1,r1⟩:=E0 h
 unfold B0q
 constructor
 ·rintro⟨k1,k2,k3⟩
  exact⟨⟨fun e he=>k1 e ((p1 e).2 (.inl he)),fun d hd=>k2 d (by rw[q1,hd];rfl),fun r hr=>k3 r ((r1 r).2 (.inl hr))⟩,
   ⟨fun e he=>k1 e ((p1 e).2 (.inr he)),fun d hd=>k2 d (by rw[q1,hd,Bool.or_true]),fun r hr=>k3 r ((r1 r).2 (.inr hr))⟩⟩
 ·rintro⟨⟨k1,k2,k3⟩,k4,k5,k6⟩
  refine⟨fun e he=>((p1 e).1 he).elim (k1 e) (k4 e),fun d hd=>?_,fun r hr=>((r1 r).1 hr).elim (k3 r) (k6 r)⟩
  rw[q1,Bool.or_eq_true]at hd
  exact hd.elim (k2 d) (k5 d)
theorem B8p(a:Facts):B0q a a:=⟨fun _ h=>h,fun _ h=>h,fun _ h=>h⟩
theorem A5r{a b:Facts}(h:agF a b):B0q a (I6 a b)∧B0q b (I6 a b):=(A3x h).1 (B8p _)
theorem Ag8{a b:Facts}(ha:okF a=true)(hb:okF b=true)(h:B0q a b):A8 a b=(true,0):=Prod.ext ((A5q ha hb).2.2 h) (A5q ha hb).1
theorem con11(a b c:Facts)(ha:szB 1 a)(hb:szB 1 b)(hc:szB 1 c):Con Tryz.prog 11 [.agg (c29 a),.agg (c29 b),.agg (c29 c)] (.b true) :=
 by
 have W:¬¬K3 a b=true→agF a b:=fun h=>A3w.1 (Classical.not_not.1 h)
 have J:¬¬K3 a b=true→A0 a b=(I6 a b,0):=fun h=>(E0 (W h)).1
 have J2:¬¬K3 a b=true→A0 b a=(I6 a b,0):=fun h=>by rw[(E0 (W h).symm).1,B4r (W h)]
 have sj:=Y3 ha hb
 have gj:=An3 sj (by decide)
 have ga:=An3 ha (by decide)
 have gb:=An3 hb (by decide)
 have gc:=An3 hc (by decide)
 refine sC B1 [.tmp 6] 132 Tryz.func11 ?_
 intro e0 cx
 refine sq<|rG cx [3,4,5] [3,4,5] z0<|sn<|sq<|sq<|rG cx [3,4,5,19] [3,4,5] (fT (Bl8 ) (oA 0 (.b (true)) z0))<|sn<|W7 (by kernel_rfl) (by kernel_rfl)<|sK<|sn<|sq<|sq<|rG cx [3,4,5,23] [3,4,5] (fT (B8o (a) (b) (by exact ha.1) (by exact hb.1)) (tT 3 (D0:(AV.b !K3 a b)=AV.b (decide ¬K3 a b=true)) (oA 2 (.b (K3 a b)) z0))) ?_
 refine sn<|dC (¬K3 a b=true) (fun h0=>?_) fun h0=>?_
 refine sq<|rG cx [6] [] z0<|sn<|rT<|nR ?_
 exact A3f (r:=.b (true)) (obl:=[]) (by kernel_rfl) trivial (B8.refl _)
 refine sK<|sn<|sq<|rG cx [3,4,5,7,8] [3,4,5,7] (fT (Ag2 (a) (b) (by exact G1 ha (by decide)) (by exact G1 hb (by decide))) (oA 2 (.tup [.agg [.sl (List.map c45 (A0 a b).1.adds),.sl (List.map c3 (A0 a b).1.gone.vec),.sl (List.map B7 (A0 a b).1.gone.cloud),.sl (List.map c81 (A0 a b).1.recs)],.i .i64 ((A0 a b).2)]) z0)) ?_
 refine sn<|sq<|rG cx [3,4,5,7,8,9,10] [3,4,5,7,9] (fT (Ag2 (b) (a) (by exact G1 hb (by decide)) (by exact G1 ha (by decide))) (oA 2 (.tup [.agg [.sl (List.map c45 (A0 b a).1.adds),.sl (List.map c3 (A0 b a).1.gone.vec),.sl (List.map B7 (A0 b a).1.gone.cloud),.sl (List.map c81 (A0 b a).1.recs)],.i .i64 ((A0 b a).2)]) z0)) ?_
 refine sn<|sq<|sq<|B4 (σ':=⟨[(3,.ptr (3) (0) (0) (0)),(4,.ptr (4) (0) (0) (0)),(5,.ptr (5) (0) (0) (0)),(7,.ptr (7) (0) (0) (0)),(52,.b (decide (¬(A0 a b).2=0∨¬(A0 b a).2=0∨¬(A0 a b).1=(A0 b a).1∨¬I1 (A0 a b).1=0)))],[(3,⟨0,29,.var [.sl (List.map c45 a.adds),.sl (List.map c3 a.gone.vec),.sl (List.map B7 a.gone.cloud),.sl (List.map c81 a.recs)]⟩),(4,⟨0,29,.var [.sl (List.map c45 b.adds),.sl (List.map c3 b.gone.vec),.sl (List.map B7 b.gone.cloud),.sl (List.map c81 b.recs)]⟩),(5,⟨0,29,.var [.sl (List.map c45 c.adds),.sl (List.map c3 c.gone.vec),.sl (List.map B7 c.gone.cloud),.sl (List.map c81 c.recs)]⟩),(7,⟨0,29,.var [.sl (List.map c45 (A0 a b).1.adds),.sl (List.map c3 (A0 a b).1.gone.vec),.sl (List.map B7 (A0 a b).1.gone.cloud),.sl (List.map c81 (A0 a b).1.recs)]⟩)]⟩) ?_ ?_
 refine A4 (¬(A0 a b).2=0) (fun h2=>?_) (fun h2=>?_)
 refine rG cx [3,4,5,7,52] [3,4,5,7] (tT 1 (C4 h2:AV.b ((A0 a b).2 !=0)=AV.b true) (tD 16 true (¬(A0 a b).2=0∨¬(A0 b a).2=0∨¬(A0 a b).1=(A0 b a).1∨¬I1 (A0 a b).1=0) (by simp only [eq_false h2,tsl]) z0)) ?_
 exact⟨rfl,by kernel_rfl⟩
 refine A4 (¬(A0 b a).2=0) (fun h3=>?_) (fun h3=>?_)
 refine rG cx [3,4,5,7,52] [3,4,5,7] (tN 1 ((A0 a b).2) (0:Int) (tT 2 (A3 h2) (tT 4 (C4 h3:AV.b ((A0 b a).2 !=0)=AV.b true) (tT 16 (by first | (simp only [eq_false h2,eq_false h3,tsl];done) | simp_all:AV.b true=AV.b (decide (¬(A0 a b).2=0∨¬(A0 b a).2=0∨¬(A0 a b).1=(A0 b a).1∨¬I1 (A0 a b).1=0))) z0)))) ?_
 exact⟨rfl,by kernel_rfl⟩
 refine A4 (¬(A0 a b).1=(A0 b a).1) (fun h4=>?_) (fun h4=>?_)
 refine rg (A:=(AV.b ((A0 a b).2 !=0)=AV.b (decide ¬(A0 a b).2=0))∧_∧(AV.b ((A0 b a).2 !=0)=AV.b (decide ¬(A0 b a).2=0))∧_∧_∧_∧(AV.b true=AV.b (decide (¬(A0 a b).2=0∨¬(A0 b a).2=0∨¬(A0 a b).1=(A0 b a).1∨¬I1 (A0 a b).1=0)))) cx [(1,{ tell:=some (.b (decide ¬(A0 a b).2=0)) }),(2,{ tell:=some (.b (false)) }),(4,{ tell:=some (.b (decide ¬(A0 b a).2=0)) }),(5,{ tell:=some (.b (false)) }),(9,{ val:=some (.b (decide ((A0 a b).1=(A0 b a).1))),tell:=some (.b (false)) }),(16,{ tell:=some (.b (decide (¬(A0 a b).2=0∨¬(A0 b a).2=0∨¬(A0 a b).1=(A0 b a).1∨¬I1 (A0 a b).1=0))) })] [3,4,5,7,52] [3,4,5,7] ⟨(N4),(A3 h2),(N4),(A3 h3),(A3 h4),(Am7 ((A0 a b).1) ((A0 b a).1) (by exact sj.1)),(by first | (simp only [eq_false h2,eq_false h3,eq_false h4,tsl];done) | simp_all)⟩ ?_
 exact⟨rfl,by kernel_rfl⟩
 refine rG cx [3,4,5,7,52] [3,4,5,7] (tN 1 ((A0 a b).2) (0:Int) (tT 2 (A3 h2) (tN 4 ((A0 b a).2) (0:Int) (tT 5 (A3 h3) (fT (Am7 ((A0 a b).1) ((A0 b a).1) (by exact sj.1)) (tQ 10 ((A0 a b).1=(A0 b a).1) (tT 11 (A3 h4) (fT (B07 ((A0 a b).1) (by exact sj.1)) (tN 15 (I1 (A0 a b).1) (0:Int) (tT 16 (by first | (simp only [eq_false h2,eq_false h3,eq_false h4,tsl];done) | simp_all:AV.b (decide ¬I1 (A0 a b).1=0)=AV.b (decide (¬(A0 a b).2=0∨¬(A0 b a).2=0∨¬(A0 a b).1=(A0 b a).1∨¬I1 (A0 a b).1=0))) (oA 9 (.b (decide ((A0 a b).1=(A0 b a).1))) (oA 14 (.i .i64 (I1 (A0 a b).1)) z0)))))))))))) ?_
 exact⟨rfl,by kernel_rfl⟩
 refine sn<|dC (¬(A0 a b).2=0∨¬(A0 b a).2=0∨¬(A0 a b).1=(A0 b a).1∨¬I1 (A0 a b).1=0) (fun h5=>?_) fun h5=>?_
 refine sq<|rG cx [6] [] z0<|sn<|rT<|nR<|qR (.b (false)) (.eq ?g9);rotate_left
 refine sK<|sn<|sq<|rG cx [3,4,5,7,11,12] [3,4,5,7] (fT (Am4 (a) ((A0 a b).1) (by exact ga) (by exact gj)) (oA 2 (.tup [.b ((A8 a (A0 a b).1).1),.i .i64 ((A8 a (A0 a b).1).2)]) z0)) ?_
 refine sn<|sq<|rG cx [3,4,5,7,11,12,13,14] [3,4,5,7] (fT (Am4 (b) ((A0 a b).1) (by exact gb) (by exact gj)) (oA 2 (.tup [.b ((A8 b (A0 a b).1).1),.i .i64 ((A8 b (A0 a b).1).2)]) z0)) ?_
 refine sn<|sq<|sq<|B4 (σ':=⟨[(3,.ptr (3) (0) (0) (0)),(4,.ptr (4) (0) (0) (0)),(5,.ptr (5) (0) (0) (0)),(7,.ptr (7) (0) (0) (0)),(78,.b (decide (¬(A8 a (A0 a b).1).2=0∨¬(A8 b (A0 a b).1).2=0∨¬(A8 a (A0 a b).1).1=true∨¬(A8 b (A0 a b).1).1=true)))],[(3,⟨0,29,.var [.sl (List.map c45 a.adds),.sl (List.map c3 a.gone.vec),.sl (List.map B7 a.gone.cloud),.sl (List.map c81 a.recs)]⟩),(4,⟨0,29,.var [.sl (List.map c45 b.adds),.sl (List.map c3 b.gone.vec),.sl (List.map B7 b.gone.cloud),.sl (List.map c81 b.recs)]⟩),(5,⟨0,29,.var [.sl (List.map c45 c.adds),.sl (List.map c3 c.gone.vec),.sl (List.map B7 c.gone.cloud),.sl (List.map c81 c.recs)]⟩),(7,⟨0,29,.var [.sl (List.map c45 (A0 a b).1.adds),.sl (List.map c3 (A0 a b).1.gone.vec),.sl (List.map B7 (A0 a b).1.gone.cloud),.sl (List.map c81 (A0 a b).1.recs)]⟩)]⟩) ?_ ?_
 refine A4 (¬(A8 a (A0 a b).1).2=0) (fun h_7=>?_) (fun h_7=>?_)
 refine rG cx [3,4,5,7,78] [3,4,5,7] (tT 1 (C4 h_7:AV.b ((A8 a (A0 a b).1).2 !=0)=AV.b true) (tD 13 true (¬(A8 a (A0 a b).1).2=0∨¬(A8 b (A0 a b).1).2=0∨¬(A8 a (A0 a b).1).1=true∨¬(A8 b (A0 a b).1).1=true) (by simp only [eq_false h_7,tsl]) z0)) ?_
 exact⟨rfl,by kernel_rfl⟩
 refine A4 (¬(A8 b (A0 a b).1).2=0) (fun h_8=>?_) (fun h_8=>?_)
 refine rG cx [3,4,5,7,78] [3,4,5,7] (tN 1 ((A8 a (A0 a b).1).2) (0:Int) (tT 2 (A3 h_7) (tT 4 (C4 h_8:AV.b ((A8 b (A0 a b).1).2 !=0)=AV.b true) (tT 13 (by first | (simp only [eq_false h_7,eq_false h_8,tsl];done) | simp_all:AV.b true=AV.b (decide (¬(A8 a (A0 a b).1).2=0∨¬(A8 b (A0 a b).1).2=0∨¬(A8 a (A0 a b).1).1=true∨¬(A8 b (A0 a b).1).1=true))) z0)))) ?_
 exact⟨rfl,by kernel_rfl⟩
 refine A4 (¬(A8 a (A0 a b).1).1=true) (fun h_9=>?_) (fun h_9=>?_)
 refine rG cx [3,4,5,7,78] [3,4,5,7] (tN 1 ((A8 a (A0 a b).1).2) (0:Int) (tT 2 (A3 h_7) (tN 4 ((A8 b (A0 a b).1).2) (0:Int) (tT 5 (A3 h_8) (tT 7 (F4 h_9:AV.b (A8 a (A0 a b).1).1=AV.b false) (tT 13 (by first | (simp only [eq_false h_7,eq_false h_8,eq_false h_9,tsl];done) | simp_all:AV.b true=AV.b (decide (¬(A8 a (A0 a b).1).2=0∨¬(A8 b (A0 a b).1).2=0∨¬(A8 a (A0 a b).1).1=true∨¬(A8 b (A0 a b).1).1=true))) z0)))))) ?_
 exact⟨rfl,by kernel_rfl⟩
 refine rG cx [3,4,5,7,78] [3,4,5,7] (tN 1 ((A8 a (A0 a b).1).2) (0:Int) (tT 2 (A3 h_7) (tN 4 ((A8 b (A0 a b).1).2) (0:Int) (tT 5 (A3 h_8) (tO 8 ((A8 a (A0 a b).1).1) (tT 9 (A3 h_9) (tO 12 ((A8 b (A0 a b).1).1) (tT 13 (by first | (simp only [eq_false h_7,eq_false h_8,eq_false h_9,tsl];done) | simp_all:AV.b (decide ¬(A8 b (A0 a b).1).1=true)=AV.b (decide (¬(A8 a (A0 a b).1).2=0∨¬(A8 b (A0 a b).1).2=0∨¬(A8 a (A0 a b).1).1=true∨¬(A8 b (A0 a b).1).1=true))) z0)))))))) ?_
 exact⟨rfl,by kernel_rfl⟩
 refine sn<|dC (¬(A8 a (A0 a b).1).2=0∨¬(A8 b (A0 a b).1).2=0∨¬(A8 a (A0 a b).1).1=true∨¬(A8 b (A0 a b).1).1=true) (fun h10=>?_) fun h10=>?_
 refine sq<|rG cx [6] [] z0<|sn<|rT<|nR<|qR (.b (false)) (.eq ?g14);rotate_left
 refine sK<|sn<|sq<|rG cx [3,4,5,7,15,8] [3,4,5,7,15] (fT (Ag2 ((A0 a b).1) (a) (by exact G1 sj (by decide)) (by exact G1 ha (by decide))) (oA 2 (.tup [.agg [.sl (List.map c45 (A0 (A0 a b).1 a).1.adds),.sl (List.map c3 (A0 (A0 a b).1 a).1.gone.vec),.sl (List.map B7 (A0 (A0 a b).1 a).1.gone.cloud),.sl (List.map c81 (A0 (A0 a b).1 a).1.recs)],.i .i64 ((A0 (A0 a b).1 a).2)]) z0)) ?_
 refine sn<|sq<|sq<|B4 (σ':=⟨[(3,.ptr (3) (0) (0) (0)),(4,.ptr (4) (0) (0) (0)),(5,.ptr (5) (0) (0) (0)),(7,.ptr (7) (0) (0) (0)),(92,.b (decide (¬(A0 (A0 a b).1 a).2=0∨¬(A0 (A0 a b).1 a).1=(A0 a b).1)))],[(3,⟨0,29,.var [.sl (List.map c45 a.adds),.sl (List.map c3 a.gone.vec),.sl (List.map B7 a.gone.cloud),.sl (List.map c81 a.recs)]⟩),(4,⟨0,29,.var [.sl (List.map c45 b.adds),.sl (List.map c3 b.gone.vec),.sl (List.map B7 b.gone.cloud),.sl (List.map c81 b.recs)]⟩),(5,⟨0,29,.var [.sl (List.map c45 c.adds),.sl (List.map c3 c.gone.vec),.sl (List.map B7 c.gone.cloud),.sl (List.map c81 c.recs)]⟩),(7,⟨0,29,.var [.sl (List.map c45 (A0 a b).1.adds),.sl (List.map c3 (A0 a b).1.gone.vec),.sl (List.map B7 (A0 a b).1.gone.cloud),.sl (List.map c81 (A0 a b).1.recs)]⟩)]⟩) ?_ ?_
 refine A4 (¬(A0 (A0 a b).1 a).2=0) (fun h12=>?_) (fun h12=>?_)
 refine rG cx [3,4,5,7,92] [3,4,5,7] (tT 1 (C4 h12:AV.b ((A0 (A0 a b).1 a).2 !=0)=AV.b true) (tD 7 true (¬(A0 (A0 a b).1 a).2=0∨¬(A0 (A0 a b).1 a).1=(A0 a b).1) (by simp only [eq_false h12,tsl]) z0)) ?_
 exact⟨rfl,by kernel_rfl⟩
 refine rG cx [3,4,5,7,92] [3,4,5,7] (tN 1 ((A0 (A0 a b).1 a).2) (0:Int) (tT 2 (A3 h12) (fT (Am7 ((A0 (A0 a b).1 a).1) ((A0 a b).1) (by exact(Y3 sj ha).1)) (tQ 6 ((A0 (A0 a b).1 a).1=(A0 a b).1) (tT 7 (by first | (simp only [eq_false h12,tsl];done) | simp_all:AV.b (decide ¬(A0 (A0 a b).1 a).1=(A0 a b).1)=AV.b (decide (¬(A0 (A0 a b).1 a).2=0∨¬(A0 (A0 a b).1 a).1=(A0 a b).1))) (oA 5 (.b (decide ((A0 (A0 a b).1 a).1=(A0 a b).1))) z0)))))) ?_
 exact⟨rfl,by kernel_rfl⟩
 refine sn<|dC (¬(A0 (A0 a b).1 a).2=0∨¬(A0 (A0 a b).1 a).1=(A0 a b).1) (fun h13=>?_) fun h13=>?_
 refine sq<|rG cx [6] [] z0<|sn<|rT<|nR<|qR (.b (false)) (.eq ?g18);rotate_left
 refine sK<|sn<|sq<|sq<|rG cx [3,4,5,7,95] [3,4,5,7] (fT (Am6 (c) (by exact hc.1)) (tN 2 (I1 c) (0:Int) (oA 1 (.i .i64 (I1 c)) z0))) ?_
 refine sn<|dC (¬I1 c=0) (fun h14=>?_) fun h14=>?_
 refine sq<|rG cx [6] [] z0<|sn<|rT<|nR ?_
 exact A3f (r:=.b (true)) (obl:=[]) (by kernel_rfl) trivial (B8.refl _)
 refine sK<|sn<|sq<|rG cx [4,5,7,11,12] [4,5,7] (fT (Am4 (a) (c) (by exact ga) (by exact gc)) (oA 2 (.tup [.b ((A8 a c).1),.i .i64 ((A8 a c).2)]) z0)) ?_
 refine sn<|sq<|rG cx [5,7,11,12,13,14] [5,7] (fT (Am4 (b) (c) (by exact gb) (by exact gc)) (oA 2 (.tup [.b ((A8 b c).1),.i .i64 ((A8 b c).2)]) z0)) ?_
 refine sn<|sq<|rG cx [11,12,13,14,16,17] [] (fT (Am4 ((A0 a b).1) (c) (by exact gj) (by exact gc)) (oA 2 (.tup [.b ((A8 (A0 a b).1 c).1),.i .i64 ((A8 (A0 a b).1 c).2)]) z0)) ?_
 refine sn<|sq<|B4 (σ':=⟨[(6,.b (decide ((A8 a c).2=0∧(A8 b c).2=0∧(A8 (A0 a b).1 c).2=0∧((A8 a c).1=true∧(A8 (A0 a b).1 c).1=(A8 b c).1∨¬(A8 a c).1=true∧(A8 (A0 a b).1 c).1=false))))],[]⟩) ?_ ?_
 refine A4 ((A8 a c).2=0) (fun h_16=>?_) (fun h_16=>?_)
 refine A4 ((A8 b c).2=0) (fun h_17=>?_) (fun h_17=>?_)
 refine A4 ((A8 (A0 a b).1 c).2=0) (fun h_18=>?_) (fun h_18=>?_)
 refine A4 ((A8 a c).1=true) (fun h_19=>?_) (fun h_19=>?_)
 refine rG cx [6] [] (tT 1 (A6 h_16) (tT 4 (A6 h_17) (tT 8 (A6 h_18) (tT 12 (I7 h_19) (tT 16 (A07:AV.b ((A8 (A0 a b).1 c).1 ==(A8 b c).1)=AV.b (decide ((A8 (A0 a b).1 c).1=(A8 b c).1))) (tD 18 (decide ((A8 (A0 a b).1 c).1=(A8 b c).1)) ((A8 a c).2=0∧(A8 b c).2=0∧(A8 (A0 a b).1 c).2=0∧((A8 a c).1=true∧(A8 (A0 a b).1 c).1=(A8 b c).1∨¬(A8 a c).1=true∧(A8 (A0 a b).1 c).1=false)) (by simp only [eq_true h_16,eq_true h_17,eq_true h_18,eq_true h_19,tsl]) z0)))))) ?_
 exact⟨rfl,by kernel_rfl⟩
 refine rG cx [6] [] (tT 1 (A6 h_16) (tT 4 (A6 h_17) (tT 8 (A6 h_18) (tT 12 (F4 h_19:AV.b (A8 a c).1=AV.b false) (tT 16 (A07:AV.b ((A8 (A0 a b).1 c).1 == false)=AV.b (decide ((A8 (A0 a b).1 c).1=false))) (tD 18 (decide ((A8 (A0 a b).1 c).1=false)) ((A8 a c).2=0∧(A8 b c).2=0∧(A8 (A0 a b).1 c).2=0∧((A8 a c).1=true∧(A8 (A0 a b).1 c).1=(A8 b c).1∨¬(A8 a c).1=true∧(A8 (A0 a b).1 c).1=false)) (by simp only [eq_true h_16,eq_true h_17,eq_true h_18,eq_false h_19,tsl]) z0)))))) ?_
 exact⟨rfl,by kernel_rfl⟩
 refine rG cx [6] [] (tT 1 (A6 h_16) (tT 4 (A6 h_17) (tT 8 (A3 h_18) (tD 18 false ((A8 a c).2=0∧(A8 b c).2=0∧(A8 (A0 a b).1 c).2=0∧((A8 a c).1=true∧(A8 (A0 a b).1 c).1=(A8 b c).1∨¬(A8 a c).1=true∧(A8 (A0 a b).1 c).1=false)) (by simp only [eq_true h_16,eq_true h_17,eq_false h_18,tsl]) z0)))) ?_
 exact⟨rfl,by kernel_rfl⟩
 refine rG cx [6] [] (tT 1 (A6 h_16) (tT 4 (A3 h_17) (tD 18 false ((A8 a c).2=0∧(A8 b c).2=0∧(A8 (A0 a b).1 c).2=0∧((A8 a c).1=true∧(A8 (A0 a b).1 c).1=(A8 b c).1∨¬(A8 a c).1=true∧(A8 (A0 a b).1 c).1=false)) (by simp only [eq_true h_16,eq_false h_17,tsl]) z0))) ?_
 exact⟨rfl,by kernel_rfl⟩
 refine rG cx [6] [] (tT 1 (A3 h_16) (tD 18 false ((A8 a c).2=0∧(A8 b c).2=0∧(A8 (A0 a b).1 c).2=0∧((A8 a c).1=true∧(A8 (A0 a b).1 c).1=(A8 b c).1∨¬(A8 a c).1=true∧(A8 (A0 a b).1 c).1=false)) (by simp only [eq_false h_16,tsl]) z0)) ?_
 exact⟨rfl,by kernel_rfl⟩
 refine sn<|rT<|qR (.b (decide ((A8 a c).2=0∧(A8 b c).2=0∧(A8 (A0 a b).1 c).2=0∧((A8 a c).1=true∧(A8 (A0 a b).1 c).1=(A8 b c).1∨¬(A8 a c).1=true∧(A8 (A0 a b).1 c).1=false)))) (.eq ?g26);rotate_left
 case g9 =>
  rw[J h0,J2 h0]at h5
  rcases h5 with h5 | h5 | h5 | h5
  ·exact absurd rfl h5
  ·exact absurd rfl h5
  ·exact absurd rfl h5
  ·exact absurd (K6.2 (E0 (W h0)).2.1) h5
 case g14 =>
  have o:=(E0 (W h0)).2.1
  rw[J h0,Ag8 (W h0).1 o (A5r (W h0)).1,Ag8 (W h0).2.1 o (A5r (W h0)).2]at h10
  rcases h10 with h10 | h10 | h10 | h10 <;> exact absurd rfl h10
 case g18 =>
  have g:=B0r (W h0)
  rw[J h0,(E0 g.1).1,g.2]at h13
  rcases h13 with h13 | h13 <;> exact absurd rfl h13
 case g26 =>
  have oc:okF c=true:=K6.1 (Classical.not_not.1 h14)
  have o:=(E0 (W h0)).2.1
  have wa:=A5q (W h0).1 oc
  have wb:=A5q (W h0).2.1 oc
  have wf:=A5q o oc
  rw[J h0]
  refine congrArg AV.b (decide_eq_true ⟨wa.1,wb.1,wf.1,?_⟩)
  by_cases x:B0q a c
  ·refine .inl ⟨wa.2.2 x,?_⟩
   by_cases y:B0q b c
   ·rw[wb.2.2 y];exact wf.2.2 ((A3x (W h0)).2 ⟨x,y⟩)
   ·rw[Bool.eq_false_iff.2 fun m=>y (wb.2.1 m)]
    exact Bool.eq_false_iff.2 fun m=>y ((A3x (W h0)).1 (wf.2.1 m)).2
  ·exact .inr ⟨fun m=>x (wa.2.1 m),Bool.eq_false_iff.2 fun m=>x ((A3x (W h0)).1 (wf.2.1 m)).1⟩
end Go.Proofs.YtaiepnaokhpmcaaGreat
namespace Go.E
open Go.RowKit Go.ChangeShapes Go.WideShapes Go.ChangeAt
def TyA(T:Tab)(L n t:Nat)(av:AV):Prop :=
 match look T t with
 | some ti=>if ti.isAgg then ∃ cs,av=.agg cs∧TyC T L n t cs else TyC T L n t [av]
 | none=>False
def B8q(T:Tab)(L n:Nat):List Nat→List AV→Prop
 | [],[]=>True
 | t :: ts,a :: aL=>TyA T L n t a∧B8q T L n ts aL
 | _,_=>False
section
variable {P : Program} {T : Tab} {H : Type} {enc : TypeId × Value → H} {W : World} {spare : Nat → Bool} {held : Bool}
theorem A6a(hT:TabOk P T){n t:Nat}{ti:TI}(hti:look T t=some ti)(hp:N8 T n t=true)(hg:ti.isAgg=false){r:Reach}{base:Nat}{v:Value}(hv:Value.okWide P W r base t v):v.oneCell'=true∨∃ x,v=x∧v.cells=#[v]:=by
 have hu:=(hT t ti hti).1
 unfold Value.okWide at hv
 rw[hu]at hv
 cases n with
 | zero=>simp [N8]at hp
 | succ n =>
  unfold N8 at hp
  rw[hti]at hp
  simp only at hp
  unfold TI.isAgg at hg
  cases hd:ti.desc with
  | bool=>rw[hd]at hv;simp only [Cell.okWide,hu,hd,Cell.ok]at hv;cases v <;> simp_all [Value.oneCell',Value.cells]
  | int k=>rw[hd]at hv;simp only [Cell.okWide,hu,hd,Cell.ok]at hv;cases v <;> simp_all [Value.oneCell',Value.cells]
  | string=>rw[hd]at hv;simp only [Cell.okWide,hu,hd,Cell.ok]at hv;cases v <;> simp_all [Value.oneCell',Value.cells]
  | slice e=>rw[hd]at hv;simp only [Cell.okWide,hu,hd,Cell.ok]at hv;cases v <;> simp_all [Value.oneCell',Value.cells]
  | struct fs=>rw[hd]at hg;simp at hg
  | array k e=>rw[hd]at hg;simp at hg
  | _=>rw[hd]at hp;first | exact absurd hp Bool.false_ne_true | cases hp
theorem B8r(hT:TabOk P T){n t:Nat}(hp:N8 T n t=true){r:Reach}{base:Nat}{v:Value}{d:DataW H}{ps:List MemPlace}(hv:Value.okWide P W r base t v)
  (hd:DataW.Trod enc P W 0 spare held t v d ps) (hw:∀ m∈d.weights P t,m≤reachBytes) {L:Nat} (hL:bulkD d≤L):∃ av,RelV0 (fun k=>k < W.heap.size) W av v∧TyA T L n t av:=by
 obtain⟨ti,hti⟩:=U9 hp
 obtain⟨fuel,hf⟩:=hd
 obtain⟨avs,hc,hty⟩:=B6a hT n t hp fuel _ _ _ hf hw L hL
 by_cases hg:ti.isAgg=true
 ·have hu:=(hT t ti hti).1
  have hv':=hv
  unfold Value.okWide at hv'
  rw[hu]at hv'
  have:∃ cs,v=.agg cs:=by
   unfold TI.isAgg at hg
   split at hg
   ·rename_i fs hd;rw[hd]at hv';obtain⟨cs,h,_⟩:=hv';exact⟨cs,h⟩
   ·rename_i k e hd;rw[hd]at hv';obtain⟨cs,h,_⟩:=hv';exact⟨cs,h⟩
   ·cases hg
  obtain⟨cs,rfl⟩:=this
  refine⟨.agg avs,?_,by unfold TyA;rw[hti];simp only [hg,if_true];exact⟨avs,rfl,hty⟩⟩
  have:=RelV0.agg (S:=fun k=>k < W.heap.size) (w:=W) avs cs.toList (by rw[hc.1];simp [Value.cells]) (fun u hu=>hc.2.1 u (by simpa [Value.cells]using hu)) (fun j a u ha hu=>hc.2.2 j a u ha (by simpa [Value.cells]using hu))
  simpa using this
 ·have hg':ti.isAgg=false:=by simpa using hg
  have h1:v.cells.toList=[v]:=by
   rcases A6a hT hti hp hg' hv with h | ⟨_,_,h⟩
   ·cases v <;> simp_all [Value.oneCell',Value.cells]
   ·rw[h]
  rw[h1]at hc
  obtain⟨c1,_,c3⟩:=hc
  match avs,c1,c3,hty with
  | [a],_,c3,hty=>exact⟨a,c3 0 a v rfl rfl,by unfold TyA;rw[hti];simp only [hg',Bool.false_eq_true,if_false];exact hty⟩
theorem Ag9(hT:TabOk P T){L n:Nat}{r:Reach}{base:Nat}:∀(ts:List Nat) (vs:List Value) (ds:List (DataW H)) (ps:List MemPlace),(∀ t∈ts,N8 T n t=true) →
  (∀(j:Nat) t v,ts[j]?=some t→vs[j]?=some v→Value.okWide P W r base t v)→DataW.TrodAll enc P W 0 spare held ts vs ds ps→(∀ m∈DataW.weightsEach P ts ds,m≤reachBytes)→bulkDs ds≤L →
  ∃ avs:List AV,avs.length=vs.length∧(∀(j:Nat) (a:AV) (u:Value),avs[j]?=some a→vs[j]?=some u→RelV0 (fun k=>k < W.heap.size) W a u)∧B8q T L n ts avs∧ds.length=ts.length
 | [],[],[],ps,_,_,_,_,_=>⟨[],rfl,fun j a u ha=>by simp at ha,trivial,rfl⟩
 | t :: ts,v :: vs,d :: ds,ps,hp,hv,hA,hw,hL=>by
  simp only [bulkDs]at hL
  obtain⟨p,q,h1,h2,_⟩:=hA
  obtain⟨a,e1,e2⟩:=B8r hT (hp t (by simp)) (hv 0 t v rfl rfl) h1 (fun m hm=>hw m (by simp only [DataW.weightsEach,List.mem_append];exact .inl hm)) (L:=L) (by omega)
  obtain⟨aL,f1,f2,f3,f4⟩:=Ag9 (L:=L) hT ts vs ds q (fun t ht=>hp t (List.mem_cons_of_mem _ ht)) (fun j t v ht hv'=>hv (j+1) t v (by simpa using ht) (by simpa using hv')) h2 (fun m hm=>hw m (by simp only [DataW.weightsEach,List.mem_append];exact .inr hm)) (by omega)
  refine⟨a :: aL,by simp [f1],fun j b u hb hu=>?_,⟨e2,f3⟩,by simp [f4]⟩
  cases j with
  | zero=>simp at hb hu;subst hb hu;exact e1
  | succ j=>exact f2 j b u (by simpa using hb) (by simpa using hu)
 | [],_ :: _,_,_,_,_,hA,_,_=>hA.elim
 | [],[],_ :: _,_,_,_,hA,_,_=>hA.elim
 | _ :: _,[],_,_,_,_,hA,_,_=>hA.elim
 | _ :: _,_ :: _,[],_,_,_,hA,_,_=>hA.elim
theorem A2j(hl:laidOutB P=true){W':World}(hb:Below W.heap.size W W'):∀(ts:List Nat) (vs:List Value) (ds:List (DataW H)) (ps:List MemPlace),(∀ t∈ts,P.readableRec t=true∧t < P.types.size) →
  (∀ x∈ps,x.block < W.heap.size)→DataW.TrodAll enc P W 0 (fun _=>true) true ts vs ds ps→DataW.TrodAll enc P W' 0 (fun b=>decide (b < W.heap.size)) true ts vs ds ps
 | [],[],[],ps,_,_,h=>h
 | t :: ts,v :: vs,d :: ds,ps,hr,hlt,h=>by
  obtain⟨p,q,h1,h2,rfl⟩:=h
  exact⟨p,q,Below.trod hl (hr t (by simp)).1 (hr t (by simp)).2 h1 hb (fun x hx=>hlt x (List.mem_append_left _ hx)),
   A2j hl hb ts vs ds q (fun t ht=>hr t (List.mem_cons_of_mem _ ht)) (fun x hx=>hlt x (List.mem_append_right _ hx)) h2,rfl⟩
 | [],_ :: _,_,_,_,_,hA=>hA.elim
 | [],[],_ :: _,_,_,_,hA=>hA.elim
 | _ :: _,[],_,_,_,_,hA=>hA.elim
 | _ :: _,_ :: _,[],_,_,_,hA=>hA.elim
end
theorem B8s{T:Tab}{C:Checked}{f:FuncId}{fn:Func}{s:ChangeSpec}{H:Type}{enc:TypeId×Value→H}(ts:List Nat)(tb L n:Nat)
  (hT:TabOk C.prog T) (hl:laidOutB C.prog=true)
  (hts:fn.params=ts.toArray) (htb:fn.resultTypes=#[tb]) (hub:C.prog.underlying tb=some .bool) (hpl:ts.all (fun t=>N8 T n t && C.prog.readableRec t && Nat.blt t C.prog.types.size)=true)
  (hvars:s.vars=[]) (hspec:∀ ds:List (DataW H),ds.length=ts.length→s.fn H (ds++[])={ results:=[.lit (.bool true)],args:=ds })
  (hcon:∀ avs,B8q T L n ts avs→Con C.prog f avs (.b true)) {W:World} {base:Nat} {args:Array Value} {ds gs:List (DataW H)} {before:List MemPlace} {us:List Nat}
  (hval:∀(j:Nat) t v,fn.params[j]?=some t→args[j]?=some v→Value.okWide C.prog W .any base t v) (hW:DataW.Whole enc C.prog fn.params.toList s.vars false W args.toList ds gs before)
  (hsz:(DataW.weightsEach C.prog (fn.params.toList++us) (ds++gs)).all (·≤reachBytes)=true) (hbk:bulkDs (ds++gs)≤L) :
  Calls C.prog f args W fun e W'=>∃ v,e=.returned v∧s.post enc C.prog fn false true false false W args v W':=by
 have hW':=hW
 obtain⟨p,q,hA,hV,rfl,_,_⟩:=hW
 rw[hvars]at hV
 obtain⟨rfl,rfl⟩:=trodVars_none hV
 rw[List.append_nil]at hW' hbk
 have hpars:fn.params.toList=ts:=by rw[hts]
 have hA':DataW.TrodAll enc C.prog W 0 (fun _=>true) true ts args.toList ds p:=by rw[← hpars];exact hA
 have hpl':∀ t∈ts,N8 T n t=true∧C.prog.readableRec t=true∧t < C.prog.types.size:=by
  intro t ht
  have:=List.all_eq_true.1 hpl t ht
  simp only [Bool.and_eq_true]at this
  exact⟨this.1.1,this.1.2,by simpa using this.2⟩
 have hw:∀ m∈DataW.weightsEach C.prog ts ds,m≤reachBytes:=by
  intro m hm
  have hsz':=hsz
  rw[List.append_nil,hpars]at hsz'
  have hsub:∀(ts us:List Nat) (ds:List (DataW H)),∀ m∈DataW.weightsEach C.prog ts ds,m∈DataW.weightsEach C.prog (ts++us) ds:=by
   intro ts us ds
   induction ts generalizing ds with
   | nil=>intro m hm;cases ds <;> simp [DataW.weightsEach]at hm
   | cons t ts ih =>
    intro m hm
    cases ds with
    | nil=>simp [DataW.weightsEach]at hm
    | cons d ds =>
     simp only [DataW.weightsEach,List.cons_append,List.mem_append]at hm ⊢
     rcases hm with hm | hm
     ·exact .inl hm
     ·exact .inr (ih ds m hm)
  have:=List.all_eq_true.1 hsz' m (hsub ts _ ds m hm)
  simpa using this
 obtain⟨avs,h1,h2,h3,h4⟩:=Ag9 hT ts args.toList ds p (fun t ht=>(hpl' t ht).1) (fun j t v ht hv=>hval j t v (by rw[hts];simpa using ht) (by simpa using hv)) hA' hw hbk
 have hlt:∀ x∈p,x.block < W.heap.size:=fun x hx=>hW'.lt x hx
 have hsp:=hspec ds h4
 have:=(hcon avs h3).2 W (fun k=>k < W.heap.size) args.toList (fun _ h=>h) (by rw[h1]) h2
 rw[Array.toArray_toList]at this
 refine this.mono fun e W' ⟨v,he,hr,hb⟩=>?_
 cases hr with
 | b =>
  refine⟨_,he,ds,[],p,[],p,[],hW',?_,?_,?_,hb.frame _,fun h=>by cases h⟩
  ·rw[hsp,htb]
   exact trodAll_mk1 (shut_bool hub true)
  ·rw[hsp,hpars]
   exact A2j hl hb ts args.toList ds p (fun t ht=>(hpl' t ht).2) hlt hA'
  ·rw[hsp,hvars]
   rfl
theorem M4{T:Tab}{C:Checked}{os:Os}{f:FuncId}{fn:Func}{s:ChangeSpec}{u:OpenSpec}{k:(H:Type)→List (DataW H)→Bool}{conds:List PathCond}{H:Type}{enc:TypeId×Value→H}(F:Stop.Interp)(ts:List Nat)(tb L n:Nat)
  (hu:u={ OpenSpec.ofChange s with cond:=some k }) (hk:∀ ds:List (DataW H),k H ds=true→bulkDs ds≤L)
  (hT:TabOk C.prog T) (hl:laidOutB C.prog=true) (own:ownKnob C.prog.godebug=none) (started:os.Started) (noInit:C.prog.inits.idxOf? f=none) (hfn:C.prog.funcs[f]?=some fn)
  (hts:fn.params=ts.toArray) (htb:fn.resultTypes=#[tb]) (hub:C.prog.underlying tb=some .bool) (hpl:ts.all (fun t=>N8 T n t && C.prog.readableRec t && Nat.blt t C.prog.types.size)=true)
  (hvars:s.vars=[]) (hspec:∀ ds:List (DataW H),ds.length=ts.length→s.fn H (ds++[])={ results:=[.lit (.bool true)],args:=ds })
  (witness:∃(w:World) (tape:Tape) (i:Input),w.os=os∧(w.forCall tape i).Shaped C.prog∧i.vars=[]∧Input.okWide C.prog (w.forCall tape i) .any w.heap.size f i ∧
   u.pre6 enc C.prog fn conds false (w.forCall tape i).memory i.args∧({}:Assume).holds C.prog (lone (Frame.enter C.prog f i.args .normal) [] (w.forCall tape i)))
  (hcon:∀ avs,B8q T L n ts avs→Con C.prog f avs (.b true)) :
  ReturnsInHanded {} C os f .any (u.pre6 enc C.prog fn conds false) ((u.at F).post enc C.prog fn false true false false):=by
 subst hu
 refine returnsInHanded_of_cond_sized (k:=k) rfl own started noInit hfn witness ?_
 intro W base args ds gs before hval hW _ hkk hsz _
 exact B8s ts tb L n hT hl hts htb hub hpl hvars hspec hcon hval hW hsz (hk _ hkk)
theorem V7{α:Type}{g:α→List AV}{Q:α→Prop}{C:List AV→Prop}(h:∀ r,C r→∃ x,r=g x∧Q x):∀(rows:List (List AV)),(∀ r∈rows,C r)→∃ xs:List α,rows=xs.map g∧∀ x∈xs,Q x
 | [],_=>⟨[],rfl,fun x hx=>by simp at hx⟩
 | r :: rows,hr=>by
  obtain⟨x,h1,h2⟩:=h r (hr r (by simp))
  obtain⟨xs,h3,h4⟩:=V7 h rows fun q hq=>hr q (List.mem_cons_of_mem _ hq)
  refine⟨x :: xs,by rw[h1,h3];rfl,fun y hy=>?_⟩
  rcases List.mem_cons.1 hy with rfl | hy
  ·exact h2
  ·exact h4 y hy
end Go.E
namespace Go.Proofs.YtaiepnaokhpmcaaGreat
open Go.E
set_option maxRecDepth 100000
set_option maxHeartbeats 4000000
open Go.ChangeShapes Go.WideShapes Go.ChangeAt Go.RowKit Go
theorem Tryz.own:Go.ownKnob Tryz.prog.godebug=none:=by kernel_rfl
theorem Tryz.laidOut:laidOutB Tryz.prog=true:=by kernel_rfl
def inr(n:Int):Prop:=-9223372036854775808≤n∧n≤9223372036854775807
theorem ty3{L n:Nat}{cs:List AV}(h:TyC tab L (n+1) 3 cs):∃ x,cs=c3 x∧inr x:=by
 obtain⟨x,rfl,h1,h2⟩:=h
 exact⟨x,rfl,h1,h2⟩
theorem ty43{L n:Nat}{cs:List AV}(h:TyC tab L (n+2) 43 cs):∃ d:Dot,cs=c43 d∧inr d.rep∧inr d.num:=by
 obtain⟨a,b,rfl,ha,c,d,rfl,hc,rfl⟩:=h
 obtain⟨x,rfl,hx⟩:=ty3 ha
 obtain⟨y,rfl,hy⟩:=ty3 hc
 exact⟨⟨x,y⟩,rfl,hx,hy⟩
theorem ta43{L:Nat}{a:AV}(h:TyA tab L 9 43 a):∃ x:Dot,a=.agg (c43 x)∧inr x.rep∧inr x.num:=by
 obtain⟨cs,rfl,h2⟩:=(show ∃ cs,a=.agg cs∧TyC tab L 9 43 cs from h)
 obtain⟨d,rfl,k⟩:=ty43 (L:=L) (n:=7) h2
 exact⟨d,rfl,k⟩
theorem ty9{L n:Nat}{cs:List AV}(h:TyC tab L (n+1) 9 cs):∃ s:ByteArray,cs=[.s s]∧s.size≤140737488351232:=by
 obtain⟨s,rfl,_,h2,_⟩:=h
 exact⟨s,rfl,h2⟩
theorem ty104{L n:Nat}{cs:List AV}(h:TyC tab L (n+2) 104 cs):∃ d:Span,cs=B7 d∧inr d.rep∧inr d.lo∧inr d.hi:=by
 obtain⟨a,b,rfl,ha,c,d,rfl,hc,e,f,rfl,he,rfl⟩:=h
 obtain⟨x,rfl,hx⟩:=ty3 ha
 obtain⟨y,rfl,hy⟩:=ty3 hc
 obtain⟨z,rfl,hz⟩:=ty3 he
 exact⟨⟨x,y,z⟩,rfl,hx,hy,hz⟩
def inE(e:Entry):Prop:=inr e.dot.rep∧inr e.dot.num∧e.sku.size≤140737488351232∧inr e.qty
theorem ty45{L n:Nat}{cs:List AV}(h:TyC tab L (n+3) 45 cs):∃ e:Entry,cs=c45 e∧inE e:=by
 obtain⟨a,b,rfl,ha,c,d,rfl,hc,e,f,rfl,he,rfl⟩:=h
 obtain⟨x,rfl,hx⟩:=ty43 ha
 obtain⟨y,rfl,hy⟩:=ty9 hc
 obtain⟨z,rfl,hz⟩:=ty3 he
 exact⟨⟨x,y,z⟩,rfl,hx.1,hx.2,hy,hz⟩
theorem ty22{L n:Nat}{cs:List AV}(h:TyC tab L (n+4) 22 cs):∃ xs:List Entry,cs=[.sl (xs.map c45)]∧((∀ x∈xs,inE x)∧xs.length*40≤140737488351232)∧xs.length≤L:=by
 obtain⟨rows,rfl,h1,h2,hL,h3⟩:=h
 obtain⟨xs,rfl,hx⟩:=V7 (fun r hr=>ty45 hr) rows h3
 exact⟨xs,rfl,⟨hx,by rw[List.length_map]at h2;exact h2⟩,by rw[List.length_map]at hL;exact hL⟩
mutual
theorem bulk_eq {H : Type} : ∀ d : DataW H, Rows.uptoBulk d = bulkD d
  | .lit l => by cases l <;> simp [Rows.uptoBulk, bulkD]
  | .nil => by simp [Rows.uptoBulk, bulkD]
  | .ptr d => by simp only [Rows.uptoBulk, bulkD, bulk_eq d]
  | .slice elems spare => by simp only [Rows.uptoBulk, bulkD, bulks_eq elems, bulks_eq spare]
  | .agg parts => by simp only [Rows.uptoBulk, bulkD, bulks_eq parts]
  | .iface _ d => by simp only [Rows.uptoBulk, bulkD, bulk_eq d]
  | .map entries => by simp only [Rows.uptoBulk, bulkD, bulkm_eq entries]
  | .held _ => by simp [Rows.uptoBulk, bulkD]
theorem bulks_eq {H : Type} : ∀ l : List (DataW H), Rows.uptoBulkAll l = bulkDs l
  | [] => by simp [Rows.uptoBulkAll, bulkDs]
  | d :: r => by simp only [Rows.uptoBulkAll, bulkDs, bulk_eq d, bulks_eq r]
theorem bulkm_eq {H : Type} : ∀ l : List (Lit × DataW H), Rows.uptoBulkEntries l = bulkDm l
  | [] => by simp [Rows.uptoBulkEntries, bulkDm]
  | x :: r => by simp only [Rows.uptoBulkEntries, bulkDm, bulke_eq x, bulkm_eq r]
theorem bulke_eq {H : Type} : ∀ x : Lit × DataW H, Rows.uptoBulkEntry x = bulkDe x
  | (l, d) => by cases l <;> simp only [Rows.uptoBulkEntry, bulkDe, bulk_eq d]
end
theorem A0m{H:Type}(ds:List (DataW H))(h:Rows.uptoSmall H ds=true):bulkDs ds≤1048576:=by
 rw[← bulks_eq]
 exact of_decide_eq_true h
end Go.Proofs.YtaiepnaokhpmcaaGreat
namespace Go.Proofs.YtaiepnaokhpmcaaGreat
open Go.E
set_option maxRecDepth 100000
set_option maxHeartbeats 4000000
def inPL(L:Nat)(p:Past):Prop:=szP p∧p.cloud.length≤L∧p.vec.length≤L
theorem ly23{L n:Nat}{cs:List AV}(h:TyC tab L (n+2) 23 cs):∃ xs:List Int,cs=c23 xs∧xs.length*8≤140737488351232∧xs.length≤L:=by
 obtain⟨rows,rfl,h1,h2,hL,h3⟩:=h
 obtain⟨xs,rfl,hx⟩:=V7 (fun r hr=>ty3 hr) rows h3
 exact⟨xs,rfl,by rw[List.length_map]at h2;exact h2,by rw[List.length_map]at hL;exact hL⟩
theorem ly24{L n:Nat}{cs:List AV}(h:TyC tab L (n+3) 24 cs):∃ xs:List Span,cs=[.sl (xs.map B7)]∧xs.length*24≤140737488351232∧xs.length≤L:=by
 obtain⟨rows,rfl,h1,h2,hL,h3⟩:=h
 obtain⟨xs,rfl,hx⟩:=V7 (fun r hr=>ty104 hr) rows h3
 exact⟨xs,rfl,by rw[List.length_map]at h2;exact h2,by rw[List.length_map]at hL;exact hL⟩
theorem ly26{L n:Nat}{cs:List AV}(h:TyC tab L (n+4) 26 cs):∃ p:Past,cs=c26 p∧inPL L p:=by
 obtain⟨a,b,rfl,ha,c,d,rfl,hc,rfl⟩:=h
 obtain⟨x,rfl,hx⟩:=ly23 (L:=L) (n:=n+1) ha
 obtain⟨y,rfl,hy⟩:=ly24 hc
 exact⟨⟨x,y⟩,rfl,⟨by simp only;omega,by simp only;omega⟩,hy.2,hx.2⟩
theorem ly81{L n:Nat}{cs:List AV}(h:TyC tab L (n+5) 81 cs):∃ r:Record,cs=c81 r∧inPL L r.past:=by
 obtain⟨a,b,rfl,ha,c,d,rfl,hc,rfl⟩:=h
 obtain⟨x,rfl,hx⟩:=ty9 (L:=L) (n:=n+3) ha
 obtain⟨y,rfl,hy⟩:=ly26 hc
 exact⟨⟨x,y⟩,rfl,hy⟩
def inRL(L:Nat)(rs:List Record):Prop:=(∀ r∈rs,inPL L r.past)∧rs.length*64≤140737488351232∧rs.length≤L
theorem ly27{L n:Nat}{cs:List AV}(h:TyC tab L (n+6) 27 cs):∃ rs:List Record,cs=[.sl (rs.map c81)]∧inRL L rs:=by
 obtain⟨rows,rfl,h1,h2,hL,h3⟩:=h
 obtain⟨xs,rfl,hx⟩:=V7 (fun r hr=>ly81 hr) rows h3
 exact⟨xs,rfl,hx,by rw[List.length_map]at h2;exact h2,by rw[List.length_map]at hL;exact hL⟩
def inFL(L:Nat)(f:Facts):Prop:=(f.adds.length*40≤140737488351232∧f.adds.length≤L)∧inPL L f.gone∧inRL L f.recs
theorem ly29{L n:Nat}{cs:List AV}(h:TyC tab L (n+7) 29 cs):∃ f:Facts,cs=c29 f∧inFL L f:=by
 obtain⟨a,b,rfl,ha,c,d,rfl,hc,e,g,rfl,he,rfl⟩:=h
 obtain⟨x,rfl,hx⟩:=ty22 (L:=L) (n:=n+2) ha
 obtain⟨y,rfl,hy⟩:=ly26 (L:=L) (n:=n+2) hc
 obtain⟨z,rfl,hz⟩:=ly27 he
 exact⟨⟨x,y,z⟩,rfl,⟨hx.1.2,hx.2⟩,hy,hz⟩
theorem B8t{L:Nat}{a:AV}(h:TyA tab L 9 29 a):∃ f:Facts,a=.agg (c29 f)∧inFL L f:=by
 obtain⟨cs,rfl,h2⟩:=(show ∃ cs,a=.agg cs∧TyC tab L 9 29 cs from h)
 obtain⟨d,rfl,k⟩:=ly29 (L:=L) (n:=2) h2
 exact⟨d,rfl,k⟩
theorem inF_sz{L:Nat}{f:Facts}(h:inFL L f):szF f:=⟨h.2.1.1,fun r hr=>(h.2.2.1 r hr).1⟩
end Go.Proofs.YtaiepnaokhpmcaaGreat
namespace Go.Proofs.YtaiepnaokhpmcaaGreat
open Go.E
set_option maxRecDepth 100000
set_option maxHeartbeats 4000000
theorem B4s{L M:Nat}(hM:M=L+1):∀ {rs:List Record},(∀ r∈rs,r.past.cloud.length≤L)→A2m rs≤rs.length*M
 | [],_=>by simp [A2m]
 | r :: rs,h=>by
  have h1:=h r (by simp)
  have h2:=B4s hM (rs:=rs) (fun x hx=>h x (by simp [hx]))
  simp only [A2m,List.map_cons,List.sum_cons,List.length_cons,Nat.add_mul]at *
  omega
theorem Bm2{f:Facts}(h1:szF f)(h2:f.recs.length≤1048576)(h3:A2m f.recs≤1099512676352):szB 1 f:=by
 unfold szB
 rw[Nat.one_mul,Nat.one_mul]
 exact⟨h1,h2,h3⟩
theorem A9c{f:Facts}(h:inFL 1048576 f):szB 1 f:=by
 have h0:f.recs.length≤1048576:=h.2.2.2.2
 have h1:A2m f.recs≤f.recs.length*1048577:=B4s (L:=1048576) rfl (fun r hr=>(h.2.2.1 r hr).2.1)
 have h2:f.recs.length*1048577≤1048576*1048577:=Nat.mul_le_mul_right _ h0
 exact Bm2 (inF_sz h) h0 (Nat.le_trans h1 (Nat.le_trans h2 (by decide)))
end Go.Proofs.YtaiepnaokhpmcaaGreat
namespace Go.Proofs.YtaiepnaokhpmcaaGreat
open Go.E
set_option maxRecDepth 100000
set_option maxHeartbeats 4000000
theorem Tryz.rowedM:Go.mapsRowed Tryz.prog=true:=by kernel_rfl
theorem Tryz.stopsH:Tryz.prog.stopsHeard=true:=by kernel_rfl
theorem Tryz.mayE:Tryz.prog.mayEnter=true:=by kernel_rfl
end Go.Proofs.YtaiepnaokhpmcaaGreat
