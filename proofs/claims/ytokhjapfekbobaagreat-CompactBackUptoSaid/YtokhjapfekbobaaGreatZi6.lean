/- Tx: tomb: Join, Live, Past, Clash, and the document's. Conditions: sizes. Lp: entries in form, in plain words. Conditions: none. Tn: what the tomb's calls come to, in plain words. Conditions: none. Xa: the values of more Go types (a state is taken as facts: live, past, waiting). Conditions: none. Sp: compact states: in plain words. Conditions: none. Sw: swot.Check; digest's Check, OfFacts, OfSwot, LackFacts, LackSwot. Conditions: sizes. Ea: act.Effect, the document's Effect. Conditions: sizes. Sr: the document's chapters 11 and 14: forms, what is heard of, live, waits; digests. Conditions: sizes. Sd: the document's digests. Conditions: sizes. Cw: compact: Compact, Same, Fate, Story, Spent, Prune, Expand. Conditions: sizes. Cs: compact.Same. Conditions: sizes. Jp: joins of compact states, in plain words. Conditions: none. Sf: the laws of digests: pictures, what is spared. Conditions: sizes. Ct: the document's chapter 13, and when lists, facts, states are the same. Conditions: sizes. Cv: the laws of compact states and fates. Conditions: sizes. Jr: the document's Clash. Conditions: sizes. Ju: the law of pruned facts. Conditions: sizes. EN: from a law's contract to its row: 'for every input it answers true, and the input reads as it did'. Conditions: none named, none written. Wx: what is handed in, by its types. Conditions: none. Wy: what is handed in, by its types (acts, facts). Conditions: none. Qk: what is handed in, small (facts). Conditions: none. Qm: what is handed in, small (states, digests). Conditions: none. Qn: what is handed in, small (cases of chapter 13). Conditions: none. Qj: facts of the program that every row asks for, each by itself. Conditions: none. -/
import Derived.Below
import Derived.OwnWalk
import Derived.WalkKit
import Derived.KernelRfl
import Derived.Laws.MakeOwn
import Derived.Laws.OwnMore
import Derived.Laws.Slices
import Derived.Laws.CopyOwn
import Derived.Laws.AppendOwnNone
import Derived.Laws.Rows
import Derived.Orders
import Derived.Test.YtokhjapfekbobaaGreatProg
import Derived.DataReads
import Derived.ChangeOld
import Derived.DataElems
import Derived.SizedLaws
import Derived.ChangeKeysEq
import Derived.Sort.LotA
import Derived.Shelf.SlSortFuncK.RowK2
import Derived.Shelf.SlSortCmp.NoneTotal
import Derived.Lib.Walk
import Derived.Shelf.SlLaysE0
import Derived.Shelf.RegionOpenPlain
import Derived.Deep.LoopGhost
import Derived.Lib.SliceRun
import Derived.Lib.Bytealg
import Derived.Calls
import Derived.Shelf.SlSortFuncK.SWK
import Derived.Deep.Cut
import Derived.Deep.CutRange
import Derived.Deep.DeepCutAuto
import Derived.Lib.ReflectliteSwap
import Derived.Laws.Externs
import Derived.Lib.ReflectliteSlice
import Derived.Lib.AppendZeros
import Derived.BigQuiet
import Derived.Shelf.SlSortFuncK.WholeK
import Derived.Shelf.GgSortFunc.Tiny
import Derived.Maps.RangeRun
import Derived.ProofKit
import Derived.JoinedCond
import Derived.Deep.CondSized
import Derived.Test.YtokhjapfekbobaaGreatRows
import Derived.Test.YtokhjapfekbobaaGreatZi5
set_option linter.unusedVariables false
set_option linter.unusedSimpArgs false
namespace Go.Proofs.YtokhjapfekbobaaGreat
open Go.E
set_option maxRecDepth 100000
set_option maxHeartbeats 4000000
theorem B9p(s:List Entry):(A2v s).2=0∨(A2v s).2=10:=by unfold A2v;split <;> simp
theorem B5i{a b:List Entry}(ha:D2 a=0)(hb:D2 b=0):(H0 a b).2=0∨(H0 a b).2=10:=by rw[Ab3 ha hb];exact B9p _
noncomputable def A0d(a b:Facts):Facts:=⟨(H0 a.adds b.adds).1,C7 [a.gone,b.gone],A2l (a.recs++b.recs)⟩
noncomputable def B1(a b:Facts):Facts×Int:=if Ak0 a b=true then(if(H0 a.adds b.adds).2=0 then(A0d a b,0)else(zeroF,10))else(zeroF,1)
noncomputable def Z8(f:Facts):List Entry:=(f.adds.filter fun e=>D0 f.gone e.dot == false).filter fun e=>decide (E5 f.recs e=0)
noncomputable def N0(f:Facts):List Entry×Int:=if okF f=true then(Z8 f,0)else([],1)
def U5(es:List Entry):Past:=G1 (ofT (es.map fun e=>e.dot))
noncomputable def O2(f:Facts):Past×Int:=if okF f=true then(C7 [U5 f.adds,f.gone],0)else(⟨[],[]⟩,1)
def szB(n:Nat)(f:Facts):Prop:=szF f∧f.recs.length≤n*1048576∧A39 f.recs≤n*1099512676352
theorem I3{n m:Nat}{f:Facts}(h:szB n f)(hm:n≤m):szB m f:=⟨h.1,Nat.le_trans h.2.1 (Nat.mul_le_mul_right _ hm),Nat.le_trans h.2.2 (Nat.mul_le_mul_right _ hm)⟩
theorem B5j{n:Nat}{f:Facts}(h:szB n f)(hn:n≤7):tokR f.recs:=⟨by have:=h.2.2;omega,by have:=h.2.1;omega⟩
theorem A6l{a b:Facts}(h:¬ Ak0 a b=true):B1 a b=(zeroF,1):=by unfold B1;rw[if_neg h]
theorem A6m{a b:Facts}(h:Ak0 a b=true)(k:¬(H0 a.adds b.adds).2=0):B1 a b=(zeroF,10):=by unfold B1;rw[if_pos h,if_neg k]
theorem Ar2{a b:Facts}(h:Ak0 a b=true)(k:(H0 a.adds b.adds).2=0):B1 a b=(A0d a b,0):=by unfold B1;rw[if_pos h,if_pos k]
theorem R4{a b:Facts}(h:Ak0 a b=true):(D2 a.adds=0∧a.gone=A5 a.gone∧D9 a.recs=0)∧(D2 b.adds=0∧b.gone=A5 b.gone∧D9 b.recs=0) :=
 ⟨D7.1 (A4k.1 h).1,D7.1 (A4k.1 h).2⟩
theorem B5k{a b:Facts}(h:Ak0 a b=true)(k:¬(H0 a.adds b.adds).2=0):(H0 a.adds b.adds).2=10:=(B5i (R4 h).1.1 (R4 h).2.1).resolve_left k
theorem Bq0{a b:Facts}(h:Ak0 a b=true):A1k [a.gone,b.gone]*16≤140737488350000:=by
 have h1:=Y6 (R4 h).1.2.1
 have h2:=Y6 (R4 h).2.2.1
 have e:A1k [a.gone,b.gone]=a.gone.cloud.length+1+(b.gone.cloud.length+1):=by simp [A1k]
 rw[e]
 omega
theorem Ab5{es:List Entry}(h:D2 es=0):F8 es=(U5 es,0):=by unfold F8;rw[if_pos (N9 h)];rfl
theorem B5l(es:List Entry):U5 es=A5 (U5 es):=(A4i _).symm
theorem B9q{f:Facts}(h:okF f=true):A1k [(F8 f.adds).1,f.gone]*16≤140737488350000:=by
 rw[Ab5 (D7.1 h).1]
 have h1:=Y6 (B5l f.adds)
 have h2:=Y6 (D7.1 h).2.1
 have e:A1k [U5 f.adds,f.gone]=(U5 f.adds).cloud.length+1+(f.gone.cloud.length+1):=by simp [A1k]
 show A1k [U5 f.adds,f.gone]*16≤_
 rw[e]
 omega
theorem Ar3{f:Facts}(h:okF f=true):O1 f.adds f.gone false=(f.adds.filter (fun e=>D0 f.gone e.dot == false),0):=by
 unfold O1
 rw[if_pos ⟨N9 (D7.1 h).1,(D7.1 h).2.1⟩]
theorem A8g{f:Facts}(h:okF f=true):I0 (O1 f.adds f.gone false).1 f.recs=N0 f:=by
 rw[Ar3 h]
 unfold I0 N0
 rw[if_pos h,if_pos ⟨(Z3 _).2 (W5 ((Z3 _).1 (D7.1 h).1) List.filter_sublist),(D7.1 h).2.2⟩]
 rfl
theorem B5m{f:Facts}(h:¬ A2x f=0):N0 f=([],1):=by unfold N0;rw[if_neg (fun k=>h (A0v.2 k))]
theorem Ar4{f:Facts}(h:¬ A2x f=0):O2 f=(⟨[],[]⟩,1):=by unfold O2;rw[if_neg (fun k=>h (A0v.2 k))]
theorem Ar5{f:Facts}(h:okF f=true):O2 f=(C7 [U5 f.adds,f.gone],0):=by unfold O2;rw[if_pos h]
theorem B9r(a b:Facts)(ha:szB 3 a)(hb:szB 3 b):Con Tryz.prog 19 [.agg (c29 a),.agg (c29 b)] (.tup [.agg (c29 (B1 a b).1),.i .i64 (B1 a b).2]) :=
 by
 have y:¬¬Ak0 a b=true→Ak0 a b=true:=Classical.not_not.1
 have ru:¬¬Ak0 a b=true→F4 a.recs b.recs=(A2l (a.recs++b.recs),0):=fun h=>B5h (R4 (y h)).1.2.2 (R4 (y h)).2.2.2
 refine sC A9 [.cell 4 29,.tmp 5] 47 Tryz.func19 ?_
 intro e0 cx
 refine sq<|rG cx [2,3,4] [2,3,4] z0<|sn<|sq<|sq<|rG cx [2,3,4,12] [2,3,4] (fT (con57 (a) (b) (by exact ha.1) (by exact hb.1)) (tT 3 (C9:(AV.b !Ak0 a b)=AV.b (decide ¬Ak0 a b=true)) (oA 2 (.b (Ak0 a b)) z0))) ?_
 refine sn<|dC (¬Ak0 a b=true) (fun h0=>?_) fun h0=>?_
 refine sq<|rG cx [4,5] [4] z0<|sn<|rT<|nR<|qR (.tup [.agg [.nl,.nl,.nl,.nl],.i .i64 ((1:Int))]) (B9.tup (ZLe.cons (B9.agg (ZLe.cons (B9.nl' (show List.map c67 (B1 a b).1.adds=[]from(by rw[A6l h0];rfl))) (ZLe.cons (B9.nl' (show List.map c3 (B1 a b).1.gone.vec=[]from(by rw[A6l h0];rfl))) (ZLe.cons (B9.nl' (show List.map B5 (B1 a b).1.gone.cloud=[]from(by rw[A6l h0];rfl))) (ZLe.cons (B9.nl' (show List.map c83 (B1 a b).1.recs=[]from(by rw[A6l h0];rfl))) ZLe.nil))))) (ZLe.cons (B9.eq (show AV.i .i64 1=AV.i .i64 (B1 a b).2 from(by rw[A6l h0]))) ZLe.nil)))
 refine sK<|sn<|sq<|rG cx [2,3,4,6,7] [2,3,4] (fT (con58 (a.adds) (b.adds)) (oA 4 (Bt4 (con58 (a.adds) (b.adds))) z0))<|sn<|sq<|sq<|rG cx [2,3,4,6,7,23] [2,3,4] (tN 1 ((H0 a.adds b.adds).2) (0:Int) z0)<|sn<|dC (¬(H0 a.adds b.adds).2=0) (fun h1=>?_) fun h1=>?_
 refine sq<|rG cx [4,5] [4] z0<|sn<|rT<|nR<|qR (.tup [.agg [.nl,.nl,.nl,.nl],.i .i64 ((H0 a.adds b.adds).2)]) (B9.tup (ZLe.cons (B9.agg (ZLe.cons (B9.nl' (show List.map c67 (B1 a b).1.adds=[]from(by rw[A6m (y h0) h1];rfl))) (ZLe.cons (B9.nl' (show List.map c3 (B1 a b).1.gone.vec=[]from(by rw[A6m (y h0) h1];rfl))) (ZLe.cons (B9.nl' (show List.map B5 (B1 a b).1.gone.cloud=[]from(by rw[A6m (y h0) h1];rfl))) (ZLe.cons (B9.nl' (show List.map c83 (B1 a b).1.recs=[]from(by rw[A6m (y h0) h1];rfl))) ZLe.nil))))) (ZLe.cons (B9.eq (show AV.i .i64 (H0 a.adds b.adds).2=AV.i .i64 (B1 a b).2 from(by rw[A6m (y h0) h1,B5k (y h0) h1]))) ZLe.nil)))
 refine sK<|sn<|sq<|rG cx [2,3,4,6,7,8] [2,3,4] (fT (con59 (a.recs) (b.recs) (by exact A7a ha.1.2) (by exact A7a hb.1.2) (by have:=ha.2.1;have:=hb.2.1;omega)) (oA 4 (.tup [.sl (List.map c83 (F4 a.recs b.recs).1),.i .i64 ((F4 a.recs b.recs).2)]) z0)) ?_
 refine sn<|sq<|sq<|rG cx [2,3,4,6,7,8,35] [2,3,4] (tN 1 ((F4 a.recs b.recs).2) (0:Int) z0)<|sn<|dC (¬(F4 a.recs b.recs).2=0) (fun h2=>?_) fun h2=>?_
 refine sq<|rG cx [4,5] [4] z0<|sn<|rT<|nR<|qR (.tup [.agg [.nl,.nl,.nl,.nl],.i .i64 ((F4 a.recs b.recs).2)]) (B9.tup (ZLe.cons (B9.agg (ZLe.cons (B9.nl' (show List.map c67 (B1 a b).1.adds=[]from(by exact absurd (by rw[ru h0]) h2))) (ZLe.cons (B9.nl' (show List.map c3 (B1 a b).1.gone.vec=[]from(by exact absurd (by rw[ru h0]) h2))) (ZLe.cons (B9.nl' (show List.map B5 (B1 a b).1.gone.cloud=[]from(by exact absurd (by rw[ru h0]) h2))) (ZLe.cons (B9.nl' (show List.map c83 (B1 a b).1.recs=[]from(by exact absurd (by rw[ru h0]) h2))) ZLe.nil))))) (ZLe.cons (B9.eq (show AV.i .i64 (F4 a.recs b.recs).2=AV.i .i64 (B1 a b).2 from(by exact absurd (by rw[ru h0]) h2))) ZLe.nil)))
 refine sK<|sn<|sq<|rG cx [4,5] [4] (fT (Bk9 ([a.gone,b.gone]) (by exact Bq0 (y h0))) (oA 6 (.agg [.sl (List.map c3 (C7 [a.gone,b.gone]).vec),.sl (List.map B5 (C7 [a.gone,b.gone]).cloud)]) z0)) ?_
 refine sn<|rT<|qR (.tup [.agg [.sl (List.map c67 (H0 a.adds b.adds).1),.sl (List.map c3 (C7 [a.gone,b.gone]).vec),.sl (List.map B5 (C7 [a.gone,b.gone]).cloud),.sl (List.map c83 (F4 a.recs b.recs).1)],.i .i64 ((0:Int))]) (B9.tup (ZLe.cons (B9.eq (show AV.agg [AV.sl (List.map c67 (H0 a.adds b.adds).1),AV.sl (List.map c3 (C7 [a.gone,b.gone]).vec),AV.sl (List.map B5 (C7 [a.gone,b.gone]).cloud),AV.sl (List.map c83 (F4 a.recs b.recs).1)]=AV.agg [AV.sl (List.map c67 (B1 a b).1.adds),AV.sl (List.map c3 (B1 a b).1.gone.vec),AV.sl (List.map B5 (B1 a b).1.gone.cloud),AV.sl (List.map c83 (B1 a b).1.recs)]from(by rw[Ar2 (y h0) (Classical.not_not.1 h1),ru h0];rfl))) (ZLe.cons (B9.eq (show AV.i .i64 0=AV.i .i64 (B1 a b).2 from(by rw[Ar2 (y h0) (Classical.not_not.1 h1)]))) ZLe.nil)))
theorem con21(f:Facts)(hb:szB 7 f):Con Tryz.prog 21 [.agg (c29 f)] (.tup [.sl ((N0 f).1.map c67),.i .i64 (N0 f).2]) :=
 by
 have y:¬¬A2x f=0→okF f=true:=fun h=>A0v.1 (Classical.not_not.1 h)
 refine sC A9 [.tmp 2,.tmp 3] 26 Tryz.func21 ?_
 intro e0 cx
 refine sq<|rG cx [1] [1] z0<|sn<|sq<|sq<|rG cx [1,8] [1] (fT (B59 (f) (by exact hb.1)) (tN 2 (A2x f) (0:Int) (oA 1 (.i .i64 (A2x f)) z0))) ?_
 refine sn<|dC (¬A2x f=0) (fun h0=>?_) fun h0=>?_
 refine sq<|rG cx [2,3] [] z0<|sn<|rT<|nR<|qR (.tup [.nl,.i .i64 ((1:Int))]) (B9.tup (ZLe.cons (B9.nl' (show List.map c67 (N0 f).1=[]from(by rw[B5m h0];rfl))) (ZLe.cons (B9.eq (show AV.i .i64 1=AV.i .i64 (N0 f).2 from(by rw[B5m h0]))) ZLe.nil)))
 refine sK<|sn<|sq<|rG cx [1,4,5] [1] (fT (con65 (f.adds) (f.gone) (by exact hb.1.1.1)) (oA 4 (.tup [.sl (List.map c67 (O1 f.adds f.gone false).1),.i .i64 ((O1 f.adds f.gone false).2)]) z0)) ?_
 refine sn<|sq<|sq<|rG cx [1,4,5,18] [1] (tN 1 ((O1 f.adds f.gone false).2) (0:Int) z0)<|sn<|dC (¬(O1 f.adds f.gone false).2=0) (fun h1=>?_) fun h1=>?_
 refine sq<|rG cx [2,3] [] z0<|sn<|rT<|nR<|qR (.tup [.nl,.i .i64 ((O1 f.adds f.gone false).2)]) (B9.tup (ZLe.cons (B9.nl' (show List.map c67 (N0 f).1=[]from(by exact absurd (by rw[Ar3 (y h0)]) h1))) (ZLe.cons (B9.eq (show AV.i .i64 (O1 f.adds f.gone false).2=AV.i .i64 (N0 f).2 from(by exact absurd (by rw[Ar3 (y h0)]) h1))) ZLe.nil)))
 refine sK<|sn<|sq<|rG cx [2,3] [] (fT (con62 ((O1 f.adds f.gone false).1) (f.recs) (by exact A7a hb.1.2) (by exact B5j hb (Nat.le_refl _))) (oA 3 (.tup [.sl (List.map c67 (I0 (O1 f.adds f.gone false).1 f.recs).1),.i .i64 ((I0 (O1 f.adds f.gone false).1 f.recs).2)]) z0)) ?_
 refine sn<|rT<|qR (.tup [.sl (List.map c67 (I0 (O1 f.adds f.gone false).1 f.recs).1),.i .i64 ((I0 (O1 f.adds f.gone false).1 f.recs).2)]) (B9.tup (ZLe.cons (B9.eq (show AV.sl (List.map c67 (I0 (O1 f.adds f.gone false).1 f.recs).1)=AV.sl (List.map c67 (N0 f).1)from(by rw[A8g (y h0)]))) (ZLe.cons (B9.eq (show AV.i .i64 (I0 (O1 f.adds f.gone false).1 f.recs).2=AV.i .i64 (N0 f).2 from(by rw[A8g (y h0)]))) ZLe.nil)))
theorem con22(f:Facts)(hb:szF f):Con Tryz.prog 22 [.agg (c29 f)] (.tup [.agg (c26 (O2 f).1),.i .i64 (O2 f).2]) :=
 by
 have y:¬¬A2x f=0→okF f=true:=fun h=>A0v.1 (Classical.not_not.1 h)
 refine sC A9 [.cell 2 26,.tmp 3] 22 Tryz.func22 ?_
 intro e0 cx
 refine sq<|rG cx [1,2] [1,2] z0<|sn<|sq<|sq<|rG cx [1,2,8] [1,2] (fT (B59 (f) (by(with_reducible assumption))) (tN 2 (A2x f) (0:Int) (oA 1 (.i .i64 (A2x f)) z0)))<|sn<|dC (¬A2x f=0) (fun h0=>?_) fun h0=>?_
 refine sq<|rG cx [2,3] [2] z0<|sn<|rT<|nR<|qR (.tup [.agg [.nl,.nl],.i .i64 ((1:Int))]) (B9.tup (ZLe.cons (B9.agg (ZLe.cons (B9.nl' (show List.map c3 (O2 f).1.vec=[]from(by rw[Ar4 h0];rfl))) (ZLe.cons (B9.nl' (show List.map B5 (O2 f).1.cloud=[]from(by rw[Ar4 h0];rfl))) ZLe.nil))) (ZLe.cons (B9.eq (show AV.i .i64 1=AV.i .i64 (O2 f).2 from(by rw[Ar4 h0]))) ZLe.nil)))
 refine sK<|sn<|sq<|rG cx [1,2,4,5] [1,2,4] (fT (Bp3 (f.adds)) (oA 2 (.tup [.agg [.sl (List.map c3 (F8 f.adds).1.vec),.sl (List.map B5 (F8 f.adds).1.cloud)],.i .i64 ((F8 f.adds).2)]) z0))<|sn<|sq<|rG cx [2,3] [2] (fT (Bk9 ([(F8 f.adds).1,f.gone]) (by exact B9q (y h0))) (oA 4 (.agg [.sl (List.map c3 (C7 [(F8 f.adds).1,f.gone]).vec),.sl (List.map B5 (C7 [(F8 f.adds).1,f.gone]).cloud)]) z0)) ?_
 refine sn<|rT<|qR (.tup [.agg [.sl (List.map c3 (C7 [(F8 f.adds).1,f.gone]).vec),.sl (List.map B5 (C7 [(F8 f.adds).1,f.gone]).cloud)],.i .i64 ((F8 f.adds).2)]) (B9.tup (ZLe.cons (B9.eq (show AV.agg [AV.sl (List.map c3 (C7 [(F8 f.adds).1,f.gone]).vec),AV.sl (List.map B5 (C7 [(F8 f.adds).1,f.gone]).cloud)]=AV.agg [AV.sl (List.map c3 (O2 f).1.vec),AV.sl (List.map B5 (O2 f).1.cloud)]from(by rw[Ar5 (y h0),Ab5 (D7.1 (y h0)).1]))) (ZLe.cons (B9.eq (show AV.i .i64 (F8 f.adds).2=AV.i .i64 (O2 f).2 from(by rw[Ar5 (y h0),Ab5 (D7.1 (y h0)).1]))) ZLe.nil)))
end Go.Proofs.YtokhjapfekbobaaGreat
namespace Go.Proofs.YtokhjapfekbobaaGreat
open Go.E
set_option maxRecDepth 100000
set_option maxHeartbeats 4000000
theorem Ab6{s:List Entry}(hs:B54 s){i j:Nat}(hij:i < j)(hj:j < s.length):¬ dLt s[j]!.dot s[i]!.dot=true:=by
 have:=List.pairwise_iff_getElem.1 hs i j (by omega) hj hij
 rw[← getElem!_pos s i (by omega),← getElem!_pos s j hj]at this
 simpa [ltE]using this
theorem B5n{s:List Entry}(hs:B54 s):∀(n:Nat) (l:List Entry),n≤s.length→P8 s n=some l→upE l∧∀ e,e∈l↔e∈s.take n
 | 0,l,_,h=>by
  simp only [P8,Option.some.injEq]at h
  subst h
  exact⟨List.Pairwise.nil,fun e=>by simp⟩
 | n+1,l,hn,h=>by
  rw[P8]at h
  split at h
  ·cases h
  ·rename_i l0 h0
   obtain⟨i1,i2⟩:=B5n hs n l0 (by omega) h0
   have et:s.take (n+1)=s.take n++[s[n]!]:=by rw[getElem!_pos s n (by omega),← List.take_succ_eq_append_getElem (by omega)]
   split at h
   ·rename_i hc
    simp only [Option.some.injEq]at h
    subst h
    refine⟨List.pairwise_append.2 ⟨i1,by simp,fun x hx y hy=>?_⟩,fun e=>?_⟩
    ·have:y=s[n]!:=by simpa using hy
     subst this
     obtain⟨i,hi,rfl⟩:=List.mem_iff_getElem.1 ((i2 x).1 hx)
     rw[List.length_take]at hi
     rw[List.getElem_take,← getElem!_pos s i (by omega)]
     have h1:=Ab6 hs (i:=i) (j:=n) (by omega) (by omega)
     apply Classical.byContradiction
     intro h2
     have hd:=Ak6 h2 h1
     rcases hc with hc | hc
     ·omega
     ·by_cases ei:i=n-1
      ·subst ei;exact hc hd
      ·have h3:=Ab6 hs (i:=i) (j:=n-1) (by omega) (by omega)
       have h4:=Ab6 hs (i:=n-1) (j:=n) (by omega) (by omega)
       rw[hd]at h3
       exact hc (Ak6 h3 h4)
    ·rw[List.mem_append,et,List.mem_append,i2]
   ·rename_i hc
    split at h
    ·rename_i he
     simp only [Option.some.injEq]at h
     subst h
     refine⟨i1,fun e=>?_⟩
     rw[et,List.mem_append,i2]
     constructor
     ·exact fun k=>.inl k
     ·rintro(k | k)
      ·exact k
      ·have hn0:¬ n=0:=fun k0=>hc (.inl k0)
       have:e=s[n-1]!:=by rw[he];simpa using k
       subst this
       have hlt:n-1 <(s.take n).length:=by rw[List.length_take];omega
       have:=List.getElem_mem hlt
       rw[List.getElem_take,← getElem!_pos s (n-1) (by omega)]at this
       exact this
    ·cases h
theorem Ak7{s:List Entry}(hc:∀ x∈s,∀ y∈s,x.dot=y.dot→x=y):∀ n:Nat,n≤s.length→∃ l,P8 s n=some l
 | 0,_=>⟨[],rfl⟩
 | n+1,hn=>by
  obtain⟨l,hl⟩:=Ak7 hc n (by omega)
  rw[P8,hl]
  simp only
  split
  ·exact⟨_,rfl⟩
  ·rename_i h
   rw[if_pos]
   ·exact⟨_,rfl⟩
   ·refine hc _ (A92 (by omega)) _ (A92 (by omega)) ?_
    apply Classical.byContradiction
    exact fun k=>h (.inr k)
theorem B5o(es:List Entry)(e:Entry):e∈A6b es↔e∈es:=(List.mergeSort_perm es _).mem_iff
def A31(a b:List Entry):Prop:=∀ x∈a,∀ y∈b,x.dot=y.dot→x=y
theorem Ak8{a b:List Entry}(ha:W4 a)(hb:W4 b)(hc:A31 a b):∃ l,H0 a b=(l,0)∧W4 l∧∀ e,e∈l↔e∈a∨e∈b:=by
 rw[Ab3 ((Z3 a).2 ha) ((Z3 b).2 hb)]
 have hall:∀ x∈A6b (a++b),∀ y∈A6b (a++b),x.dot=y.dot→x=y:=by
  intro x hx y hy hd
  rw[B5o,List.mem_append]at hx hy
  rcases hx with hx | hx <;> rcases hy with hy | hy
  ·exact A6k ha hx hy hd
  ·exact hc x hx y hy hd
  ·exact(hc y hy x hx hd.symm).symm
  ·exact A6k hb hx hy hd
 obtain⟨l,hl⟩:=Ak7 hall _ (Nat.le_refl _)
 obtain⟨h1,h2⟩:=B5n (B1e _) _ l (Nat.le_refl _) hl
 have h3:∀ e,e∈l↔e∈a∨e∈b:=fun e=>by rw[h2,List.take_length,B5o,List.mem_append]
 refine⟨l,by unfold A2v;rw[hl],⟨fun e he=>?_,h1⟩,h3⟩
 rcases(h3 e).1 he with k | k
 ·exact ha.1 e k
 ·exact hb.1 e k
end Go.Proofs.YtokhjapfekbobaaGreat
namespace Go.Proofs.YtokhjapfekbobaaGreat
open Go.E
set_option maxRecDepth 100000
set_option maxHeartbeats 4000000
theorem H8{f:Facts}:okF f=true↔W4 f.adds∧f.gone=A5 f.gone∧B0s f.recs:=by rw[D7,Z3,H5]
def agF(a b:Facts):Prop:=okF a=true∧okF b=true∧A31 a.adds b.adds
theorem F_ext{x y:Facts}(hx:okF x=true)(hy:okF y=true)(h1:∀ e,e∈x.adds↔e∈y.adds)(h2:∀ d,D0 x.gone d=D0 y.gone d)(h3:∀ r,r∈x.recs↔r∈y.recs):x=y:=by
 obtain⟨x1,x2,x3⟩:=H8.1 hx
 obtain⟨y1,y2,y3⟩:=H8.1 hy
 have e1:=A8f x1.2 y1.2 h1
 have e2:=A9e x2 y2 h2
 have e3:=A3h x3.2 y3.2 (fun r hr=>(A76.1 (x3.1 r hr)).2.1) (fun r hr=>(A76.1 (y3.1 r hr)).2.1) h3
 cases x
 cases y
 simp only at e1 e2 e3
 rw[e1,e2,e3]
theorem A6n{a b:Facts}(h:agF a b):B1 a b=(A0d a b,0)∧okF (A0d a b)=true∧(∀ e,e∈(A0d a b).adds↔e∈a.adds∨e∈b.adds)∧(∀ d,D0 (A0d a b).gone d=(D0 a.gone d || D0 b.gone d))∧∀ r,r∈(A0d a b).recs↔r∈a.recs∨r∈b.recs:=by
 obtain⟨a1,a2,a3⟩:=D7.1 h.1
 obtain⟨b1,b2,b3⟩:=D7.1 h.2.1
 obtain⟨l,u1,u2,u3⟩:=Ak8 ((Z3 _).1 a1) ((Z3 _).1 b1) h.2.2
 have hb:=A4k.2 ⟨h.1,h.2.1⟩
 have hn:=A2z a3 b3
 refine⟨Ar2 hb (by rw[u1]),H8.2 ⟨?_,A2c _,(H5 _).1 (A8a a3 b3)⟩,fun e=>?_,fun d=>?_,fun r=>?_⟩
 ·show W4 (H0 a.adds b.adds).1
  rw[u1];exact u2
 ·show e∈(H0 a.adds b.adds).1↔_
  rw[u1];exact u3 e
 ·show D0 (C7 [a.gone,b.gone]) d=_
  rw[Y2]
  simp
 ·show r∈A2l (a.recs++b.recs)↔_
  rw[Z1 hn,List.mem_append]
theorem Ab7:okF zeroF=true:=H8.2 ⟨⟨fun e he=>(by cases he),List.Pairwise.nil⟩,Ag9.symm,⟨fun r hr=>(by cases hr),List.Pairwise.nil⟩⟩
theorem A32{f:Facts}{e:Entry}:e∈Z8 f↔e∈f.adds∧D0 f.gone e.dot=false∧E5 f.recs e=0:=by
 unfold Z8
 rw[List.mem_filter,List.mem_filter,decide_eq_true_iff,beq_iff_eq,and_assoc]
theorem B5p{f:Facts}(h:okF f=true):W4 (Z8 f):=W5 (W5 (H8.1 h).1 List.filter_sublist) List.filter_sublist
theorem B5q{f:Facts}(h:okF f=true):N0 f=(Z8 f,0):=by unfold N0;rw[if_pos h]
theorem A0w{es:List Entry}(h:W4 es)(d:Dot):D0 (U5 es) d=true↔∃ e∈es,e.dot=d:=by
 unfold U5
 rw[has_of]
 constructor
 ·rintro⟨_,k⟩
  exact List.mem_map.1 k
 ·rintro⟨e,he,k⟩
  refine⟨?_,List.mem_map.2 ⟨e,he,k⟩⟩
  have:=Ah3 (h.1 e he)
  rw[← k]
  unfold M3
  rw[decide_eq_true_eq]
  exact this
theorem B5r{a b:List Record}(h:a.Perm b):A39 a=A39 b:=by
 induction h with
 | nil=>rfl
 | cons x _ ih=>simp only [A39,List.map_cons,List.sum_cons]at *;omega
 | swap x y l=>simp only [A39,List.map_cons,List.sum_cons];omega
 | trans _ _ ih1 ih2=>omega
theorem A4l{a b:List Record}(h:a.Sublist b):A39 a≤A39 b:=by
 induction h with
 | slnil=>exact Nat.le_refl _
 | cons x h ih=>simp only [A39,List.map_cons,List.sum_cons]at *;omega
 | cons_cons x h ih=>simp only [A39,List.map_cons,List.sum_cons]at *;omega
theorem Ab8{α:Type}(p:α→α→Bool):∀(l:List α) (a:α),(Aa8 p a l).Sublist l
 | [],a=>by simp [Aa8]
 | b :: l,a=>by
  simp only [Aa8]
  split
  ·exact .cons _ (Ab8 p l b)
  ·exact .cons_cons _ (Ab8 p l b)
theorem B9s{l:List Record}(h:P0 l):A39 (A2l l)≤A39 l:=by
 have h1:(A2l l).Sublist (A7c l):=by
  unfold A2l I1
  cases A7c l with
  | nil=>exact .slnil
  | cons a t=>exact .cons_cons _ (Ab8 _ t a)
 rw[← B5r (Aj2 h)]
 exact A4l h1
theorem Az5{a b:Facts}{n m:Nat}(ha:szB n a)(hb:szB m b):szB (n+m) (B1 a b).1:=by
 have z:szB (n+m) zeroF:=⟨⟨⟨by decide,by decide⟩,fun r hr=>(by cases hr)⟩,Nat.zero_le _,Nat.zero_le _⟩
 unfold B1
 split
 ·rename_i h
  split
  ·have hp:=R4 h
   have hn:=A2z hp.1.2.2 hp.2.2.2
   have t:=N3 (A8 [a.gone,b.gone])
   refine⟨⟨⟨?_,?_⟩,fun r hr=>?_⟩,?_,?_⟩
   ·show(G1 (A8 [a.gone,b.gone])).cloud.length*16≤_
    have:=t.1;omega
   ·show(G1 (A8 [a.gone,b.gone])).vec.length≤_
    have:=t.2;omega
   ·have hr:r∈A2l (a.recs++b.recs):=hr
    rw[Z1 hn,List.mem_append]at hr
    exact hr.elim (ha.1.2 r) (hb.1.2 r)
   ·show(A2l (a.recs++b.recs)).length≤_
    have h1:=B99 (a.recs++b.recs)
    rw[List.length_append]at h1
    have h2:=ha.2.1
    have h3:=hb.2.1
    rw[Nat.add_mul]
    omega
   ·show A39 (A2l (a.recs++b.recs))≤_
    have h1:=B9s hn
    rw[A9r]at h1
    have h2:=ha.2.2
    have h3:=hb.2.2
    rw[Nat.add_mul]
    omega
  ·exact z
 ·exact z
end Go.Proofs.YtokhjapfekbobaaGreat
namespace Go.Proofs.YtokhjapfekbobaaGreat
open Go.E
set_option maxRecDepth 100000
set_option maxHeartbeats 4000000
structure Spent where
 adds:Int
 gone:Int
 recs:Int
 deriving Inhabited,DecidableEq
structure KCase where
 f:Facts
 g:Facts
 h:Facts
 s:Facts
 dots:List Dot
 sku:ByteArray
 deriving Inhabited
def c31(f:Facts):List AV:=[.sl (f.adds.map c67),.sl (f.gone.vec.map c3),.sl (f.gone.cloud.map B5),.sl (f.recs.map c83)]
def c48(x:Spent):List AV:=[.i .i64 x.adds,.i .i64 x.gone,.i .i64 x.recs]
def c34(c:KCase):List AV:=[.sl (c.f.adds.map c67),.sl (c.f.gone.vec.map c3),.sl (c.f.gone.cloud.map B5),.sl (c.f.recs.map c83),.sl (c.g.adds.map c67),.sl (c.g.gone.vec.map c3),.sl (c.g.gone.cloud.map B5),.sl (c.g.recs.map c83),.sl (c.h.adds.map c67),.sl (c.h.gone.vec.map c3),.sl (c.h.gone.cloud.map B5),.sl (c.h.recs.map c83),.sl (c.s.adds.map c67),.sl (c.s.gone.vec.map c3),.sl (c.s.gone.cloud.map B5),.sl (c.s.recs.map c83),.sl (c.dots.map c65),.s c.sku]
end Go.Proofs.YtokhjapfekbobaaGreat
namespace Go.Proofs.YtokhjapfekbobaaGreat
open Go.E
set_option maxRecDepth 100000
set_option maxHeartbeats 4000000
def C6(f:Facts):Past:=C7 [U5 f.adds,f.gone]
noncomputable def stF(f:Facts):Facts:=⟨Z8 f,C6 f,K0 f.recs (C6 f)⟩
def B5s(s:Facts):Facts:=⟨s.adds,B6 s.gone (U5 s.adds),s.recs⟩
theorem Be9(s:Facts):∃ b:Bool,b=decide (okF s=true∧C2 (B6 (U5 s.adds) s.gone)=0∧(K0 s.recs s.gone).length=s.recs.length∧(s.adds.filter fun e=>decide (E5 s.recs e=0)).length=s.adds.length):=⟨_,rfl⟩
noncomputable def okS(s:Facts):Bool:=Classical.choose (Be9 s)
theorem Ak9(s:Facts):okS s=decide (okF s=true∧C2 (B6 (U5 s.adds) s.gone)=0∧(K0 s.recs s.gone).length=s.recs.length∧(s.adds.filter fun e=>decide (E5 s.recs e=0)).length=s.adds.length):=Classical.choose_spec (Be9 s)
noncomputable def A6w(s:Facts):Int:=if okS s=true then 0 else 1
theorem N1{a b:Past}:C2 (B6 a b)=0↔∀ d,D0 a d=true→D0 b d=true:=by
 rw[W0]
 constructor
 ·intro h d hd
  have:=h d
  rw[A5i,hd]at this
  simpa using this
 ·intro h d
  rw[A5i]
  cases c:D0 a d with
  | false=>rfl
  | true=>rw[h d c];rfl
theorem Az6{α:Type}{p:α→Bool}{l:List α}:(l.filter p).length=l.length↔∀ x∈l,p x=true:=by
 constructor
 ·intro h x hx
  have:l.filter p=l:=List.Sublist.eq_of_length List.filter_sublist h
  rw[← this]at hx
  exact(List.mem_filter.1 hx).2
 ·intro h
  rw[List.filter_eq_self.2 h]
theorem U6{s:Facts}:okS s=true↔okF s=true∧(∀ e∈s.adds,D0 s.gone e.dot=true)∧(∀ r∈s.recs,¬ C2 (B6 r.past s.gone)=0)∧∀ e∈s.adds,E5 s.recs e=0:=by
 rw[Ak9,decide_eq_true_iff]
 unfold K0
 rw[Az6,Az6]
 constructor
 ·rintro⟨h1,h2,h3,h4⟩
  refine⟨h1,fun e he=>(N1.1 h2) _ ((A0w (H8.1 h1).1 _).2 ⟨e,he,rfl⟩),fun r hr=>of_decide_eq_true (h3 r hr),fun e he=>of_decide_eq_true (h4 e he)⟩
 ·rintro⟨h1,h2,h3,h4⟩
  refine⟨h1,N1.2 fun d hd=>?_,fun r hr=>decide_eq_true (h3 r hr),fun e he=>decide_eq_true (h4 e he)⟩
  obtain⟨e,he,rfl⟩:=(A0w (H8.1 h1).1 d).1 hd
  exact h2 e he
theorem A0e{s:Facts}:A6w s=0↔okS s=true:=by unfold A6w;split <;> simp_all
theorem Ab9{α:Type}{p:α→Bool}{l:List α}(h:∀ x∈l,p x=true):l.filter p=l:=List.filter_eq_self.2 h
theorem Bq1{s:Facts}(h:okS s=true):K0 s.recs s.gone=s.recs:=Ab9 fun r hr=>decide_eq_true ((U6.1 h).2.2.1 r hr)
theorem Bq2{f:Facts}(h1:∀ e∈f.adds,D0 f.gone e.dot=false)(h2:∀ e∈f.adds,E5 f.recs e=0):Z8 f=f.adds:=by
 unfold Z8
 rw[Ab9 (p:=fun e:Entry=>D0 f.gone e.dot == false) (fun e he=>by rw[h1 e he];rfl)]
 exact Ab9 fun e he=>decide_eq_true (h2 e he)
theorem A6o{s:Facts}(h:okS s=true):okF (B5s s)=true:=by
 have k:=(U6.1 h).1
 rw[H8]at k ⊢
 exact⟨k.1,A7y _ _,k.2.2⟩
theorem B9t{s:Facts}(h:okS s=true):Z8 (B5s s)=s.adds:=by
 have k:=U6.1 h
 refine Bq2 (fun e he=>?_) k.2.2.2
 show D0 (B6 s.gone (U5 s.adds)) e.dot=false
 rw[A5i,(A0w (H8.1 k.1).1 e.dot).2 ⟨e,he,rfl⟩]
 simp
theorem A6p{f:Facts}(d:Dot):D0 (C6 f) d=(D0 (U5 f.adds) d || D0 f.gone d):=by
 unfold C6
 rw[Y2]
 simp
theorem A0x(f:Facts):C6 f=A5 (C6 f):=A2c _
theorem B5t{s:Facts}(h:okS s=true):C6 (B5s s)=s.gone:=by
 have k:=U6.1 h
 refine A9e (A0x _) (H8.1 k.1).2.1 fun d=>?_
 rw[A6p]
 show(D0 (U5 s.adds) d || D0 (B6 s.gone (U5 s.adds)) d)=_
 rw[A5i]
 cases c:D0 (U5 s.adds) d with
 | false=>simp
 | true =>
  obtain⟨e,he,rfl⟩:=(A0w (H8.1 k.1).1 d).1 c
  rw[k.2.1 e he]
  rfl
theorem Al0{s:Facts}(h:okS s=true):stF (B5s s)=s:=by
 unfold stF
 rw[B9t h,B5t h]
 show(⟨s.adds,s.gone,K0 s.recs s.gone⟩:Facts)=s
 rw[Bq1 h]
theorem A33{rs:List Record}{p:Past}(h:B0s rs):B0s (K0 rs p):=⟨fun r hr=>h.1 r (List.mem_filter.1 hr).1,List.Pairwise.sublist List.filter_sublist h.2⟩
theorem A4m{f:Facts}{e:Entry}(h:e∈Z8 f):e∈f.adds:=(A32.1 h).1
theorem Ac0{rs:List Record}{p:Record→Bool}{e:Entry}(h:E5 rs e=0):E5 (rs.filter p) e=0:=by
 rw[J9]at h ⊢
 rintro⟨r,hr,k⟩
 exact h ⟨r,(List.mem_filter.1 hr).1,k⟩
theorem Z9{f:Facts}(h:okF f=true):okS (stF f)=true:=by
 have k:=H8.1 h
 rw[U6]
 refine⟨H8.2 ⟨B5p h,A0x f,A33 k.2.2⟩,fun e he=>?_,fun r hr=>?_,fun e he=>?_⟩
 ·show D0 (C6 f) e.dot=true
  rw[A6p,(A0w k.1 e.dot).2 ⟨e,A4m he,rfl⟩]
  rfl
 ·exact of_decide_eq_true (List.mem_filter.1 hr).2
 ·exact Ac0 (A32.1 he).2.2
end Go.Proofs.YtokhjapfekbobaaGreat
namespace Go.Proofs.YtokhjapfekbobaaGreat
open Go.E
set_option maxRecDepth 100000
set_option maxHeartbeats 4000000
theorem B5u{s:Facts}(h:¬D2 s.adds=0∨¬s.gone=A5 s.gone∨¬D9 s.recs=0):A6w s=1:=by
 unfold A6w
 rw[if_neg]
 intro k
 have k:=D7.1 (U6.1 k).1
 rcases h with h | h | h
 ·exact h k.1
 ·exact h k.2.1
 ·exact h k.2.2
theorem A35{s:Facts}(h:¬(¬D2 s.adds=0∨¬s.gone=A5 s.gone∨¬D9 s.recs=0)):okF s=true :=
 D7.2 ⟨Classical.not_not.1 fun k=>h (.inl k),Classical.not_not.1 fun k=>h (.inr (.inl k)),Classical.not_not.1 fun k=>h (.inr (.inr k))⟩
theorem Az7{s:Facts}(h:okF s=true):U1 s.recs s.gone=(K0 s.recs s.gone,0):=Ab0 (D7.1 h).2.2 (D7.1 h).2.1
theorem Al1{s:Facts}(h:okF s=true):I0 s.adds s.recs=(s.adds.filter fun e=>decide (E5 s.recs e=0),0):=by
 unfold I0
 rw[if_pos ⟨(D7.1 h).1,(D7.1 h).2.2⟩]
theorem A6q{p:Past}(h:p=A5 p):p.cloud.length*16≤140737488350000:=by have:=Y6 h;omega
theorem B5v(es:List Entry):(F8 es).1.cloud.length*16≤140737488350000:=by have:=B5a es;omega
theorem Ar6{f:Facts}(h:szB 7 f):f.recs.length*64≤140737488350000:=by have:=h.2.1;omega
theorem Bq3{rs:List Record}(h:D9 rs=0):F6 rs=(rs,0):=by
 have k:=(H5 rs).1 h
 unfold F6
 rw[if_pos (Ay5 k.1),Ay4 k.1,← B98 (A0u h) k.2 (fun r=>Iff.rfl)]
theorem Ac1{es:List Entry}(h:D2 es=0):(F8 es).1=U5 es:=by rw[Ab5 h]
theorem B5w{s:Facts}(h:¬ okS s=true):A6w s=1:=by unfold A6w;rw[if_neg h]
theorem U7{s:Facts}(h:okS s=true):okF s=true:=(U6.1 h).1
theorem A0y{f:Facts}(h:¬(N0 f).2=0):¬ okF f=true∧(N0 f).2=1:=by
 by_cases k:okF f=true
 ·rw[B5q k]at h;exact absurd rfl h
 ·exact⟨k,by unfold N0;rw[if_neg k]⟩
theorem A0z{f:Facts}(h:¬ ¬(N0 f).2=0):okF f=true:=by
 by_cases k:okF f=true
 ·exact k
 ·exact absurd (by unfold N0;rw[if_neg k];decide) h
theorem Ar7{f:Facts}(h:okF f=true):O2 f=(C6 f,0):=Ar5 h
theorem B9u{f:Facts}(h:okF f=true):U1 f.recs (O2 f).1=(K0 f.recs (C6 f),0):=by
 rw[Ar7 h]
 exact Ab0 (D7.1 h).2.2 (A0x f)
theorem A6r(rs:List Record)(p:Past):(K0 rs p).length≤rs.length:=List.length_filter_le _ _
theorem con23(s:Facts)(hb:szB 7 s):Con Tryz.prog 23 [.agg (c31 s)] (.i .i64 (A6w s)) :=
 by
 refine sC A9 [.tmp 2] 64 Tryz.func23 ?_
 intro e0 cx
 refine sq<|rG cx [1] [1] z0<|sn<|sq<|sq<|B3 (σ':=⟨[(1,.ptr (1) (0) (0) (0)),(24,.b (decide (¬D2 s.adds=0∨¬s.gone=A5 s.gone∨¬D9 s.recs=0)))],[(1,⟨0,31,.var [.sl (List.map c67 s.adds),.sl (List.map c3 s.gone.vec),.sl (List.map B5 s.gone.cloud),.sl (List.map c83 s.recs)]⟩)]⟩) ?_ ?_
 refine A4 (¬D2 s.adds=0) (fun h1=>?_) (fun h1=>?_)
 refine rG cx [1,24] [1] (fT (A2j (s.adds)) (tT 3 (D1 h1:AV.b (D2 s.adds !=0)=AV.b true) (tD 15 true (¬D2 s.adds=0∨¬s.gone=A5 s.gone∨¬D9 s.recs=0) (by simp only [eq_false h1,tsl]) (oA 2 (.i .i64 (D2 s.adds)) z0)))) ?_
 exact⟨rfl,by kernel_rfl⟩
 refine A4 (¬s.gone=A5 s.gone) (fun h2=>?_) (fun h2=>?_)
 refine rg (A:=_∧(AV.b (D2 s.adds !=0)=AV.b (decide ¬D2 s.adds=0))∧_∧_∧_∧(AV.b true=AV.b (decide (¬D2 s.adds=0∨¬s.gone=A5 s.gone∨¬D9 s.recs=0)))) cx [(2,{ val:=some (.i .i64 (D2 s.adds)) }),(3,{ tell:=some (.b (decide ¬D2 s.adds=0)) }),(4,{ tell:=some (.b (false)) }),(7,{ val:=some (.b (decide (s.gone=A5 s.gone))),tell:=some (.b (false)) }),(15,{ tell:=some (.b (decide (¬D2 s.adds=0∨¬s.gone=A5 s.gone∨¬D9 s.recs=0))) })] [1,24] [1] ⟨(A2j (s.adds)),(E9),(A0 h1),(A0 h2),(Ag2 (s.gone) (by exact hb.1.1.1)),(by first | (simp only [eq_false h1,eq_false h2,tsl];done) | simp_all)⟩ ?_
 exact⟨rfl,by kernel_rfl⟩
 refine rG cx [1,24] [1] (fT (A2j (s.adds)) (tN 3 (D2 s.adds) (0:Int) (tT 4 (A0 h1) (fT (Ag2 (s.gone) (by exact hb.1.1.1)) (tQ 8 (s.gone=A5 s.gone) (tT 9 (A0 h2) (fT (A9m (s.recs) (by exact A7a hb.1.2)) (tN 14 (D9 s.recs) (0:Int) (tT 15 (by first | (simp only [eq_false h1,eq_false h2,tsl];done) | simp_all:AV.b (decide ¬D9 s.recs=0)=AV.b (decide (¬D2 s.adds=0∨¬s.gone=A5 s.gone∨¬D9 s.recs=0))) (oA 2 (.i .i64 (D2 s.adds)) (oA 7 (.b (decide (s.gone=A5 s.gone))) (oA 13 (.i .i64 (D9 s.recs)) z0)))))))))))) ?_
 exact⟨rfl,by kernel_rfl⟩
 refine sn<|dC (¬D2 s.adds=0∨¬s.gone=A5 s.gone∨¬D9 s.recs=0) (fun h3=>?_) fun h3=>?_
 refine sq<|rG cx [2] [] z0<|sn<|rT<|nR<|qR (.i .i64 ((1:Int))) (.eq (by rw[B5u h3]))
 refine sK<|sn<|sq<|sq<|rG cx [1,3] [1,3] (fT (Bp3 (s.adds)) (oA 2 (.tup [.agg [.sl (List.map c3 (F8 s.adds).1.vec),.sl (List.map B5 (F8 s.adds).1.cloud)],.i .i64 ((F8 s.adds).2)]) z0))<|sn<|sq<|rG cx [1,35] [1] (fT (B8y ((F8 s.adds).1) (s.gone) (by exact B5v _) (by exact hb.1.1.1)) (tQ 4 (C2 (B6 (F8 s.adds).1 s.gone)=0) (oA 3 (.b (decide (C2 (B6 (F8 s.adds).1 s.gone)=0))) z0))) ?_
 refine sn<|dC (¬C2 (B6 (F8 s.adds).1 s.gone)=0) (fun h4=>?_) fun h4=>?_
 refine sq<|rG cx [2] [] z0<|sn<|rT<|nR<|qR (.i .i64 ((1:Int))) (.eq ?g6);rotate_left
 refine sK<|sn<|sq<|sq<|rG cx [1,5] [1] (fT (con48 (s.recs) (s.gone) (by exact A7a hb.1.2) (by exact Ar6 hb) (by exact hb.1.1.1)) (oA 4 (.tup [.sl (List.map c83 (U1 s.recs s.gone).1),.i .i64 ((U1 s.recs s.gone).2)]) z0)) ?_
 refine sn<|sq<|rG cx [1,49] [1] (tL 1 c83 ((U1 s.recs s.gone).1) (tL 4 c83 s.recs (tN 5 (↑(U1 s.recs s.gone).1.length:Int) (↑s.recs.length:Int) z0)))<|sn<|dC (¬(↑(U1 s.recs s.gone).1.length:Int)=(↑s.recs.length:Int)) (fun h5=>?_) fun h5=>?_
 refine sq<|rG cx [2] [] z0<|sn<|rT<|nR<|qR (.i .i64 ((1:Int))) (.eq ?g10);rotate_left
 refine sK<|sn<|sq<|sq<|rG cx [1,7] [1] (fT (con62 (s.adds) (s.recs) (by exact A7a hb.1.2) (by exact B5j hb (Nat.le_refl _))) (oA 4 (.tup [.sl (List.map c67 (I0 s.adds s.recs).1),.i .i64 ((I0 s.adds s.recs).2)]) z0)) ?_
 refine sn<|sq<|rG cx [63] [] (tL 1 c67 ((I0 s.adds s.recs).1) (tL 4 c67 s.adds (tN 5 (↑(I0 s.adds s.recs).1.length:Int) (↑s.adds.length:Int) z0)))<|sn<|dC (¬(↑(I0 s.adds s.recs).1.length:Int)=(↑s.adds.length:Int)) (fun h6=>?_) fun h6=>?_
 refine sq<|rG cx [2] [] z0<|sn<|rT<|nR<|qR (.i .i64 ((1:Int))) (.eq ?g13);rotate_left
 refine sK<|sn<|sq<|rG cx [2] [] z0<|sn<|rT<|qR (.i .i64 ((0:Int))) (.eq ?g14);rotate_left
 case g6 =>
  rw[Ac1 (D7.1 (A35 h3)).1]at h4
  rw[B5w fun c=>h4 ?_]
  have:=Ak9 s ▸ c
  exact(of_decide_eq_true this).2.1
 case g10 =>
  rw[Az7 (A35 h3)]at h5
  rw[B5w fun c=>h5 ?_]
  have:=Ak9 s ▸ c
  have:=(of_decide_eq_true this).2.2.1
  simp only
  omega
 case g13 =>
  rw[Al1 (A35 h3)]at h6
  rw[B5w fun c=>h6 ?_]
  have:=Ak9 s ▸ c
  have:=(of_decide_eq_true this).2.2.2
  simp only
  omega
 case g14 =>
  have f:=A35 h3
  rw[Ac1 (D7.1 f).1]at h4
  rw[Az7 f]at h5
  rw[Al1 f]at h6
  have h5:=Classical.not_not.1 h5
  have h6:=Classical.not_not.1 h6
  simp only at h5 h6
  rw[A0e.2]
  rw[Ak9]
  exact decide_eq_true ⟨f,Classical.not_not.1 h4,by omega,by omega⟩
end Go.Proofs.YtokhjapfekbobaaGreat
namespace Go.Proofs.YtokhjapfekbobaaGreat
open Go.E
set_option maxRecDepth 100000
set_option maxHeartbeats 4000000
theorem Ar8{live:List Entry}(h:W4 live){i j:Nat}(hij:i < j)(hj:j < live.length):dLt live[i]!.dot live[j]!.dot=true:=by
 have:=List.pairwise_iff_getElem.1 h.2 i j (by omega) hj hij
 rwa [getElem!_pos live i (by omega),getElem!_pos live j hj]
end Go.Proofs.YtokhjapfekbobaaGreat
namespace Go.Proofs.YtokhjapfekbobaaGreat
open Go.E
set_option maxRecDepth 100000
set_option maxHeartbeats 4000000
theorem lst_sz{es:List Entry}(h:D2 es=0):es.length*40≤140737488351232:=by have:=A0a (N9 h);omega
theorem Bq4{s:Facts}(h:¬D2 s.adds=0∨¬s.gone=A5 s.gone∨¬D9 s.recs=0):okS s=false:=by
 have:=B5u h
 unfold A6w at this
 split at this
 ·omega
 ·rename_i k;exact Bool.eq_false_iff.2 k
theorem Al2{l:List Record}{i:Int}(h0:0≤i)(hi:i < l.length):l[i.toNat]!∈l:=E2 (by omega)
theorem Bf0{l:List Entry}{i:Int}(h0:0≤i)(hi:i < l.length):l[i.toNat]!∈l:=E2 (by omega)
theorem Bq5{s:Facts}{i:Int}(h0:0≤i)(hi:i < s.recs.length)(k:C2 (B6 s.recs[i.toNat]!.past s.gone)=0):okS s=false :=
 Bool.eq_false_iff.2 fun c=>(U6.1 c).2.2.1 _ (Al2 h0 hi) k
theorem Bq6(rs:List Record)(e:Entry):0≤E5 rs e:=by unfold E5;omega
end Go.Proofs.YtokhjapfekbobaaGreat
namespace Go.Proofs.YtokhjapfekbobaaGreat
open Go.E
set_option maxRecDepth 100000
set_option maxHeartbeats 4000000
def szL(f:Facts):Prop:=f.adds.length*40≤140737488351232∧f.recs.length*64≤140737488350000
theorem Bq7(f:Facts):(Z8 f).length≤f.adds.length:=Nat.le_trans (List.length_filter_le _ _) (List.length_filter_le _ _)
theorem Az8{p:Past}(h:p=A5 p):szP p:=by
 have k:=N3 (A8 [p])
 rw[h]
 exact⟨by show(G1 (A8 [p])).cloud.length*16≤_;omega,by show(G1 (A8 [p])).vec.length≤_;omega⟩
theorem A1d{f:Facts}(h:okF f=true):szF f:=⟨Az8 (D7.1 h).2.1,fun r hr=>Az8 (A0u (D7.1 h).2.2 r hr)⟩
end Go.Proofs.YtokhjapfekbobaaGreat
namespace Go.Proofs.YtokhjapfekbobaaGreat
open Go.E
set_option maxRecDepth 100000
set_option maxHeartbeats 4000000
noncomputable def A7(f:Facts):Facts×Int:=if okF f=true then(stF f,0)else(zeroF,1)
noncomputable def D5(s:Facts):Facts×Int:=if okS s=true then(B5s s,0)else(zeroF,1)
noncomputable def A6(f:Facts):Facts×Int:=if okF f=true then(B5s (stF f),0)else(zeroF,1)
noncomputable def M1(f s:Facts):Bool:=okF f && decide (stF f=s)
noncomputable def I6(f:Facts):Spent×Int:=if okF f=true then(⟨f.adds.length-(stF f).adds.length,C2 f.gone,f.recs.length-(stF f).recs.length⟩,0)else(default,1)
theorem J3{f:Facts}(h:okF f=true):A7 f=(stF f,0):=by unfold A7;rw[if_pos h]
theorem A1e{f:Facts}(h:¬ okF f=true):A7 f=(zeroF,1):=by unfold A7;rw[if_neg h]
theorem A1o{s:Facts}(h:okS s=true):D5 s=(B5s s,0):=by unfold D5;rw[if_pos h]
theorem B5x{s:Facts}(h:¬ okS s=true):D5 s=(zeroF,1):=by unfold D5;rw[if_neg h]
theorem A6s{f:Facts}(h:okF f=true):A6 f=(B5s (stF f),0):=by unfold A6;rw[if_pos h]
theorem A3z{f:Facts}(h:¬ okF f=true):A6 f=(zeroF,1):=by unfold A6;rw[if_neg h]
theorem B5y{f:Facts}(h:okF f=true):I6 f=(⟨f.adds.length-(stF f).adds.length,C2 f.gone,f.recs.length-(stF f).recs.length⟩,0):=by unfold I6;rw[if_pos h]
theorem Bf1{f:Facts}(h:¬ okF f=true):I6 f=(default,1):=by unfold I6;rw[if_neg h]
theorem K9{f:Facts}(h:¬ ¬(A7 f).2=0):okF f=true:=by
 by_cases k:okF f=true
 ·exact k
 ·rw[A1e k]at h;exact absurd (by decide) h
theorem Z4{f:Facts}(h:¬(A7 f).2=0):¬ okF f=true:=fun k=>h (by rw[J3 k])
theorem Bq8{f:Facts}{n:Nat}(h:szB n f)(k:okF f=true):szB n (stF f) :=
 ⟨A1d (U7 (Z9 k)),Nat.le_trans (A6r f.recs (C6 f)) h.2.1,Nat.le_trans (A4l (List.filter_sublist (l:=f.recs))) h.2.2⟩
theorem A3n(f:Facts)(hb:szB 7 f):Con Tryz.prog 11 [.agg (c29 f)] (.tup [.agg (c31 (A7 f).1),.i .i64 (A7 f).2]) :=
 by
 refine sC A9 [.cell 2 31,.tmp 3] 35 Tryz.func11 ?_
 intro e0 cx
 refine sq<|rG cx [1,2] [1,2] z0<|sn<|sq<|rG cx [1,2,4,5] [1,2] (fT (con21 (f) (by(with_reducible assumption))) (oA 1 (.tup [.sl (List.map c67 (N0 f).1),.i .i64 ((N0 f).2)]) z0))<|sn<|sq<|sq<|rG cx [1,2,4,5,16] [1,2] (tN 1 ((N0 f).2) (0:Int) z0)<|sn<|dC (¬(N0 f).2=0) (fun h0=>?_) fun h0=>?_
 refine sq<|rG cx [2,3] [2] z0<|sn<|rT<|nR<|qR (.tup [.agg [.nl,.nl,.nl,.nl],.i .i64 ((N0 f).2)]) (B9.tup (ZLe.cons (B9.agg (ZLe.cons (B9.nl' (show List.map c67 (A7 f).1.adds=[]from(by rw[A1e (A0y h0).1];rfl))) (ZLe.cons (B9.nl' (show List.map c3 (A7 f).1.gone.vec=[]from(by rw[A1e (A0y h0).1];rfl))) (ZLe.cons (B9.nl' (show List.map B5 (A7 f).1.gone.cloud=[]from(by rw[A1e (A0y h0).1];rfl))) (ZLe.cons (B9.nl' (show List.map c83 (A7 f).1.recs=[]from(by rw[A1e (A0y h0).1];rfl))) ZLe.nil))))) (ZLe.cons (B9.eq (show AV.i .i64 (N0 f).2=AV.i .i64 (A7 f).2 from(by rw[(A0y h0).2,A1e (A0y h0).1]))) ZLe.nil)))
 refine sK<|sn<|sq<|rG cx [1,2,4,6] [1,2,6] (fT (con22 (f) (by exact hb.1)) (oA 1 (.tup [.agg [.sl (List.map c3 (O2 f).1.vec),.sl (List.map B5 (O2 f).1.cloud)],.i .i64 ((O2 f).2)]) z0)) ?_
 refine sn<|sq<|rG cx [2,4,6,8] [2,6] (fT (con48 (f.recs) ((O2 f).1) (by exact A7a hb.1.2) (by exact Ar6 hb) (by rw[Ar7 (A0z h0)];exact A6q (A0x f))) (oA 3 (.tup [.sl (List.map c83 (U1 f.recs (O2 f).1).1),.i .i64 ((U1 f.recs (O2 f).1).2)]) z0)) ?_
 refine sn<|sq<|rG cx [2,3] [2] z0<|sn<|rT<|qR (.tup [.agg [.sl (List.map c67 (N0 f).1),.sl (List.map c3 (O2 f).1.vec),.sl (List.map B5 (O2 f).1.cloud),.sl (List.map c83 (U1 f.recs (O2 f).1).1)],.i .i64 ((0:Int))]) (B9.tup (ZLe.cons (B9.eq (show AV.agg [AV.sl (List.map c67 (N0 f).1),AV.sl (List.map c3 (O2 f).1.vec),AV.sl (List.map B5 (O2 f).1.cloud),AV.sl (List.map c83 (U1 f.recs (O2 f).1).1)]=AV.agg [AV.sl (List.map c67 (A7 f).1.adds),AV.sl (List.map c3 (A7 f).1.gone.vec),AV.sl (List.map B5 (A7 f).1.gone.cloud),AV.sl (List.map c83 (A7 f).1.recs)]from(by rw[J3 (A0z h0),B9u (A0z h0),Ar7 (A0z h0),B5q (A0z h0)];rfl))) (ZLe.cons (B9.eq (show AV.i .i64 0=AV.i .i64 (A7 f).2 from(by rw[J3 (A0z h0)]))) ZLe.nil)))
theorem Bq9(s:Facts)(hb:szB 7 s):Con Tryz.prog 10 [.agg (c31 s)] (.tup [.agg (c29 (D5 s).1),.i .i64 (D5 s).2]) :=
 by
 have n:¬ A6w s=0→D5 s=(zeroF,1):=fun h=>B5x fun k=>h (A0e.2 k)
 have y:¬ ¬ A6w s=0→okS s=true:=fun h=>A0e.1 (Classical.not_not.1 h)
 refine sC A9 [.cell 2 29,.tmp 3] 33 Tryz.func10 ?_
 intro e0 cx
 refine sq<|rG cx [1,2] [1,2] z0<|sn<|sq<|sq<|rG cx [1,2,10] [1,2] (fT (con23 (s) (by(with_reducible assumption))) (tN 2 (A6w s) (0:Int) (oA 1 (.i .i64 (A6w s)) z0)))<|sn<|dC (¬A6w s=0) (fun h0=>?_) fun h0=>?_
 refine sq<|rG cx [2,3] [2] z0<|sn<|rT<|nR<|qR (.tup [.agg [.nl,.nl,.nl,.nl],.i .i64 ((1:Int))]) (B9.tup (ZLe.cons (B9.agg (ZLe.cons (B9.nl' (show List.map c67 (D5 s).1.adds=[]from(by rw[n h0];rfl))) (ZLe.cons (B9.nl' (show List.map c3 (D5 s).1.gone.vec=[]from(by rw[n h0];rfl))) (ZLe.cons (B9.nl' (show List.map B5 (D5 s).1.gone.cloud=[]from(by rw[n h0];rfl))) (ZLe.cons (B9.nl' (show List.map c83 (D5 s).1.recs=[]from(by rw[n h0];rfl))) ZLe.nil))))) (ZLe.cons (B9.eq (show AV.i .i64 1=AV.i .i64 (D5 s).2 from(by rw[n h0]))) ZLe.nil)))
 refine sK<|sn<|sq<|rG cx [1,2,4] [1,2,4] (fT (Bp3 (s.adds)) (oA 2 (.tup [.agg [.sl (List.map c3 (F8 s.adds).1.vec),.sl (List.map B5 (F8 s.adds).1.cloud)],.i .i64 ((F8 s.adds).2)]) z0))<|sn<|sq<|rG cx [1,2,4,6] [1,2,4] (fT (con45 (s.recs) (by exact A7a hb.1.2) (by exact Ar6 hb)) (oA 2 (.tup [.sl (List.map c83 (F6 s.recs).1),.i .i64 ((F6 s.recs).2)]) z0)) ?_
 refine sn<|sq<|rA cx [2,3] [2] (fT (con46 (s.adds) (by have:=lst_sz (D7.1 (U7 (y h0))).1;omega)) (fT (con47 (s.gone) ((F8 s.adds).1) (by exact hb.1.1.1) (by exact B5v _)) (oV 2 { val:=some (.own (67:Nat) (4:Nat)),rows:=some (List.map c67 s.adds) } (oA 6 (.agg [.sl (List.map c3 (B6 s.gone (F8 s.adds).1).vec),.sl (List.map B5 (B6 s.gone (F8 s.adds).1).cloud)]) z0)))) ?_
 refine sn<|rT<|qR (.tup [.agg [.sl (((E.look [(2,{ val:=some (AV.own (67:Nat) (4:Nat)),rows:=some (List.map c67 s.adds):Ov })] (2)).getD {:Ov }).rows.getD []),.sl (List.map c3 (B6 s.gone (F8 s.adds).1).vec),.sl (List.map B5 (B6 s.gone (F8 s.adds).1).cloud),.sl (List.map c83 (F6 s.recs).1)],.i .i64 ((0:Int))]) (B9.tup (ZLe.cons (B9.eq (show AV.agg [AV.sl (((E.look [(2,{ val:=some (AV.own (67:Nat) (4:Nat)),rows:=some (List.map c67 s.adds):Ov })] (2)).getD {:Ov }).rows.getD []),AV.sl (List.map c3 (B6 s.gone (F8 s.adds).1).vec),AV.sl (List.map B5 (B6 s.gone (F8 s.adds).1).cloud),AV.sl (List.map c83 (F6 s.recs).1)]=AV.agg [AV.sl (List.map c67 (D5 s).1.adds),AV.sl (List.map c3 (D5 s).1.gone.vec),AV.sl (List.map B5 (D5 s).1.gone.cloud),AV.sl (List.map c83 (D5 s).1.recs)]from ?g11)) (ZLe.cons (B9.eq (show AV.i .i64 0=AV.i .i64 (D5 s).2 from(by rw[A1o (y h0)]))) ZLe.nil)));rotate_left
 case g11 =>
  have f:=D7.1 (U7 (y h0))
  rw[A1o (y h0),Bq3 f.2.2,Ac1 f.1]
  rfl
theorem B1i(f:Facts)(hb:szB 7 f):Con Tryz.prog 15 [.agg (c29 f)] (.tup [.agg (c29 (A6 f).1),.i .i64 (A6 f).2]) :=
 by
 refine sC A9 [.cell 2 29,.tmp 3] 19 Tryz.func15 ?_
 intro e0 cx
 refine sq<|rG cx [1,2] [1,2] z0<|sn<|sq<|rG cx [2,4,5] [2,4] (fT (A3n (f) (by(with_reducible assumption))) (oA 1 (.tup [.agg [.sl (List.map c67 (A7 f).1.adds),.sl (List.map c3 (A7 f).1.gone.vec),.sl (List.map B5 (A7 f).1.gone.cloud),.sl (List.map c83 (A7 f).1.recs)],.i .i64 ((A7 f).2)]) z0))<|sn<|sq<|sq<|rG cx [2,4,5,12] [2,4] (tN 1 ((A7 f).2) (0:Int) z0)<|sn<|dC (¬(A7 f).2=0) (fun h0=>?_) fun h0=>?_
 refine sq<|rG cx [2,3] [2] z0<|sn<|rT<|nR<|qR (.tup [.agg [.nl,.nl,.nl,.nl],.i .i64 ((A7 f).2)]) (B9.tup (ZLe.cons (B9.agg (ZLe.cons (B9.nl' (show List.map c67 (A6 f).1.adds=[]from(by rw[A3z (Z4 h0)];rfl))) (ZLe.cons (B9.nl' (show List.map c3 (A6 f).1.gone.vec=[]from(by rw[A3z (Z4 h0)];rfl))) (ZLe.cons (B9.nl' (show List.map B5 (A6 f).1.gone.cloud=[]from(by rw[A3z (Z4 h0)];rfl))) (ZLe.cons (B9.nl' (show List.map c83 (A6 f).1.recs=[]from(by rw[A3z (Z4 h0)];rfl))) ZLe.nil))))) (ZLe.cons (B9.eq (show AV.i .i64 (A7 f).2=AV.i .i64 (A6 f).2 from(by rw[A1e (Z4 h0),A3z (Z4 h0)]))) ZLe.nil)))
 refine sK<|sn<|sq<|rG cx [2,3] [2] (fT (Bq9 ((A7 f).1) (by rw[J3 (K9 h0)];exact Bq8 hb (K9 h0))) (oA 1 (.tup [.agg [.sl (List.map c67 (D5 (A7 f).1).1.adds),.sl (List.map c3 (D5 (A7 f).1).1.gone.vec),.sl (List.map B5 (D5 (A7 f).1).1.gone.cloud),.sl (List.map c83 (D5 (A7 f).1).1.recs)],.i .i64 ((D5 (A7 f).1).2)]) z0)) ?_
 refine sn<|rT<|qR (.tup [.agg [.sl (List.map c67 (D5 (A7 f).1).1.adds),.sl (List.map c3 (D5 (A7 f).1).1.gone.vec),.sl (List.map B5 (D5 (A7 f).1).1.gone.cloud),.sl (List.map c83 (D5 (A7 f).1).1.recs)],.i .i64 ((D5 (A7 f).1).2)]) (B9.tup (ZLe.cons (B9.eq (show AV.agg [AV.sl (List.map c67 (D5 (A7 f).1).1.adds),AV.sl (List.map c3 (D5 (A7 f).1).1.gone.vec),AV.sl (List.map B5 (D5 (A7 f).1).1.gone.cloud),AV.sl (List.map c83 (D5 (A7 f).1).1.recs)]=AV.agg [AV.sl (List.map c67 (A6 f).1.adds),AV.sl (List.map c3 (A6 f).1.gone.vec),AV.sl (List.map B5 (A6 f).1.gone.cloud),AV.sl (List.map c83 (A6 f).1.recs)]from(by rw[J3 (K9 h0),A1o (Z9 (K9 h0)),A6s (K9 h0)]))) (ZLe.cons (B9.eq (show AV.i .i64 (D5 (A7 f).1).2=AV.i .i64 (A6 f).2 from(by rw[J3 (K9 h0),A1o (Z9 (K9 h0)),A6s (K9 h0)]))) ZLe.nil)))
theorem con17(f:Facts)(hb:szB 7 f):Con Tryz.prog 17 [.agg (c29 f)] (.tup [.agg (c48 (I6 f).1),.i .i64 (I6 f).2]) :=
 by
 refine sC A9 [.cell 2 48,.tmp 3] 33 Tryz.func17 ?_
 intro e0 cx
 refine sq<|rG cx [1,2] [1,2] z0<|sn<|sq<|rG cx [1,2,4,5] [1,2,4] (fT (A3n (f) (by(with_reducible assumption))) (oA 1 (.tup [.agg [.sl (List.map c67 (A7 f).1.adds),.sl (List.map c3 (A7 f).1.gone.vec),.sl (List.map B5 (A7 f).1.gone.cloud),.sl (List.map c83 (A7 f).1.recs)],.i .i64 ((A7 f).2)]) z0))<|sn<|sq<|sq<|rG cx [1,2,4,5,12] [1,2,4] (tN 1 ((A7 f).2) (0:Int) z0)<|sn<|dC (¬(A7 f).2=0) (fun h0=>?_) fun h0=>?_
 refine sq<|rG cx [2,3] [2] z0<|sn<|rT<|nR<|qR (.tup [.agg [.i .i64 ((0:Int)),.i .i64 ((0:Int)),.i .i64 ((0:Int))],.i .i64 ((A7 f).2)]) (B9.tup (ZLe.cons (B9.eq (show AV.agg [AV.i .i64 (0:Int),AV.i .i64 (0:Int),AV.i .i64 (0:Int)]=AV.agg [AV.i .i64 (I6 f).1.adds,AV.i .i64 (I6 f).1.gone,AV.i .i64 (I6 f).1.recs]from(by rw[Bf1 (Z4 h0)];rfl))) (ZLe.cons (B9.eq (show AV.i .i64 (A7 f).2=AV.i .i64 (I6 f).2 from(by rw[A1e (Z4 h0),Bf1 (Z4 h0)]))) ZLe.nil)))
 refine sK<|sn<|sq<|rA cx [2,3] [2] (tL 2 c67 f.adds (tL 5 c67 ((A7 f).1.adds) (tT 6 (B7 (by rw[J3 (K9 h0)];have:=Bq7 f;show _≤(f.adds.length:Int)-(Z8 f).length;omega) (by have:=A0a (N9 (D7.1 (K9 h0)).1);omega):AV.i .i64 (IntKind.i64.wrap ((↑f.adds.length:Int)-(↑(A7 f).1.adds.length:Int)))=AV.i .i64 ((↑f.adds.length:Int)-(↑(A7 f).1.adds.length:Int))) (fT (con55 (f.gone) (by exact hb.1.1.1)) (tL 12 c83 f.recs (tL 15 c83 ((A7 f).1.recs) (tT 16 (B7 (by rw[J3 (K9 h0)];have:=A6r f.recs (C6 f);show _≤(f.recs.length:Int)-(K0 f.recs (C6 f)).length;omega) (by have:=hb.2.1;omega):AV.i .i64 (IntKind.i64.wrap ((↑f.recs.length:Int)-(↑(A7 f).1.recs.length:Int)))=AV.i .i64 ((↑f.recs.length:Int)-(↑(A7 f).1.recs.length:Int))) (oA 9 (.i .i64 (C2 f.gone)) z0)))))))) ?_
 refine sn<|rT<|qR (.tup [.agg [.i .i64 ((↑f.adds.length:Int)-(↑(A7 f).1.adds.length:Int)),.i .i64 (C2 f.gone),.i .i64 ((↑f.recs.length:Int)-(↑(A7 f).1.recs.length:Int))],.i .i64 ((0:Int))]) (B9.tup (ZLe.cons (B9.eq (show AV.agg [AV.i .i64 ((↑f.adds.length:Int)-(↑(A7 f).1.adds.length:Int)),AV.i .i64 (C2 f.gone),AV.i .i64 ((↑f.recs.length:Int)-(↑(A7 f).1.recs.length:Int))]=AV.agg [AV.i .i64 (I6 f).1.adds,AV.i .i64 (I6 f).1.gone,AV.i .i64 (I6 f).1.recs]from(by rw[B5y (K9 h0),J3 (K9 h0)]))) (ZLe.cons (B9.eq (show AV.i .i64 0=AV.i .i64 (I6 f).2 from(by rw[B5y (K9 h0)]))) ZLe.nil)))
end Go.Proofs.YtokhjapfekbobaaGreat
namespace Go.Proofs.YtokhjapfekbobaaGreat
open Go.E
set_option maxRecDepth 100000
set_option maxHeartbeats 4000000
theorem A36{f s:Facts}:M1 f s=true↔okF f=true∧stF f=s:=by unfold M1;rw[Bool.and_eq_true,decide_eq_true_iff]
theorem Br0{f s:Facts}(h:¬(okF f=true∧okS s=true)):M1 f s=false:=Bool.eq_false_iff.2 fun k=>by
 obtain⟨a,b⟩:=A36.1 k
 exact h ⟨a,b ▸ Z9 a⟩
theorem B5z{a b:Past}(ha:a=A5 a)(hb:b=A5 b):Ac6 a b=0↔a=b:=by
 unfold Ac6
 constructor
 ·intro h
  by_cases c:C2 (B6 a b)=0∧C2 (B6 b a)=0
  ·exact A9e ha hb fun d=>by
    have h1:=N1.1 c.1 d
    have h2:=N1.1 c.2 d
    exact Bool.eq_iff_iff.2 ⟨h1,h2⟩
  ·rw[if_neg c]at h
   split at h
   ·omega
   ·split at h <;> omega
 ·rintro rfl
  have:C2 (B6 a a)=0:=N1.2 fun d h=>h
  rw[if_pos ⟨this,this⟩]
theorem Br1(a b:List Entry):Con Tryz.prog 50 [.sl (a.map c67),.sl (b.map c67)] (.b (decide (a=b))) :=
 by
 refine lN 0 c67 (a) Tryz.func50 fun hl_0=>lN 1 c67 (b) Tryz.func50 fun hl_1=>sC A9 [.tmp 4] 26 Tryz.func50 ?_
 intro e0 cx
 refine sq<|rG cx [0,1] [] z0<|sn<|sq<|sq<|rG cx [0,1,10] [] (tL 1 c67 a (tL 3 c67 b (tN 4 (↑a.length:Int) (↑b.length:Int) z0)))<|sn<|dC (¬(↑a.length:Int)=(↑b.length:Int)) (fun hh0=>?_) fun hh0=>?_
 refine sq<|rG cx [4] [] z0<|sn<|rT<|nR<|qR (.b (false)) (.eq (by exact(by rw[decide_eq_false (fun k=>hh0 (by rw[k]))])))
 refine sK<|sn<|sq<|sq<|rG cx [0,1,12,13] [] (tL 1 c67 a z0)<|sn<|bL 0<|sL (X:=Int) (fun x=>⟨[(0,.sl (List.map c67 a)),(1,.sl (List.map c67 b)),(12,.i .i64 ((↑a.length:Int))),(13,.i .i64 (x))],[]⟩) (fun x ↦ Bt6 a b x) (fun x ↦ Ac5 a b x) [0,1,12,13] [] ((0:Int)) (show Ac5 a b (0:Int)from(by exact⟨by omega,by omega,by omega,fun j hj=>by omega⟩)) ?_
 intro i1 h_2
 obtain⟨hh3,hh4,hh5,h6⟩:0≤i1∧i1≤(↑a.length:Int)∧a.length=b.length∧∀(j:Nat),(↑j:Int) < i1→a[j]! = b[j]!:=h_2
 refine rE cx [0,1,12,13,14] [] (zB 0 (i1 <(↑a.length:Int))) (fun h7=>?_) fun h7=>?_
 refine sK<|sn<|sq<|bL 1<|sq<|rG cx [0,1,12,13,5] [] z0<|sn<|sq<|rA cx [0,1,12,13,24] [] (fA (0≤i1) (fG c67 a i1.toNat (fR 4 (fN 4 4 (fA (0≤i1) (fG c67 b i1.toNat (fR 4 (fN 4 4 (fT (V5 (eq67 a[i1.toNat]! b[i1.toNat]!)) (oR 2 (c67 a[i1.toNat]!) (oR 6 (c67 b[i1.toNat]!) (oA 8 (.b (decide ¬a[i1.toNat]! = b[i1.toNat]!)) z0))))))))))))<|sn<|dC (¬a[i1.toNat]! = b[i1.toNat]!) (fun h8=>?_) fun h8=>?_
 refine sq<|rG cx [4] [] z0<|sn<|rT<|bR<|nR<|nR<|bR<|nR<|qR (.b (false)) (.eq (by exact(by rw[decide_eq_false (fun k=>h8 (by rw[k]))])))
 refine sK<|bN<|sn<|rG cx [0,1,12,13] [] (tW 0 (i1+1) z0)<|sn<|nX (i1+1) (show((↑a.length:Int)-(i1+1)).toNat <((↑a.length:Int)-i1).toNat from(by omega)) (show Ac5 a b (i1+1)from ?g3);rotate_left
 refine eX 0<|nE<|nE<|bH<|sn<|sq<|rG cx [4] [] z0<|sn<|rT<|qR (.b (true)) (.eq (by exact(by rw[decide_eq_true (L8 hh5 fun j hj=>h6 j (by omega))])))
 case g3=>revert hh0 i1 hh3 hh4 hh5 h6 h7 h8;exact(fun h i h0 h1 h2 h3 h4 h5=>⟨by omega,by omega,h2,fun j hj=>by
   by_cases e:j=i.toNat
   ·rw[e];exact Classical.not_not.1 h5
   ·exact h3 j (by omega)⟩)
theorem con53(a b:Record)(ha:szR a)(hb:szR b):Con Tryz.prog 53 [.agg (c83 a),.agg (c83 b)] (.b (eqR a b)) :=
 by
 refine sC A9 [.tmp 4] 9 Tryz.func53 ?_
 intro e0 cx
 refine sq<|rG cx [2,3] [2,3] z0<|sn<|sq<|rG cx [4] [] (fT (B85 (a) (b) (by(with_reducible assumption)) (by(with_reducible assumption))) (tB 3 (D6 a b=0) (oA 2 (.i .i64 (D6 a b)) z0)))<|sn<|rT<|qR (.b (decide (D6 a b=0))) (.eq ?g0);rotate_left
 case g0=>exact rfl
theorem con52(a b:List Record)(ha:P0 a)(hb:P0 b)(hl:a.length≤4611686018427387904):Con Tryz.prog 52 [.sl (a.map c83),.sl (b.map c83),.fn (.func 53) [] []] (.b (decide (a=b))) :=
 by
 have EQ:∀ {i:Int},0≤i→i < a.length→a.length=b.length→(eqR a[i.toNat]! b[i.toNat]! = true↔a[i.toNat]! = b[i.toNat]!):=fun {i} h0 h1 h2=>by
  unfold eqR
  rw[decide_eq_true_iff]
  exact⟨fun h=>A9k (ha _ (Al2 h0 h1)) (hb _ (Al2 h0 (by omega))) h,fun h=>by rw[h];exact A3w.self _⟩
 refine lN 0 c83 (a) Tryz.func52 fun hl_0=>lN 1 c83 (b) Tryz.func52 fun hl_1=>sC A9 [.tmp 6] 32 Tryz.func52 ?_
 intro e0 cx
 refine sq<|rG cx [0,1,2] [] z0<|sn<|sq<|sq<|rG cx [0,1,2,14] [] (tL 1 c83 a (tL 3 c83 b (tN 4 (↑a.length:Int) (↑b.length:Int) z0)))<|sn<|dC (¬(↑a.length:Int)=(↑b.length:Int)) (fun hh0=>?_) fun hh0=>?_
 refine sq<|rG cx [6] [] z0<|sn<|rT<|nR<|qR (.b (false)) (.eq (by rw[decide_eq_false (fun k=>hh0 (by rw[k]))]))
 refine sK<|sn<|sq<|sq<|rG cx [1,2,15,16,17] [] (tL 1 c83 a z0)<|sn<|bL 0<|sL (X:=Int) (fun x=>⟨[(1,.sl (List.map c83 b)),(2,.fn (Fn.func (53:FuncId)) [] []),(15,.sl (List.map c83 a)),(16,.i .i64 ((↑a.length:Int))),(17,.i .i64 (x))],[]⟩) (fun x ↦ Bt6 a b x) (fun x ↦ Ac5 a b x) [1,2,15,16,17] [] ((0:Int)) (show Ac5 a b (0:Int)from(by exact⟨by omega,by omega,by omega,fun j hj=>by omega⟩)) ?_
 intro i1 h_2
 obtain⟨hh3,hh4,hh5,h6⟩:0≤i1∧i1≤(↑a.length:Int)∧a.length=b.length∧∀(j:Nat),(↑j:Int) < i1→a[j]! = b[j]!:=h_2
 refine rE cx [1,2,15,16,17,18] [] (zB 0 (i1 <(↑a.length:Int))) (fun h7=>?_) fun h7=>?_
 refine sK<|sn<|sq<|bL 1<|sq<|rG cx [1,2,15,16,17,8,7] [8] (fA (0≤i1) (fG c83 a i1.toNat (fR 3 (fN 3 3 (oR 1 (c83 a[i1.toNat]!) z0)))))<|sn<|sq<|rG cx [1,2,15,16,17,8,9] [8,9] (fA (0≤i1) (fG c83 b i1.toNat (fR 3 (fN 3 3 (oR 2 (c83 b[i1.toNat]!) z0)))))<|sn<|sq<|rG cx [1,2,15,16,17,30] [] (fT (con53 (a[i1.toNat]!) (b[i1.toNat]!) (by exact Aa9 ha _ (Al2 hh3 h7)) (by exact Aa9 hb _ (Al2 hh3 (by omega)))) (tT 4 (C9:(AV.b !eqR a[i1.toNat]! b[i1.toNat]!)=AV.b (decide ¬eqR a[i1.toNat]! b[i1.toNat]! = true)) (oA 3 (.b (eqR a[i1.toNat]! b[i1.toNat]!)) z0))) ?_
 refine sn<|dC (¬eqR a[i1.toNat]! b[i1.toNat]! = true) (fun h8=>?_) fun h8=>?_
 refine sq<|rG cx [6] [] z0<|sn<|rT<|bR<|nR<|nR<|bR<|nR<|qR (.b (false)) (.eq (by rw[decide_eq_false (fun k=>h8 ((EQ hh3 h7 hh5).2 (by rw[k])))]))
 refine sK<|bN<|sn<|rG cx [1,2,15,16,17] [] (tW 0 (i1+1) z0)<|sn<|nX (i1+1) (show((↑a.length:Int)-(i1+1)).toNat <((↑a.length:Int)-i1).toNat from(by omega)) (show Ac5 a b (i1+1)from ?g5);rotate_left
 refine eX 0<|nE<|nE<|bH<|sn<|sq<|rG cx [6] [] z0<|sn<|rT<|qR (.b (true)) (.eq (by rw[decide_eq_true (L8 hh5 fun j hj=>h6 j (by omega))]))
 case g5 =>
  refine⟨by omega,by omega,hh5,fun j hj=>?_⟩
  by_cases e:j=i1.toNat
  ·rw[e];exact(EQ hh3 h7 hh5).1 (Classical.not_not.1 h8)
  ·exact h6 j (by omega)
theorem B9v(f s:Facts)(hf:szB 7 f)(hs:szB 7 s):Con Tryz.prog 13 [.agg (c29 f),.agg (c31 s)] (.b (M1 f s)) :=
 by
 have yf:¬(¬(A7 f).2=0∨¬A6w s=0)→okF f=true:=fun h=>K9 fun k=>h (.inl k)
 have ys:¬(¬(A7 f).2=0∨¬A6w s=0)→okS s=true:=fun h=>A0e.1 (Classical.not_not.1 fun k=>h (.inr k))
 have fs:=fun h=>D7.1 (U7 (Z9 (yf h)))
 have ss:=fun h=>D7.1 (U7 (ys h))
 refine sC A9 [.tmp 4] 39 Tryz.func13 ?_
 intro e0 cx
 refine sq<|rG cx [2,3] [2,3] z0<|sn<|sq<|rG cx [3,5,6] [3,5] (fT (A3n (f) (by(with_reducible assumption))) (oA 1 (.tup [.agg [.sl (List.map c67 (A7 f).1.adds),.sl (List.map c3 (A7 f).1.gone.vec),.sl (List.map B5 (A7 f).1.gone.cloud),.sl (List.map c83 (A7 f).1.recs)],.i .i64 ((A7 f).2)]) z0))<|sn<|sq<|sq<|B3 (σ':=⟨[(3,.ptr (3) (0) (0) (0)),(5,.ptr (5) (0) (0) (0)),(18,.b (decide (¬(A7 f).2=0∨¬A6w s=0)))],[(3,⟨0,31,.var [.sl (List.map c67 s.adds),.sl (List.map c3 s.gone.vec),.sl (List.map B5 s.gone.cloud),.sl (List.map c83 s.recs)]⟩),(5,⟨0,31,.var [.sl (List.map c67 (A7 f).1.adds),.sl (List.map c3 (A7 f).1.gone.vec),.sl (List.map B5 (A7 f).1.gone.cloud),.sl (List.map c83 (A7 f).1.recs)]⟩)]⟩) ?_ ?_
 refine A4 (¬(A7 f).2=0) (fun h_1=>?_) (fun h_1=>?_)
 refine rG cx [3,5,18] [3,5] (tT 1 (D1 h_1:AV.b ((A7 f).2 !=0)=AV.b true) (tD 6 true (¬(A7 f).2=0∨¬A6w s=0) (by simp only [eq_false h_1,tsl]) z0)) ?_
 exact⟨rfl,by kernel_rfl⟩
 refine rG cx [3,5,18] [3,5] (tN 1 ((A7 f).2) (0:Int) (tT 2 (A0 h_1) (fT (con23 (s) (by(with_reducible assumption))) (tN 5 (A6w s) (0:Int) (tT 6 (by first | (simp only [eq_false h_1,tsl];done) | simp_all:AV.b (decide ¬A6w s=0)=AV.b (decide (¬(A7 f).2=0∨¬A6w s=0))) (oA 4 (.i .i64 (A6w s)) z0)))))) ?_
 exact⟨rfl,by kernel_rfl⟩
 refine sn<|dC (¬(A7 f).2=0∨¬A6w s=0) (fun h2=>?_) fun h2=>?_
 refine sq<|rG cx [4] [] z0<|sn<|rT<|nR<|qR (.b (false)) (.eq ?g0);rotate_left
 refine sK<|sn<|sq<|B3 (σ':=⟨[(4,.b (decide ((A7 f).1.adds=s.adds∧Ac6 (A7 f).1.gone s.gone=0∧(A7 f).1.recs=s.recs)))],[]⟩) ?_ ?_
 refine A4 ((A7 f).1.adds=s.adds) (fun h4=>?_) (fun h4=>?_)
 refine A4 (Ac6 (A7 f).1.gone s.gone=0) (fun h5=>?_) (fun h5=>?_)
 refine rg (A:=_∧_∧_∧_∧_∧(AV.b (decide ((A7 f).1.recs=s.recs))=AV.b (decide ((A7 f).1.adds=s.adds∧Ac6 (A7 f).1.gone s.gone=0∧(A7 f).1.recs=s.recs)))) cx [(4,{ val:=some (.b (decide ((A7 f).1.adds=s.adds))),tell:=some (.b (true)) }),(10,{ val:=some (.i .i64 (Ac6 (A7 f).1.gone s.gone)) }),(11,{ tell:=some (.b (true)) }),(18,{ val:=some (.b (decide ((A7 f).1.recs=s.recs))) }),(20,{ tell:=some (.b (decide ((A7 f).1.adds=s.adds∧Ac6 (A7 f).1.gone s.gone=0∧(A7 f).1.recs=s.recs))) })] [4] [] ⟨(A3 h4),(Br1 ((A7 f).1.adds) (s.adds)),(con51 ((A7 f).1.gone) (s.gone) (by rw[J3 (yf h2)];exact A6q (fs h2).2.1) (by exact A6q (ss h2).2.1)),(A3 h5),(con52 ((A7 f).1.recs) (s.recs) (by rw[J3 (yf h2)];exact A0u (fs h2).2.2) (by exact A0u (ss h2).2.2) (by rw[J3 (yf h2)];have:=A6r f.recs (C6 f);have:=hf.2.1;show(K0 f.recs (C6 f)).length≤_;omega)),(by simp only [eq_true h4,eq_true h5,tsl])⟩ ?_
 exact⟨rfl,by kernel_rfl⟩
 refine rg (A:=_∧_∧_∧_∧(AV.b false=AV.b (decide ((A7 f).1.adds=s.adds∧Ac6 (A7 f).1.gone s.gone=0∧(A7 f).1.recs=s.recs)))) cx [(4,{ val:=some (.b (decide ((A7 f).1.adds=s.adds))),tell:=some (.b (true)) }),(10,{ val:=some (.i .i64 (Ac6 (A7 f).1.gone s.gone)) }),(11,{ tell:=some (.b (false)) }),(20,{ tell:=some (.b (decide ((A7 f).1.adds=s.adds∧Ac6 (A7 f).1.gone s.gone=0∧(A7 f).1.recs=s.recs))) })] [4] [] ⟨(A3 h4),(Br1 ((A7 f).1.adds) (s.adds)),(con51 ((A7 f).1.gone) (s.gone) (by rw[J3 (yf h2)];exact A6q (fs h2).2.1) (by exact A6q (ss h2).2.1)),(A0 h5),(by simp only [eq_true h4,eq_false h5,tsl])⟩ ?_
 exact⟨rfl,by kernel_rfl⟩
 refine rg (A:=_∧_∧(AV.b false=AV.b (decide ((A7 f).1.adds=s.adds∧Ac6 (A7 f).1.gone s.gone=0∧(A7 f).1.recs=s.recs)))) cx [(4,{ val:=some (.b (decide ((A7 f).1.adds=s.adds))),tell:=some (.b (false)) }),(20,{ tell:=some (.b (decide ((A7 f).1.adds=s.adds∧Ac6 (A7 f).1.gone s.gone=0∧(A7 f).1.recs=s.recs))) })] [4] [] ⟨(A0 h4),(Br1 ((A7 f).1.adds) (s.adds)),(by simp only [eq_false h4,tsl])⟩ ?_
 exact⟨rfl,by kernel_rfl⟩
 refine sn<|rT<|qR (.b (decide ((A7 f).1.adds=s.adds∧Ac6 (A7 f).1.gone s.gone=0∧(A7 f).1.recs=s.recs))) (.eq ?g8);rotate_left
 case g0 =>
  rw[Br0]
  rintro⟨a,b⟩
  rcases h2 with h2 | h2
  ·exact h2 (by rw[J3 a])
  ·exact h2 (A0e.2 b)
 case g8 =>
  refine congrArg AV.b ?_
  rw[J3 (yf h2),Bool.eq_iff_iff,decide_eq_true_iff,A36,B5z (fs h2).2.1 (ss h2).2.1]
  constructor
  ·rintro⟨a,b,c⟩
   refine⟨yf h2,?_⟩
   generalize stF f=x at a b c
   cases x;cases s
   simp only at a b c
   rw[a,b,c]
  ·rintro⟨_,c⟩
   rw[c]
   exact⟨rfl,rfl,rfl⟩
end Go.Proofs.YtokhjapfekbobaaGreat
namespace Go.Proofs.YtokhjapfekbobaaGreat
open Go.E
set_option maxRecDepth 100000
set_option maxHeartbeats 4000000
noncomputable def B1j(B:Facts)(e:Entry):Bool:=decide (e∈B.adds) || !D0 B.gone e.dot
noncomputable def mrgK(A B:Facts):List Entry:=(H0 (A.adds.filter (B1j B)) (B.adds.filter (B1j A))).1
noncomputable def jnS(A B:Facts):Facts:=⟨(mrgK A B).filter (fun e=>decide (E5 (A2l (A.recs++B.recs)) e=0)),C7 [A.gone,B.gone],K0 (A2l (A.recs++B.recs)) (C7 [A.gone,B.gone])⟩
theorem Bf2{B:Facts}{e:Entry}:B1j B e=true↔e∈B.adds∨¬ D0 B.gone e.dot=true:=by
 unfold B1j
 rw[Bool.or_eq_true,decide_eq_true_iff,Bool.not_eq_true',Bool.not_eq_true]
theorem A6t{a a' b b':List Entry}(h:A31 a b)(ha:∀ e∈a',e∈a)(hb:∀ e∈b',e∈b):A31 a' b':=fun x hx y hy hd=>h x (ha x hx) y (hb y hy) hd
theorem B9w{A B:Facts}(ha:W4 A.adds)(hb:W4 B.adds)(h:A31 A.adds B.adds):W4 (mrgK A B)∧∀ e,e∈mrgK A B↔(e∈A.adds∧(e∈B.adds∨¬ D0 B.gone e.dot=true))∨(e∈B.adds∧(e∈A.adds∨¬ D0 A.gone e.dot=true)):=by
 obtain⟨l,e1,e2,e3⟩:=Ak8 (W5 ha (List.filter_sublist (p:=B1j B))) (W5 hb (List.filter_sublist (p:=B1j A))) (A6t h (fun e he=>(List.mem_filter.1 he).1) fun e he=>(List.mem_filter.1 he).1)
 unfold mrgK
 rw[e1]
 refine⟨e2,fun e=>?_⟩
 rw[e3,List.mem_filter,List.mem_filter,Bf2,Bf2]
theorem B9x{A B:Facts}(ha:okF A=true)(hb:okF B=true)(h:A31 A.adds B.adds):okF (jnS A B)=true ∧
  (∀ e,e∈(jnS A B).adds↔((e∈A.adds∧(e∈B.adds∨¬ D0 B.gone e.dot=true))∨(e∈B.adds∧(e∈A.adds∨¬ D0 A.gone e.dot=true)))∧E5 (A2l (A.recs++B.recs)) e=0) ∧
  (∀ d,D0 (jnS A B).gone d=(D0 A.gone d || D0 B.gone d)) ∧
  (∀ r,r∈(jnS A B).recs↔(r∈A.recs∨r∈B.recs)∧¬ C2 (B6 r.past (C7 [A.gone,B.gone]))=0):=by
 obtain⟨a1,a2,a3⟩:=H8.1 ha
 obtain⟨b1,b2,b3⟩:=H8.1 hb
 obtain⟨m1,m2⟩:=B9w a1 b1 h
 have rf:B0s (A2l (A.recs++B.recs)):=(H5 _).1 (A8a ((H5 _).2 a3) ((H5 _).2 b3))
 have rm:=Z1 (A2z ((H5 _).2 a3) ((H5 _).2 b3))
 refine⟨H8.2 ⟨W5 m1 List.filter_sublist,A2c _,A33 rf⟩,fun e=>?_,fun d=>?_,fun r=>?_⟩
 ·show e∈(mrgK A B).filter _↔_
  rw[List.mem_filter,m2,decide_eq_true_iff]
 ·show D0 (C7 [A.gone,B.gone]) d=_
  rw[Y2]
  simp
 ·show r∈K0 (A2l (A.recs++B.recs)) (C7 [A.gone,B.gone])↔_
  unfold K0
  rw[List.mem_filter,rm,List.mem_append,decide_eq_true_iff]
theorem B9y{a b:List Record}{e:Entry}(ha:D9 a=0)(hb:D9 b=0):E5 (A2l (a++b)) e=0↔E5 a e=0∧E5 b e=0:=by
 rw[J9,J9,J9]
 have rm:=Z1 (A2z ha hb)
 constructor
 ·intro h
  exact⟨fun⟨r,hr,k⟩=>h ⟨r,(rm r).2 (List.mem_append.2 (.inl hr)),k⟩,fun⟨r,hr,k⟩=>h ⟨r,(rm r).2 (List.mem_append.2 (.inr hr)),k⟩⟩
 ·rintro⟨h1,h2⟩ ⟨r,hr,k⟩
  rcases List.mem_append.1 ((rm r).1 hr)with hr | hr
  ·exact h1 ⟨r,hr,k⟩
  ·exact h2 ⟨r,hr,k⟩
theorem R5{f:Facts}(h:okF f=true)(d:Dot):D0 (C6 f) d=true↔(∃ e∈f.adds,e.dot=d)∨D0 f.gone d=true:=by
 rw[A6p,Bool.or_eq_true,A0w (H8.1 h).1]
theorem Az9{f:Facts}{e:Entry}(hn:¬ D0 (C6 f) e.dot=true)(h:E5 (K0 f.recs (C6 f)) e=0):E5 f.recs e=0:=by
 rw[J9]at *
 rintro⟨r,hr,k⟩
 refine h ⟨r,List.mem_filter.2 ⟨hr,decide_eq_true fun z=>?_⟩,k⟩
 exact hn (N1.1 z _ (A0b.1 k).2)
theorem B00{a b:Facts}(h:agF a b):stF (A0d a b)=jnS (stF a) (stF b):=by
 obtain⟨ha,hb,hag⟩:=h
 obtain⟨_,j1,j2,j3,j4⟩:=A6n ⟨ha,hb,hag⟩
 have fa:=H8.1 ha
 have fb:=H8.1 hb
 have sa:=U7 (Z9 ha)
 have sb:=U7 (Z9 hb)
 have ag2:A31 (stF a).adds (stF b).adds:=A6t hag (fun e he=>A4m he) fun e he=>A4m he
 obtain⟨k1,k2,k3,k4⟩:=B9x sa sb ag2
 have ra:=(H5 _).2 (A33 (p:=C6 a) fa.2.2)
 have rb:=(H5 _).2 (A33 (p:=C6 b) fb.2.2)
 have hh:∀ d,D0 (C6 (A0d a b)) d=true↔D0 (C6 a) d=true∨D0 (C6 b) d=true:=fun d=>by
  rw[R5 j1,R5 ha,R5 hb,j3,Bool.or_eq_true]
  constructor
  ·rintro(⟨e,he,hd⟩ | h | h)
   ·rcases(j2 e).1 he with he | he
    ·exact .inl (.inl ⟨e,he,hd⟩)
    ·exact .inr (.inl ⟨e,he,hd⟩)
   ·exact .inl (.inr h)
   ·exact .inr (.inr h)
  ·rintro((⟨e,he,hd⟩ | h) | (⟨e,he,hd⟩ | h))
   ·exact .inl ⟨e,(j2 e).2 (.inl he),hd⟩
   ·exact .inr (.inl h)
   ·exact .inl ⟨e,(j2 e).2 (.inr he),hd⟩
   ·exact .inr (.inr h)
 have barJ:∀ e,E5 (A0d a b).recs e=0↔E5 a.recs e=0∧E5 b.recs e=0:=fun e=>by
  rw[J9,J9,J9]
  constructor
  ·intro h
   exact⟨fun⟨r,hr,k⟩=>h ⟨r,(j4 r).2 (.inl hr),k⟩,fun⟨r,hr,k⟩=>h ⟨r,(j4 r).2 (.inr hr),k⟩⟩
  ·rintro⟨h1,h2⟩ ⟨r,hr,k⟩
   rcases(j4 r).1 hr with hr | hr
   ·exact h1 ⟨r,hr,k⟩
   ·exact h2 ⟨r,hr,k⟩
 have waitJ:∀ r:Record,C2 (B6 r.past (C6 (A0d a b)))=0↔C2 (B6 r.past (C7 [C6 a,C6 b]))=0:=fun r=>by
  rw[N1,N1]
  have q:∀ d,D0 (C7 [C6 a,C6 b]) d=true↔D0 (C6 a) d=true∨D0 (C6 b) d=true:=fun d=>by rw[Y2];simp
  exact⟨fun z d hd=>(q d).2 ((hh d).1 (z d hd)),fun z d hd=>(hh d).2 ((q d).1 (z d hd))⟩
 refine F_ext (U7 (Z9 j1)) k1 (fun e=>?_) (fun d=>?_) fun r=>?_
 ·rw[k2]
  show e∈Z8 (A0d a b)↔((e∈Z8 a∧(e∈Z8 b∨¬ D0 (C6 b) e.dot=true))∨(e∈Z8 b∧(e∈Z8 a∨¬ D0 (C6 a) e.dot=true)))∧E5 (A2l (K0 a.recs (C6 a)++K0 b.recs (C6 b))) e=0
  rw[B9y ra rb,A32,A32,A32,j2,j3,barJ,Bool.or_eq_false_iff]
  constructor
  ·rintro⟨h1,⟨h2,h3⟩,h4,h5⟩
   refine⟨?_,Ac0 h4,Ac0 h5⟩
   have inB:D0 (C6 b) e.dot=true→e∈a.adds→e∈b.adds:=fun z m=>by
    rcases(R5 hb _).1 z with⟨x,hx,hd⟩ | z
    ·rw[hag e m x hx hd.symm];exact hx
    ·rw[h3]at z;cases z
   have inA:D0 (C6 a) e.dot=true→e∈b.adds→e∈a.adds:=fun z m=>by
    rcases(R5 ha _).1 z with⟨x,hx,hd⟩ | z
    ·rw[← hag x hx e m hd];exact hx
    ·rw[h2]at z;cases z
   by_cases ma:e∈a.adds
   ·refine .inl ⟨⟨ma,h2,h4⟩,?_⟩
    by_cases z:D0 (C6 b) e.dot=true
    ·exact .inl ⟨inB z ma,h3,h5⟩
    ·exact .inr z
   ·have mb:=h1.resolve_left ma
    exact .inr ⟨⟨mb,h3,h5⟩,.inr fun z=>ma (inA z mb)⟩
  ·rintro⟨h,w1,w2⟩
   have noB:¬ D0 (C6 b) e.dot=true→D0 b.gone e.dot=false∧E5 b.recs e=0:=fun z =>
    ⟨Bool.eq_false_iff.2 fun q=>z ((R5 hb _).2 (.inr q)),Az9 z w2⟩
   have noA:¬ D0 (C6 a) e.dot=true→D0 a.gone e.dot=false∧E5 a.recs e=0:=fun z =>
    ⟨Bool.eq_false_iff.2 fun q=>z ((R5 ha _).2 (.inr q)),Az9 z w1⟩
   rcases h with⟨⟨m,p,q⟩,z | z⟩ | ⟨⟨m,p,q⟩,z | z⟩
   ·exact⟨.inl m,⟨p,z.2.1⟩,q,z.2.2⟩
   ·exact⟨.inl m,⟨p,(noB z).1⟩,q,(noB z).2⟩
   ·exact⟨.inr m,⟨z.2.1,p⟩,z.2.2,q⟩
   ·exact⟨.inr m,⟨(noA z).1,p⟩,(noA z).2,q⟩
 ·rw[k3]
  show D0 (C6 (A0d a b)) d=(D0 (C6 a) d || D0 (C6 b) d)
  rw[Bool.eq_iff_iff,hh,Bool.or_eq_true]
 ·rw[k4]
  show r∈K0 (A0d a b).recs (C6 (A0d a b))↔(r∈K0 a.recs (C6 a)∨r∈K0 b.recs (C6 b))∧¬ C2 (B6 r.past (C7 [C6 a,C6 b]))=0
  unfold K0
  rw[List.mem_filter,List.mem_filter,List.mem_filter,j4,decide_eq_true_iff,decide_eq_true_iff,decide_eq_true_iff,waitJ]
  have upA:¬ C2 (B6 r.past (C7 [C6 a,C6 b]))=0→¬ C2 (B6 r.past (C6 a))=0:=fun z q=>z (N1.2 fun d hd=>by rw[Y2];simp [N1.1 q d hd])
  have upB:¬ C2 (B6 r.past (C7 [C6 a,C6 b]))=0→¬ C2 (B6 r.past (C6 b))=0:=fun z q=>z (N1.2 fun d hd=>by rw[Y2];simp [N1.1 q d hd])
  constructor
  ·rintro⟨h | h,z⟩
   ·exact⟨.inl ⟨h,upA z⟩,z⟩
   ·exact⟨.inr ⟨h,upB z⟩,z⟩
  ·rintro⟨h | h,z⟩
   ·exact⟨.inl h.1,z⟩
   ·exact⟨.inr h.1,z⟩
theorem Bf3{a b:Facts}(h:agF a b):agF (B5s (stF a)) b:=⟨A6o (Z9 h.1),h.2.1,A6t h.2.2 (fun e he=>A4m he) fun e he=>he⟩
theorem st_prn{a b:Facts}(h:agF a b):stF (A0d (B5s (stF a)) b)=stF (A0d a b):=by
 rw[B00 (Bf3 h),B00 h,Al0 (Z9 h.1)]
end Go.Proofs.YtokhjapfekbobaaGreat
namespace Go.Proofs.YtokhjapfekbobaaGreat
open Go.E
set_option maxRecDepth 100000
set_option maxHeartbeats 4000000
theorem Bf4{f:Facts}{n:Nat}(h:szB n f)(k:okF f=true):szB n (stF f) :=
 ⟨A1d (U7 (Z9 k)),Nat.le_trans (A6r f.recs (C6 f)) h.2.1,Nat.le_trans (A4l (List.filter_sublist (l:=f.recs))) h.2.2⟩
def eqF4(f:Facts)(x1:List Entry)(x2:List Int)(x3:List Span)(x4:List Record):Prop:=x1=f.adds∧x2=f.gone.vec∧x3=f.gone.cloud∧x4=f.recs
end Go.Proofs.YtokhjapfekbobaaGreat
namespace Go.Proofs.YtokhjapfekbobaaGreat
open Go.E
set_option maxRecDepth 100000
set_option maxHeartbeats 4000000
def isS1(s:Facts)(i:Int):Prop:=∀ k:Nat,(k:Int) < i→D0 s.gone s.adds[k]!.dot=true∧E5 s.recs s.adds[k]! = 0
def Br2(s:Facts)(i:Int)(x1:List Entry)(x2:List Int)(x3:List Span)(x4:List Record):Prop:=eqF4 s x1 x2 x3 x4∧0≤i∧i≤s.adds.length∧isS1 s i
def decS1(s:Facts)(i:Int)(x1:List Entry)(x2:List Int)(x3:List Span)(x4:List Record):Nat:=(s.adds.length-i).toNat
def isS2(s:Facts)(i:Int):Prop:=∀ k:Nat,(k:Int) < i→¬ C2 (B6 s.recs[k]!.past s.gone)=0
def Br3(s:Facts)(i:Int)(x1:List Entry)(x2:List Int)(x3:List Span)(x4:List Record):Prop:=eqF4 s x1 x2 x3 x4∧0≤i∧i≤s.recs.length∧isS1 s s.adds.length∧isS2 s i
def decS2(s:Facts)(i:Int)(x1:List Entry)(x2:List Int)(x3:List Span)(x4:List Record):Nat:=(s.recs.length-i).toNat
theorem Br4{s:Facts}{i:Int}(h0:0≤i)(hi:i < s.adds.length)(k:¬ D0 s.gone s.adds[i.toNat]!.dot=true∨0 < E5 s.recs s.adds[i.toNat]!):okS s=false :=
 Bool.eq_false_iff.2 fun c=>by
  have q:=U6.1 c
  rcases k with k | k
  ·exact k (q.2.1 _ (Bf0 h0 hi))
  ·have:=q.2.2.2 _ (Bf0 h0 hi)
   omega
theorem Br5{s:Facts}{i:Int}(h:okF s=true)(h1:isS1 s s.adds.length)(hi:¬ i < s.recs.length)(h2:isS2 s i):okS s=true:=by
 have ha:∀ e∈s.adds,D0 s.gone e.dot=true∧E5 s.recs e=0:=fun e he=>by
  obtain⟨n,hn,rfl⟩:=List.mem_iff_getElem.1 he
  have:=h1 n (by omega)
  rwa [getElem!_pos s.adds n hn]at this
 have hr:∀ r∈s.recs,¬ C2 (B6 r.past s.gone)=0:=fun r he=>by
  obtain⟨n,hn,rfl⟩:=List.mem_iff_getElem.1 he
  have:=h2 n (by omega)
  rwa [getElem!_pos s.recs n hn]at this
 exact U6.2 ⟨h,fun e he=>(ha e he).1,hr,fun e he=>(ha e he).2⟩
theorem B1k(a b:List Entry):Con Tryz.prog 24 [.sl (a.map c67),.sl (b.map c67)] (.b (decide (a=b))) :=
 by
 refine lN 0 c67 (a) Tryz.func24 fun hl_0=>lN 1 c67 (b) Tryz.func24 fun hl_1=>sC A9 [.tmp 4] 26 Tryz.func24 ?_
 intro e0 cx
 refine sq<|rG cx [0,1] [] z0<|sn<|sq<|sq<|rG cx [0,1,10] [] (tL 1 c67 a (tL 3 c67 b (tN 4 (↑a.length:Int) (↑b.length:Int) z0)))<|sn<|dC (¬(↑a.length:Int)=(↑b.length:Int)) (fun hh0=>?_) fun hh0=>?_
 refine sq<|rG cx [4] [] z0<|sn<|rT<|nR<|qR (.b (false)) (.eq (by rw[decide_eq_false (fun k=>hh0 (by rw[k]))]))
 refine sK<|sn<|sq<|sq<|rG cx [0,1,5] [] z0<|sn<|bL 0<|sL (X:=Int) (fun x=>⟨[(0,.sl (List.map c67 a)),(1,.sl (List.map c67 b)),(5,.i .i64 (x))],[]⟩) (fun x ↦ Bt6 a b x) (fun x ↦ Ac5 a b x) [0,1,5] [] ((0:Int)) (show Ac5 a b (0:Int)from(by exact⟨by omega,by omega,by omega,fun j hj=>by omega⟩)) ?_
 intro i1 h_2
 obtain⟨hh3,hh4,hh5,h6⟩:0≤i1∧i1≤(↑a.length:Int)∧a.length=b.length∧∀(j:Nat),(↑j:Int) < i1→a[j]! = b[j]!:=h_2
 refine sq<|rD cx [0,1,5,14] [] (tL 2 c67 a (zB 3 (i1 <(↑a.length:Int)))) (fun h7=>?_) fun h7=>?_
 refine sK<|sn<|sq<|bL 1<|sq<|rA cx [0,1,5,25] [] (fA (0≤i1) (fG c67 a i1.toNat (fR 4 (fN 4 4 (fA (0≤i1) (fG c67 b i1.toNat (fR 4 (fN 4 4 (fT (V5 (eq67 a[i1.toNat]! b[i1.toNat]!)) (oR 2 (c67 a[i1.toNat]!) (oR 6 (c67 b[i1.toNat]!) (oA 8 (.b (decide ¬a[i1.toNat]! = b[i1.toNat]!)) z0))))))))))))<|sn<|dC (¬a[i1.toNat]! = b[i1.toNat]!) (fun h8=>?_) fun h8=>?_
 refine sq<|rG cx [4] [] z0<|sn<|rT<|bR<|nR<|nR<|bR<|nR<|qR (.b (false)) (.eq (by rw[decide_eq_false (fun k=>h8 (by rw[k]))]))
 refine sK<|bN<|sn<|rG cx [0,1,5] [] (tW 1 (i1+1) z0)<|sn<|nX (i1+1) (show((↑a.length:Int)-(i1+1)).toNat <((↑a.length:Int)-i1).toNat from(by omega)) (show Ac5 a b (i1+1)from ?g3);rotate_left
 refine eX 0<|nE<|nE<|bH<|sn<|sq<|rG cx [4] [] z0<|sn<|rT<|qR (.b (true)) (.eq (by rw[decide_eq_true (L8 hh5 fun j hj=>h6 j (by omega))]))
 case g3 =>
  refine⟨by omega,by omega,hh5,fun j hj=>?_⟩
  by_cases e:j=i1.toNat
  ·rw[e];exact Classical.not_not.1 h8
  ·exact h6 j (by omega)
theorem con49(a b:List Record)(hb:szQ a)(hl:a.length≤4611686018427387904):Con Tryz.prog 49 [.sl (a.map c83),.sl (b.map c83)] (.b (decide (a=b))) :=
 by
 refine lN 0 c83 (a) Tryz.func49 fun hl_0=>lN 1 c83 (b) Tryz.func49 fun hl_1=>sC A9 [.tmp 4] 42 Tryz.func49 ?_
 intro e0 cx
 refine sq<|rG cx [0,1] [] z0<|sn<|sq<|sq<|rG cx [0,1,10] [] (tL 1 c83 a (tL 3 c83 b (tN 4 (↑a.length:Int) (↑b.length:Int) z0)))<|sn<|dC (¬(↑a.length:Int)=(↑b.length:Int)) (fun hh0=>?_) fun hh0=>?_
 refine sq<|rG cx [4] [] z0<|sn<|rT<|nR<|qR (.b (false)) (.eq (by rw[decide_eq_false (fun k=>hh0 (by rw[k]))]))
 refine sK<|sn<|sq<|sq<|rG cx [0,1,5] [] z0<|sn<|bL 0<|sL (X:=Int) (fun x=>⟨[(0,.sl (List.map c83 a)),(1,.sl (List.map c83 b)),(5,.i .i64 (x))],[]⟩) (fun x ↦ Bt6 a b x) (fun x ↦ Ac5 a b x) [0,1,5] [] ((0:Int)) (show Ac5 a b (0:Int)from(by exact⟨by omega,by omega,by omega,fun j hj=>by omega⟩)) ?_
 intro i1 h_2
 obtain⟨hh3,hh4,hh5,h6⟩:0≤i1∧i1≤(↑a.length:Int)∧a.length=b.length∧∀(j:Nat),(↑j:Int) < i1→a[j]! = b[j]!:=h_2
 refine sq<|rD cx [0,1,5,14] [] (tL 2 c83 a (zB 3 (i1 <(↑a.length:Int)))) (fun h7=>?_) fun h7=>?_
 refine sK<|sn<|sq<|bL 1<|sq<|B3 (σ':=⟨[(0,.sl (List.map c83 a)),(1,.sl (List.map c83 b)),(5,.i .i64 (i1)),(41,.b (decide (¬a[i1.toNat]!.sku=b[i1.toNat]!.sku∨¬a[i1.toNat]!.past=b[i1.toNat]!.past)))],[]⟩) ?_ ?_
 refine A4 (¬a[i1.toNat]!.sku=b[i1.toNat]!.sku) (fun h9=>?_) (fun h9=>?_)
 refine rA cx [0,1,5,41] [] (fA (0≤i1) (fG c83 a i1.toNat (fR 3 (fA (0≤i1) (fG c83 b i1.toNat (fR 3 (tT 10 (A21 h9:(AV.b !a[i1.toNat]!.sku.toList == b[i1.toNat]!.sku.toList)=AV.b true) (tD 24 true (¬a[i1.toNat]!.sku=b[i1.toNat]!.sku∨¬a[i1.toNat]!.past=b[i1.toNat]!.past) (by simp only [eq_false h9,tsl]) (oR 2 (c83 a[i1.toNat]!) (oR 7 (c83 b[i1.toNat]!) z0)))))))))) ?_
 exact⟨rfl,by kernel_rfl⟩
 refine rA cx [0,1,5,41] [] (fA (0≤i1) (fG c83 a i1.toNat (fR 3 (fA (0≤i1) (fG c83 b i1.toNat (fR 3 (tT 10 (A4g:(AV.b !a[i1.toNat]!.sku.toList == b[i1.toNat]!.sku.toList)=AV.b (decide ¬a[i1.toNat]!.sku=b[i1.toNat]!.sku)) (tT 11 (A0 h9) (fA (0≤i1) (fG c83 a i1.toNat (fR 3 (fN 2 2 (fA (0≤i1) (fG c83 b i1.toNat (fR 3 (fN 2 2 (fT (Ap4 (a[i1.toNat]!.past) (b[i1.toNat]!.past) (by exact(Ai8 hb hh3 h7).2) (by have:=(Ai8 hb hh3 h7).1;omega)) (tQ 23 (a[i1.toNat]!.past=b[i1.toNat]!.past) (tT 24 (by first | (simp only [eq_false h9,tsl];done) | simp_all:AV.b (decide ¬a[i1.toNat]!.past=b[i1.toNat]!.past)=AV.b (decide (¬a[i1.toNat]!.sku=b[i1.toNat]!.sku∨¬a[i1.toNat]!.past=b[i1.toNat]!.past))) (oR 2 (c83 a[i1.toNat]!) (oR 7 (c83 b[i1.toNat]!) (oR 14 (c83 a[i1.toNat]!) (oR 19 (c83 b[i1.toNat]!) (oA 22 (.b (decide (a[i1.toNat]!.past=b[i1.toNat]!.past))) z0)))))))))))))))))))))))) ?_
 exact⟨rfl,by kernel_rfl⟩
 refine sn<|dC (¬a[i1.toNat]!.sku=b[i1.toNat]!.sku∨¬a[i1.toNat]!.past=b[i1.toNat]!.past) (fun h10=>?_) fun h10=>?_
 refine sq<|rG cx [4] [] z0<|sn<|rT<|bR<|nR<|nR<|bR<|nR<|qR (.b (false)) (.eq ?g4);rotate_left
 refine sK<|bN<|sn<|rG cx [0,1,5] [] (tW 1 (i1+1) z0)<|sn<|nX (i1+1) (show((↑a.length:Int)-(i1+1)).toNat <((↑a.length:Int)-i1).toNat from(by omega)) (show Ac5 a b (i1+1)from ?g5);rotate_left
 refine eX 0<|nE<|nE<|bH<|sn<|sq<|rG cx [4] [] z0<|sn<|rT<|qR (.b (true)) (.eq (by rw[decide_eq_true (L8 hh5 fun j hj=>h6 j (by omega))]))
 case g4 =>
  rw[decide_eq_false (fun k=>by
   rw[k]at h10
   rcases h10 with h10 | h10
   ·exact h10 rfl
   ·exact h10 rfl)]
 case g5 =>
  refine⟨by omega,by omega,hh5,fun j hj=>?_⟩
  by_cases e:j=i1.toNat
  ·rw[e]
   have k1:a[i1.toNat]!.sku=b[i1.toNat]!.sku:=Classical.byContradiction fun k=>h10 (.inl k)
   have k2:a[i1.toNat]!.past=b[i1.toNat]!.past:=Classical.byContradiction fun k=>h10 (.inr k)
   rw[← B5b a[i1.toNat]!,← B5b b[i1.toNat]!,k1,k2]
  ·exact h6 j (by omega)
theorem B1l(a b:Facts)(ha:szF a)(hl:a.recs.length≤4611686018427387904):Con Tryz.prog 16 [.agg (c29 a),.agg (c29 b)] (.b (decide (a=b))) :=
 by
 have h1:=ha.1.1
 have h2:=ha.1.2
 refine sC A9 [.tmp 4] 24 Tryz.func16 ?_
 intro e0 cx
 refine sq<|rG cx [2,3] [2,3] z0<|sn<|sq<|B3 (σ':=⟨[(4,.b (decide (a.adds=b.adds∧a.gone=b.gone∧a.recs=b.recs)))],[]⟩) ?_ ?_
 refine A4 (a.adds=b.adds) (fun hh1=>?_) (fun hh1=>?_)
 refine A4 (a.gone=b.gone) (fun hh2=>?_) (fun hh2=>?_)
 refine rg (A:=_∧_∧_∧_∧_∧(AV.b (decide (a.recs=b.recs))=AV.b (decide (a.adds=b.adds∧a.gone=b.gone∧a.recs=b.recs)))) cx [(4,{ val:=some (.b (decide (a.adds=b.adds))),tell:=some (.b (true)) }),(10,{ val:=some (.b (decide (a.gone=b.gone))),tell:=some (.b (true)) }),(17,{ val:=some (.b (decide (a.recs=b.recs))) }),(19,{ tell:=some (.b (decide (a.adds=b.adds∧a.gone=b.gone∧a.recs=b.recs))) })] [4] [] ⟨(A3 hh1),(B1k (a.adds) (b.adds)),(A3 hh2),(Ap4 (a.gone) (b.gone) ?g0 ?g1),(con49 (a.recs) (b.recs) ?g2 (by(with_reducible assumption))),(by simp only [eq_true hh1,eq_true hh2,tsl])⟩ ?_;rotate_left 3
 exact⟨rfl,by kernel_rfl⟩
 refine rg (A:=_∧_∧_∧_∧(AV.b false=AV.b (decide (a.adds=b.adds∧a.gone=b.gone∧a.recs=b.recs)))) cx [(4,{ val:=some (.b (decide (a.adds=b.adds))),tell:=some (.b (true)) }),(10,{ val:=some (.b (decide (a.gone=b.gone))),tell:=some (.b (false)) }),(19,{ tell:=some (.b (decide (a.adds=b.adds∧a.gone=b.gone∧a.recs=b.recs))) })] [4] [] ⟨(A3 hh1),(B1k (a.adds) (b.adds)),(A0 hh2),(Ap4 (a.gone) (b.gone) ?g3 ?g4),(by simp only [eq_true hh1,eq_false hh2,tsl])⟩ ?_;rotate_left 2
 exact⟨rfl,by kernel_rfl⟩
 refine rg (A:=_∧_∧(AV.b false=AV.b (decide (a.adds=b.adds∧a.gone=b.gone∧a.recs=b.recs)))) cx [(4,{ val:=some (.b (decide (a.adds=b.adds))),tell:=some (.b (false)) }),(19,{ tell:=some (.b (decide (a.adds=b.adds∧a.gone=b.gone∧a.recs=b.recs))) })] [4] [] ⟨(A0 hh1),(B1k (a.adds) (b.adds)),(by simp only [eq_false hh1,tsl])⟩ ?_
 exact⟨rfl,by kernel_rfl⟩
 refine sn<|rT<|qR (.b (decide (a.adds=b.adds∧a.gone=b.gone∧a.recs=b.recs))) (.eq ?g5);rotate_left
 revert hh1 hh2;rotate_left
 revert hh1 hh2;rotate_left
 revert hh1 hh2;rotate_left
 revert hh1 hh2;rotate_left
 revert hh1 hh2;rotate_left
 rotate_left
 case g2=>intros;exact ha.2
 case g5=>refine congrArg AV.b (decide_eq_decide.2 ?_);cases a;cases b;simp
 all_goals (intros;omega)
theorem Ac2(a b:Facts)(ha:szF a)(hl:a.recs.length≤4611686018427387904):Con Tryz.prog 12 [.agg (c31 a),.agg (c31 b)] (.b (decide (a=b))) :=
 by
 have h1:=ha.1.1
 have h2:=ha.1.2
 refine sC A9 [.tmp 4] 24 Tryz.func12 ?_
 intro e0 cx
 refine sq<|rG cx [2,3] [2,3] z0<|sn<|sq<|B3 (σ':=⟨[(4,.b (decide (a.adds=b.adds∧a.gone=b.gone∧a.recs=b.recs)))],[]⟩) ?_ ?_
 refine A4 (a.adds=b.adds) (fun hh1=>?_) (fun hh1=>?_)
 refine A4 (a.gone=b.gone) (fun hh2=>?_) (fun hh2=>?_)
 refine rg (A:=_∧_∧_∧_∧_∧(AV.b (decide (a.recs=b.recs))=AV.b (decide (a.adds=b.adds∧a.gone=b.gone∧a.recs=b.recs)))) cx [(4,{ val:=some (.b (decide (a.adds=b.adds))),tell:=some (.b (true)) }),(10,{ val:=some (.b (decide (a.gone=b.gone))),tell:=some (.b (true)) }),(17,{ val:=some (.b (decide (a.recs=b.recs))) }),(19,{ tell:=some (.b (decide (a.adds=b.adds∧a.gone=b.gone∧a.recs=b.recs))) })] [4] [] ⟨(A3 hh1),(B1k (a.adds) (b.adds)),(A3 hh2),(Ap4 (a.gone) (b.gone) ?g0 ?g1),(con49 (a.recs) (b.recs) ?g2 (by(with_reducible assumption))),(by simp only [eq_true hh1,eq_true hh2,tsl])⟩ ?_;rotate_left 3
 exact⟨rfl,by kernel_rfl⟩
 refine rg (A:=_∧_∧_∧_∧(AV.b false=AV.b (decide (a.adds=b.adds∧a.gone=b.gone∧a.recs=b.recs)))) cx [(4,{ val:=some (.b (decide (a.adds=b.adds))),tell:=some (.b (true)) }),(10,{ val:=some (.b (decide (a.gone=b.gone))),tell:=some (.b (false)) }),(19,{ tell:=some (.b (decide (a.adds=b.adds∧a.gone=b.gone∧a.recs=b.recs))) })] [4] [] ⟨(A3 hh1),(B1k (a.adds) (b.adds)),(A0 hh2),(Ap4 (a.gone) (b.gone) ?g3 ?g4),(by simp only [eq_true hh1,eq_false hh2,tsl])⟩ ?_;rotate_left 2
 exact⟨rfl,by kernel_rfl⟩
 refine rg (A:=_∧_∧(AV.b false=AV.b (decide (a.adds=b.adds∧a.gone=b.gone∧a.recs=b.recs)))) cx [(4,{ val:=some (.b (decide (a.adds=b.adds))),tell:=some (.b (false)) }),(19,{ tell:=some (.b (decide (a.adds=b.adds∧a.gone=b.gone∧a.recs=b.recs))) })] [4] [] ⟨(A0 hh1),(B1k (a.adds) (b.adds)),(by simp only [eq_false hh1,tsl])⟩ ?_
 exact⟨rfl,by kernel_rfl⟩
 refine sn<|rT<|qR (.b (decide (a.adds=b.adds∧a.gone=b.gone∧a.recs=b.recs))) (.eq ?g5);rotate_left
 revert hh1 hh2;rotate_left
 revert hh1 hh2;rotate_left
 revert hh1 hh2;rotate_left
 revert hh1 hh2;rotate_left
 revert hh1 hh2;rotate_left
 rotate_left
 case g2=>intros;exact ha.2
 case g5=>refine congrArg AV.b (decide_eq_decide.2 ?_);cases a;cases b;simp
 all_goals (intros;omega)
theorem B1m(f:Facts)(hb:szF f):Con Tryz.prog 14 [.agg (c29 f)] (.b (okF f)) :=
 by
 refine sC A9 [.tmp 2] 17 Tryz.func14 ?_
 intro e0 cx
 refine sq<|rG cx [1] [1] z0<|sn<|sq<|B3 (σ':=⟨[(2,.b (decide (D2 f.adds=0∧f.gone=A5 f.gone∧D9 f.recs=0)))],[]⟩) ?_ ?_
 refine A4 (D2 f.adds=0) (fun h1=>?_) (fun h1=>?_)
 refine A4 (f.gone=A5 f.gone) (fun h2=>?_) (fun h2=>?_)
 refine rg (A:=_∧_∧_∧_∧_∧(AV.b (D9 f.recs ==(0:Int))=AV.b (decide (D9 f.recs=0)))∧(AV.b (decide (D9 f.recs=0))=AV.b (decide (D2 f.adds=0∧f.gone=A5 f.gone∧D9 f.recs=0)))) cx [(2,{ val:=some (.b (decide (D2 f.adds=0))),tell:=some (.b (true)) }),(6,{ val:=some (.b (decide (f.gone=A5 f.gone))),tell:=some (.b (true)) }),(11,{ val:=some (.i .i64 (D9 f.recs)) }),(12,{ tell:=some (.b (decide (D9 f.recs=0))) }),(14,{ tell:=some (.b (decide (D2 f.adds=0∧f.gone=A5 f.gone∧D9 f.recs=0))) })] [2] [] ⟨(A3 h1),(Aj5 (f.adds)),(A3 h2),(B14 (f.gone) ?g0 ?g1),(con40 (f.recs) ?g2),(by kernel_rfl),(by simp only [eq_true h1,eq_true h2,tsl])⟩ ?_;rotate_left 3
 exact⟨rfl,by kernel_rfl⟩
 refine rg (A:=_∧_∧_∧_∧(AV.b false=AV.b (decide (D2 f.adds=0∧f.gone=A5 f.gone∧D9 f.recs=0)))) cx [(2,{ val:=some (.b (decide (D2 f.adds=0))),tell:=some (.b (true)) }),(6,{ val:=some (.b (decide (f.gone=A5 f.gone))),tell:=some (.b (false)) }),(14,{ tell:=some (.b (decide (D2 f.adds=0∧f.gone=A5 f.gone∧D9 f.recs=0))) })] [2] [] ⟨(A3 h1),(Aj5 (f.adds)),(A0 h2),(B14 (f.gone) ?g3 ?g4),(by simp only [eq_true h1,eq_false h2,tsl])⟩ ?_;rotate_left 2
 exact⟨rfl,by kernel_rfl⟩
 refine rg (A:=_∧_∧(AV.b false=AV.b (decide (D2 f.adds=0∧f.gone=A5 f.gone∧D9 f.recs=0)))) cx [(2,{ val:=some (.b (decide (D2 f.adds=0))),tell:=some (.b (false)) }),(14,{ tell:=some (.b (decide (D2 f.adds=0∧f.gone=A5 f.gone∧D9 f.recs=0))) })] [2] [] ⟨(A0 h1),(Aj5 (f.adds)),(by simp only [eq_false h1,tsl])⟩ ?_
 exact⟨rfl,by kernel_rfl⟩
 refine sn<|rT<|qR (.b (decide (D2 f.adds=0∧f.gone=A5 f.gone∧D9 f.recs=0))) (.eq ?g5);rotate_left
 revert h1 h2;rotate_left
 revert h1 h2;rotate_left
 revert h1 h2;rotate_left
 revert h1 h2;rotate_left
 revert h1 h2;rotate_left
 rotate_left
 case g2=>intros;exact hb.2
 case g5=>rw[Be5]
 all_goals (intros;first | exact hb.1.1 | exact hb.1.2)
theorem con9(s:Facts)(hb:szF s)(hl:szL s):Con Tryz.prog 9 [.agg (c31 s)] (.b (okS s)) :=
 by
 have q1:=hb.1.1
 have q2:=hl.1
 have q3:=hl.2
 refine sC A9 [.tmp 2] 65 Tryz.func9 ?_
 intro e0 cx
 refine sq<|rG cx [1] [1] z0<|sn<|sq<|sq<|B3 (σ':=⟨[(1,.ptr (1) (0) (0) (0)),(20,.b (decide (¬D2 s.adds=0∨¬s.gone=A5 s.gone∨¬D9 s.recs=0)))],[(1,⟨0,31,.var [.sl (List.map c67 s.adds),.sl (List.map c3 s.gone.vec),.sl (List.map B5 s.gone.cloud),.sl (List.map c83 s.recs)]⟩)]⟩) ?_ ?_
 refine A4 (¬D2 s.adds=0) (fun hh1=>?_) (fun hh1=>?_)
 refine rg (A:=_∧_∧(AV.b true=AV.b (decide (¬D2 s.adds=0∨¬s.gone=A5 s.gone∨¬D9 s.recs=0)))) cx [(2,{ val:=some (.b (decide (D2 s.adds=0))),tell:=some (.b (false)) }),(15,{ tell:=some (.b (decide (¬D2 s.adds=0∨¬s.gone=A5 s.gone∨¬D9 s.recs=0))) })] [1,20] [1] ⟨(A0 hh1),(Aj5 (s.adds)),(by simp only [eq_false hh1,tsl])⟩ ?_
 exact⟨rfl,by kernel_rfl⟩
 refine A4 (¬s.gone=A5 s.gone) (fun hh2=>?_) (fun hh2=>?_)
 refine rg (A:=_∧((AV.b !decide (D2 s.adds=0))=AV.b (decide ¬D2 s.adds=0))∧_∧_∧_∧(AV.b true=AV.b (decide (¬D2 s.adds=0∨¬s.gone=A5 s.gone∨¬D9 s.recs=0)))) cx [(2,{ val:=some (Bt4 (Aj5 (s.adds))) }),(3,{ tell:=some (.b (decide ¬D2 s.adds=0)) }),(4,{ tell:=some (.b (false)) }),(7,{ val:=some (.b (decide (s.gone=A5 s.gone))),tell:=some (.b (false)) }),(15,{ tell:=some (.b (decide (¬D2 s.adds=0∨¬s.gone=A5 s.gone∨¬D9 s.recs=0))) })] [1,20] [1] ⟨(Aj5 (s.adds)),(A1z),(A0 hh1),(A0 hh2),(B14 (s.gone) (by exact hb.1.1) (by exact hb.1.2)),(by first | (simp only [eq_false hh1,eq_false hh2,tsl];done) | simp_all)⟩ ?_
 exact⟨rfl,by kernel_rfl⟩
 refine rG cx [1,20] [1] (fT (Aj5 (s.adds)) (tQ 3 (D2 s.adds=0) (tT 4 (A0 hh1) (fT (B14 (s.gone) (by exact hb.1.1) (by exact hb.1.2)) (tQ 8 (s.gone=A5 s.gone) (tT 9 (A0 hh2) (fT (con40 (s.recs) (by exact hb.2)) (tN 14 (D9 s.recs) (0:Int) (tT 15 (by first | (simp only [eq_false hh1,eq_false hh2,tsl];done) | simp_all:AV.b (decide ¬D9 s.recs=0)=AV.b (decide (¬D2 s.adds=0∨¬s.gone=A5 s.gone∨¬D9 s.recs=0))) (oA 2 (Bt4 (Aj5 (s.adds))) (oA 7 (.b (decide (s.gone=A5 s.gone))) (oA 13 (.i .i64 (D9 s.recs)) z0)))))))))))) ?_
 exact⟨rfl,by kernel_rfl⟩
 refine sn<|dC (¬D2 s.adds=0∨¬s.gone=A5 s.gone∨¬D9 s.recs=0) (fun hh3=>?_) fun hh3=>?_
 refine sq<|rG cx [2] [] z0<|sn<|rT<|nR<|qR (.b (false)) (.eq (by rw[Bq4 hh3]))
 refine sK<|sn<|sq<|sq<|rG cx [1,3] [1] z0<|sn<|bL 0<|sL (X:=Int×List Entry×List Int×List Span×List Record) (fun x=>⟨[(1,.ptr (1) (0) (0) (0)),(3,.i .i64 (x.1))],[(1,⟨0,31,.var [.sl (List.map c67 x.2.1),.sl (List.map c3 x.2.2.1),.sl (List.map B5 x.2.2.2.1),.sl (List.map c83 x.2.2.2.2)]⟩)]⟩) (fun x ↦ decS1 s x.1 x.2.1 x.2.2.1 x.2.2.2.1 x.2.2.2.2) (fun x ↦ Br2 s x.1 x.2.1 x.2.2.1 x.2.2.2.1 x.2.2.2.2) [1,3] [1] (((0:Int),s.adds,s.gone.vec,s.gone.cloud,s.recs)) (show Br2 s (0:Int) s.adds s.gone.vec s.gone.cloud s.recs from(by exact⟨⟨rfl,rfl,rfl,rfl⟩,by omega,by omega,fun k hk=>by omega⟩)) ?_
 rintro⟨i4,x5,x6,x7,x8⟩ h_9
 obtain⟨h10,h11,h12,h13⟩:eqF4 s x5 x6 x7 x8∧0≤i4∧i4≤(↑s.adds.length:Int)∧isS1 s i4:=h_9
 refine sq<|rD cx [1,3,25] [1] (tL 3 c67 x5 (zB 4 (i4 <(↑x5.length:Int)))) (fun h14=>?_) fun h14=>?_
 refine sK<|sn<|sq<|bL 1<|sq<|B3 (σ':=⟨[(1,.ptr (1) (0) (0) (0)),(3,.i .i64 (i4)),(48,.b (decide (¬D0 { vec:=x6,cloud:=x7:Past } x5[i4.toNat]!.dot=true∨(0:Int) < E5 x8 x5[i4.toNat]!)))],[(1,⟨0,31,.var [.sl (List.map c67 x5),.sl (List.map c3 x6),.sl (List.map B5 x7),.sl (List.map c83 x8)]⟩)]⟩) ?_ ?_
 refine A4 (¬D0 { vec:=x6,cloud:=x7:Past } x5[i4.toNat]!.dot=true) (fun h16=>?_) (fun h16=>?_)
 refine ra (A:=(0≤i4)∧((List.map c67 x5)[i4.toNat]?=some (c67 x5[i4.toNat]!))∧((c67 x5[i4.toNat]!).length=(4:Nat))∧((2:Nat)≤[AV.i .i64 x5[i4.toNat]!.dot.rep,AV.i .i64 x5[i4.toNat]!.dot.num,AV.s x5[i4.toNat]!.sku,AV.i .i64 x5[i4.toNat]!.qty].length)∧(AV.b (D0 { vec:=x6,cloud:=x7:Past } x5[i4.toNat]!.dot)=AV.b false)∧_∧(AV.b true=AV.b (decide (¬D0 { vec:=x6,cloud:=x7:Past } x5[i4.toNat]!.dot=true∨(0:Int) < E5 x8 x5[i4.toNat]!)))) cx [(5,{ row:=(c67 x5[i4.toNat]!) }),(8,{ val:=some (.b (D0 { vec:=x6,cloud:=x7:Past } x5[i4.toNat]!.dot)),tell:=some (.b (false)) }),(20,{ tell:=some (.b (decide (¬D0 { vec:=x6,cloud:=x7:Past } x5[i4.toNat]!.dot=true∨(0:Int) < E5 x8 x5[i4.toNat]!))) })] [1,3,48] [1] ⟨(by(with_reducible assumption)),(by(with_reducible refine F7 ?_;omega)),(by kernel_rfl),(by(simp only [List.length_append,List.length_cons,List.length_nil];omega)),(S6 h16),(B8f ({ vec:=x6,cloud:=x7:Past }) (x5[i4.toNat]!.dot) ?g7),(by simp only [eq_false h16,tsl])⟩ ?_;rotate_left
 exact⟨rfl,by kernel_rfl⟩
 refine rA cx [1,3,48] [1] (fA (0≤i4) (fG c67 x5 i4.toNat (fR 4 (fN 2 4 (fT (B8f ({ vec:=x6,cloud:=x7:Past }) (x5[i4.toNat]!.dot) ?g8) (tT 9 (C9:(AV.b !D0 { vec:=x6,cloud:=x7:Past } x5[i4.toNat]!.dot)=AV.b (decide ¬D0 { vec:=x6,cloud:=x7:Past } x5[i4.toNat]!.dot=true)) (tT 10 (A0 h16) (fA (0≤i4) (fG c67 x5 i4.toNat (fR 4 (fN 4 4 (fT (con42 (x8) (x5[i4.toNat]!) ?g9) (tB 19 ((0:Int) < E5 x8 x5[i4.toNat]!) (tT 20 (by first | (simp only [eq_false h16,tsl];done) | simp_all:AV.b (decide ((0:Int) < E5 x8 x5[i4.toNat]!))=AV.b (decide (¬D0 { vec:=x6,cloud:=x7:Past } x5[i4.toNat]!.dot=true∨(0:Int) < E5 x8 x5[i4.toNat]!))) (oR 5 (c67 x5[i4.toNat]!) (oA 8 (.b (D0 { vec:=x6,cloud:=x7:Past } x5[i4.toNat]!.dot)) (oR 16 (c67 x5[i4.toNat]!) (oA 18 (.i .i64 (E5 x8 x5[i4.toNat]!)) z0)))))))))))))))))) ?_;rotate_left 2
 exact⟨rfl,by kernel_rfl⟩
 refine sn<|dC (¬D0 { vec:=x6,cloud:=x7:Past } x5[i4.toNat]!.dot=true∨(0:Int) < E5 x8 x5[i4.toNat]!) (fun h17=>?_) fun h17=>?_
 refine sq<|rG cx [2] [] z0<|sn<|rT<|bR<|nR<|nR<|bR<|nR<|qR (.b (false)) (.eq (by obtain⟨rfl,rfl,rfl,rfl⟩:=h10;rw[Br4 h11 h14 h17]))
 refine sK<|bN<|sn<|rG cx [1,3] [1] (tT 1 (B7 (by omega) (by obtain⟨rfl,rfl,rfl,rfl⟩:=h10;omega):AV.i .i64 (IntKind.i64.wrap (i4+1))=AV.i .i64 (i4+1)) z0) ?_
 refine sn<|nX ((i4+1,x5,x6,x7,x8)) (show((↑s.adds.length:Int)-(i4+1)).toNat <((↑s.adds.length:Int)-i4).toNat from(by obtain⟨rfl,rfl,rfl,rfl⟩:=h10;omega)) (show Br2 s (i4+1) x5 x6 x7 x8 from ?g13);rotate_left
 refine eX 0<|nE<|nE<|bH<|sn<|sq<|sq<|rG cx [1,4] [1] z0<|sn<|bL 2<|sL (X:=Int×List Entry×List Int×List Span×List Record) (fun x=>⟨[(1,.ptr (1) (0) (0) (0)),(4,.i .i64 (x.1))],[(1,⟨0,31,.var [.sl (List.map c67 x.2.1),.sl (List.map c3 x.2.2.1),.sl (List.map B5 x.2.2.2.1),.sl (List.map c83 x.2.2.2.2)]⟩)]⟩) (fun x ↦ decS2 s x.1 x.2.1 x.2.2.1 x.2.2.2.1 x.2.2.2.2) (fun x ↦ Br3 s x.1 x.2.1 x.2.2.1 x.2.2.2.1 x.2.2.2.2) [1,4] [1] (((0:Int),x5,x6,x7,x8)) (show Br3 s (0:Int) x5 x6 x7 x8 from ?g14) ?_;rotate_left
 rintro⟨i18,x19,x20,x21,x22⟩ h_23
 obtain⟨h24,h25,h26,h27,h28⟩:eqF4 s x19 x20 x21 x22∧0≤i18∧i18≤(↑s.recs.length:Int)∧isS1 s (↑s.adds.length:Int)∧isS2 s i18:=h_23
 refine sq<|rD cx [1,4,53] [1] (tL 3 c83 x22 (zB 4 (i18 <(↑x22.length:Int)))) (fun h29=>?_) fun h29=>?_
 refine sK<|sn<|sq<|bL 3<|sq<|rA cx [1,4,64] [1] (fA (0≤i18) (fG c83 x22 i18.toNat (fR 3 (fN 2 2 (fT (con43 (x22[i18.toNat]!.past) ({ vec:=x20,cloud:=x21:Past }) (by obtain⟨rfl,rfl,rfl,rfl⟩:=h24;exact(Ai8 hb.2 h25 h29).1) (by obtain⟨rfl,rfl,rfl,rfl⟩:=h24;exact hb.1.1)) (oR 3 (c83 x22[i18.toNat]!) (oA 8 (.b (decide (C2 (B6 x22[i18.toNat]!.past { vec:=x20,cloud:=x21:Past })=0))) z0))))))) ?_
 refine sn<|dC (C2 (B6 x22[i18.toNat]!.past { vec:=x20,cloud:=x21:Past })=0) (fun h30=>?_) fun h30=>?_
 refine sq<|rG cx [2] [] z0<|sn<|rT<|bR<|nR<|nR<|bR<|nR<|qR (.b (false)) (.eq (by obtain⟨rfl,rfl,rfl,rfl⟩:=h24;rw[Bq5 h25 h29 h30]))
 refine sK<|bN<|sn<|rG cx [1,4] [1] (tT 1 (B7 (by omega) (by obtain⟨rfl,rfl,rfl,rfl⟩:=h24;omega):AV.i .i64 (IntKind.i64.wrap (i18+1))=AV.i .i64 (i18+1)) z0) ?_
 refine sn<|nX ((i18+1,x19,x20,x21,x22)) (show((↑s.recs.length:Int)-(i18+1)).toNat <((↑s.recs.length:Int)-i18).toNat from(by obtain⟨rfl,rfl,rfl,rfl⟩:=h24;omega)) (show Br3 s (i18+1) x19 x20 x21 x22 from ?g20);rotate_left
 refine eX 2<|nE<|nE<|bH<|sn<|sq<|rG cx [2] [] z0<|sn<|rT<|qR (.b (true)) (.eq (by obtain⟨rfl,rfl,rfl,rfl⟩:=h24;rw[Br5 (A35 hh3) h27 h29 h28]))
 case g7=>revert hh3 i4 x5 x6 x7 x8 h10 h11 h12 h13 h14 h16;intro h i x1 x2 x3 x4 e h0 h1 h2 h3;obtain⟨rfl,rfl,rfl,rfl⟩:=e;intros;show s.gone.cloud.length≤_;omega
 case g8=>revert hh3 i4 x5 x6 x7 x8 h10 h11 h12 h13 h14 h16;intro h i x1 x2 x3 x4 e h0 h1 h2 h3;obtain⟨rfl,rfl,rfl,rfl⟩:=e;intros;show s.gone.cloud.length≤_;omega
 case g9=>revert hh3 i4 x5 x6 x7 x8 h10 h11 h12 h13 h14 h16;intro h i x1 x2 x3 x4 e h0 h1 h2 h3;obtain⟨rfl,rfl,rfl,rfl⟩:=e;intros;exact A7a hb.2
 case g13 =>
  obtain⟨rfl,rfl,rfl,rfl⟩:=h10
  refine⟨⟨rfl,rfl,rfl,rfl⟩,by omega,by omega,fun n hn=>?_⟩
  by_cases c:n=i4.toNat
  ·rw[c]
   refine⟨Classical.not_not.1 fun k=>h17 (.inl k),?_⟩
   have:=Bq6 s.recs s.adds[i4.toNat]!
   have:=Int.not_lt.1 fun k=>h17 (.inr k)
   omega
  ·exact h13 n (by omega)
 case g14 =>
  obtain⟨rfl,rfl,rfl,rfl⟩:=h10
  exact⟨⟨rfl,rfl,rfl,rfl⟩,by omega,by omega,fun n hn=>h13 n (by omega),fun n hn=>by omega⟩
 case g20 =>
  obtain⟨rfl,rfl,rfl,rfl⟩:=h24
  refine⟨⟨rfl,rfl,rfl,rfl⟩,by omega,by omega,h27,fun n hn=>?_⟩
  by_cases c:n=i18.toNat
  ·rw[c];exact h30
  ·exact h28 n (by omega)
end Go.Proofs.YtokhjapfekbobaaGreat
namespace Go.Proofs.YtokhjapfekbobaaGreat
open Go.E
set_option maxRecDepth 100000
set_option maxHeartbeats 4000000
def fxR:List Record:=[⟨⟨#[65]⟩,⟨[2],[]⟩⟩]
def fxF:Facts:=⟨[⟨⟨0,1⟩,⟨#[65]⟩,5⟩,⟨⟨1,1⟩,⟨#[66]⟩,7⟩],⟨[1],[]⟩,fxR⟩
def fxW:Facts:=⟨[⟨⟨1,1⟩,⟨#[66]⟩,7⟩],⟨[1,1],[]⟩,fxR⟩
theorem fx_two:¬ C2 ⟨[2],[]⟩=0:=fun h=>by
 have:=(W0 _).1 h ⟨0,1⟩
 rw[show D0 ⟨[2],[]⟩ ⟨0,1⟩=true by decide +kernel]at this
 cases this
theorem fxR_ok:D9 fxR=0:=(H5 _).2 ⟨fun r hr=>by rw[List.mem_singleton.1 hr];exact A76.2 ⟨.inr (by decide +kernel),by decide +kernel,fx_two⟩,List.pairwise_singleton _ _⟩
theorem Al3:okF fxF=true:=D7.2 ⟨by decide +kernel,by decide +kernel,fxR_ok⟩
theorem Br6:K0 fxR ⟨[1,1],[]⟩=fxR:=Ab9 fun r hr=>by
 rw[List.mem_singleton.1 hr]
 refine decide_eq_true fun h=>?_
 have:=N1.1 h ⟨0,2⟩ (by decide +kernel)
 rw[show D0 ⟨[1,1],[]⟩ ⟨0,2⟩=false by decide +kernel]at this
 cases this
theorem B9z:stF fxF=fxW:=by
 have e1:Z8 fxF=[⟨⟨1,1⟩,⟨#[66]⟩,7⟩]:=by decide +kernel
 have e2:C6 fxF=⟨[1,1],[]⟩:=by decide +kernel
 unfold stF
 rw[e1,e2,show fxF.recs=fxR from rfl,Br6]
 rfl
theorem B60:A7 fxF=(fxW,0):=by rw[J3 Al3,B9z]
theorem fxW_ok:okS fxW=true:=B9z ▸ Z9 Al3
theorem Ar9:D5 fxW=(⟨[⟨⟨1,1⟩,⟨#[66]⟩,7⟩],⟨[1],[]⟩,fxR⟩,0):=by
 rw[A1o fxW_ok]
 unfold B5s
 rw[show B6 fxW.gone (U5 fxW.adds)=⟨[1],[]⟩by decide +kernel]
 rfl
theorem Br7:M1 fxF fxW=true:=A36.2 ⟨Al3,B9z⟩
theorem B61:szB 7 fxF:=⟨A1d Al3,by decide,by decide⟩
theorem B62:szB 7 fxW:=B9z ▸ Bf4 B61 Al3
theorem B01:B9 (.sl [[.s ⟨#[65]⟩,.sl ([2].map c3),.nl]]) (.sl (fxR.map c83)):=by
 refine Bp4 rfl fun j x y hx hy=>?_
 match j with
 | 0 =>
  have hx:some [AV.s ⟨#[65]⟩,.sl ([2].map c3),.nl]=some x:=hx
  have hy:some (c83 ⟨⟨#[65]⟩,⟨[2],[]⟩⟩)=some y:=hy
  cases hx
  cases hy
  exact ZLe.cons (B9.refl _) (ZLe.cons (B9.refl _) (ZLe.cons B9.nl ZLe.nil))
 | j+1=>cases(show(none:Option (List AV))=some x from hx)
theorem A1f{f:Facts}(h:szB 7 f):szB 7 (A7 f).1:=by
 by_cases k:okF f=true
 ·rw[J3 k];exact Bf4 h k
 ·rw[A1e k];exact⟨A1d Ab7,by decide,by decide⟩
theorem fx_zF:ZLe [.sl (fxF.adds.map c67),.sl ([1].map c3),.nl,.sl [[.s ⟨#[65]⟩,.sl ([2].map c3),.nl]]] (c29 fxF):=ZLe.cons (B9.refl _) (ZLe.cons (B9.refl _) (ZLe.cons B9.nl (ZLe.cons B01 ZLe.nil)))
theorem Br8:ZLe [.sl (fxW.adds.map c67),.sl ([1,1].map c3),.nl,.sl [[.s ⟨#[65]⟩,.sl ([2].map c3),.nl]]] (c31 fxW):=ZLe.cons (B9.refl _) (ZLe.cons (B9.refl _) (ZLe.cons B9.nl (ZLe.cons B01 ZLe.nil)))
theorem con8 :Con Tryz.prog 8 [] (.b true) :=
 by
 have c1:(A7 fxF).1=fxW:=by rw[B60]
 have c2:(A7 fxF).2=0:=by rw[B60]
 refine sC A9 [.tmp 0] 65 Tryz.func8 ?_
 intro e0 cx
 refine sq<|rG cx [] [] z0<|sn<|sq<|rG cx [1] [1] z0<|sn<|sq<|rG cx [1,2,3] [1,2] (fP (Con Tryz.prog (11:Nat) [AV.agg [AV.sl (List.map c67 [{ dot:={ rep:=(0:Int),num:=(1:Int):Dot },sku:={ data:=#[(65:UInt8)]:ByteArray },qty:=(5:Int):Entry },{ dot:={ rep:=(1:Int),num:=(1:Int):Dot },sku:={ data:=#[(66:UInt8)]:ByteArray },qty:=(7:Int):Entry }]),AV.sl (List.map c3 [(1:Int)]),AV.nl,AV.sl [[AV.s { data:=#[(65:UInt8)]:ByteArray },AV.sl (List.map c3 [(2:Int)]),AV.nl]]]] (AV.tup [AV.agg [AV.sl (List.map c67 (A7 { adds:=[{ dot:={ rep:=(0:Int),num:=(1:Int):Dot },sku:={ data:=#[(65:UInt8)]:ByteArray },qty:=(5:Int):Entry },{ dot:={ rep:=(1:Int),num:=(1:Int):Dot },sku:={ data:=#[(66:UInt8)]:ByteArray },qty:=(7:Int):Entry }],gone:={ vec:=[(1:Int)],cloud:=[]:Past },recs:=[{ sku:={ data:=#[(65:UInt8)]:ByteArray },past:={ vec:=[(2:Int)],cloud:=[]:Past }:Record }]:Facts }).1.adds),AV.sl (List.map c3 (A7 { adds:=[{ dot:={ rep:=(0:Int),num:=(1:Int):Dot },sku:={ data:=#[(65:UInt8)]:ByteArray },qty:=(5:Int):Entry },{ dot:={ rep:=(1:Int),num:=(1:Int):Dot },sku:={ data:=#[(66:UInt8)]:ByteArray },qty:=(7:Int):Entry }],gone:={ vec:=[(1:Int)],cloud:=[]:Past },recs:=[{ sku:={ data:=#[(65:UInt8)]:ByteArray },past:={ vec:=[(2:Int)],cloud:=[]:Past }:Record }]:Facts }).1.gone.vec),AV.sl (List.map B5 (A7 { adds:=[{ dot:={ rep:=(0:Int),num:=(1:Int):Dot },sku:={ data:=#[(65:UInt8)]:ByteArray },qty:=(5:Int):Entry },{ dot:={ rep:=(1:Int),num:=(1:Int):Dot },sku:={ data:=#[(66:UInt8)]:ByteArray },qty:=(7:Int):Entry }],gone:={ vec:=[(1:Int)],cloud:=[]:Past },recs:=[{ sku:={ data:=#[(65:UInt8)]:ByteArray },past:={ vec:=[(2:Int)],cloud:=[]:Past }:Record }]:Facts }).1.gone.cloud),AV.sl (List.map c83 (A7 { adds:=[{ dot:={ rep:=(0:Int),num:=(1:Int):Dot },sku:={ data:=#[(65:UInt8)]:ByteArray },qty:=(5:Int):Entry },{ dot:={ rep:=(1:Int),num:=(1:Int):Dot },sku:={ data:=#[(66:UInt8)]:ByteArray },qty:=(7:Int):Entry }],gone:={ vec:=[(1:Int)],cloud:=[]:Past },recs:=[{ sku:={ data:=#[(65:UInt8)]:ByteArray },past:={ vec:=[(2:Int)],cloud:=[]:Past }:Record }]:Facts }).1.recs)],AV.i .i64 (A7 { adds:=[{ dot:={ rep:=(0:Int),num:=(1:Int):Dot },sku:={ data:=#[(65:UInt8)]:ByteArray },qty:=(5:Int):Entry },{ dot:={ rep:=(1:Int),num:=(1:Int):Dot },sku:={ data:=#[(66:UInt8)]:ByteArray },qty:=(7:Int):Entry }],gone:={ vec:=[(1:Int)],cloud:=[]:Past },recs:=[{ sku:={ data:=#[(65:UInt8)]:ByteArray },past:={ vec:=[(2:Int)],cloud:=[]:Past }:Record }]:Facts }).2])) (by exact(A3n fxF B61).le (ZLe.cons (B9.agg fx_zF) ZLe.nil)) (oA 1 (.tup [.agg [.sl (List.map c67 (A7 { adds:=[{ dot:={ rep:=(0:Int),num:=(1:Int):Dot },sku:={ data:=#[(65:UInt8)]:ByteArray },qty:=(5:Int):Entry },{ dot:={ rep:=(1:Int),num:=(1:Int):Dot },sku:={ data:=#[(66:UInt8)]:ByteArray },qty:=(7:Int):Entry }],gone:={ vec:=[(1:Int)],cloud:=[]:Past },recs:=[{ sku:={ data:=#[(65:UInt8)]:ByteArray },past:={ vec:=[(2:Int)],cloud:=[]:Past }:Record }]:Facts }).1.adds),.sl (List.map c3 (A7 { adds:=[{ dot:={ rep:=(0:Int),num:=(1:Int):Dot },sku:={ data:=#[(65:UInt8)]:ByteArray },qty:=(5:Int):Entry },{ dot:={ rep:=(1:Int),num:=(1:Int):Dot },sku:={ data:=#[(66:UInt8)]:ByteArray },qty:=(7:Int):Entry }],gone:={ vec:=[(1:Int)],cloud:=[]:Past },recs:=[{ sku:={ data:=#[(65:UInt8)]:ByteArray },past:={ vec:=[(2:Int)],cloud:=[]:Past }:Record }]:Facts }).1.gone.vec),.sl (List.map B5 (A7 { adds:=[{ dot:={ rep:=(0:Int),num:=(1:Int):Dot },sku:={ data:=#[(65:UInt8)]:ByteArray },qty:=(5:Int):Entry },{ dot:={ rep:=(1:Int),num:=(1:Int):Dot },sku:={ data:=#[(66:UInt8)]:ByteArray },qty:=(7:Int):Entry }],gone:={ vec:=[(1:Int)],cloud:=[]:Past },recs:=[{ sku:={ data:=#[(65:UInt8)]:ByteArray },past:={ vec:=[(2:Int)],cloud:=[]:Past }:Record }]:Facts }).1.gone.cloud),.sl (List.map c83 (A7 { adds:=[{ dot:={ rep:=(0:Int),num:=(1:Int):Dot },sku:={ data:=#[(65:UInt8)]:ByteArray },qty:=(5:Int):Entry },{ dot:={ rep:=(1:Int),num:=(1:Int):Dot },sku:={ data:=#[(66:UInt8)]:ByteArray },qty:=(7:Int):Entry }],gone:={ vec:=[(1:Int)],cloud:=[]:Past },recs:=[{ sku:={ data:=#[(65:UInt8)]:ByteArray },past:={ vec:=[(2:Int)],cloud:=[]:Past }:Record }]:Facts }).1.recs)],.i .i64 ((A7 { adds:=[{ dot:={ rep:=(0:Int),num:=(1:Int):Dot },sku:={ data:=#[(65:UInt8)]:ByteArray },qty:=(5:Int):Entry },{ dot:={ rep:=(1:Int),num:=(1:Int):Dot },sku:={ data:=#[(66:UInt8)]:ByteArray },qty:=(7:Int):Entry }],gone:={ vec:=[(1:Int)],cloud:=[]:Past },recs:=[{ sku:={ data:=#[(65:UInt8)]:ByteArray },past:={ vec:=[(2:Int)],cloud:=[]:Past }:Record }]:Facts }).2)]) z0)) ?_
 refine sn<|sq<|rA cx [1,2,3,4] [1,2,4] (fO ((0:Int)≤(1:Int)) (fP (1≤none.getD (↑(List.map c67 [{ dot:={ rep:=(0:Int),num:=(1:Int):Dot },sku:={ data:=#[(65:UInt8)]:ByteArray },qty:=(5:Int):Entry },{ dot:={ rep:=(1:Int),num:=(1:Int):Dot },sku:={ data:=#[(66:UInt8)]:ByteArray },qty:=(7:Int):Entry }]).length:Int)) (by decide) (fP (none.getD (↑(List.map c67 [{ dot:={ rep:=(0:Int),num:=(1:Int):Dot },sku:={ data:=#[(65:UInt8)]:ByteArray },qty:=(5:Int):Entry },{ dot:={ rep:=(1:Int),num:=(1:Int):Dot },sku:={ data:=#[(66:UInt8)]:ByteArray },qty:=(7:Int):Entry }]).length:Int)≤(↑(List.map c67 [{ dot:={ rep:=(0:Int),num:=(1:Int):Dot },sku:={ data:=#[(65:UInt8)]:ByteArray },qty:=(5:Int):Entry },{ dot:={ rep:=(1:Int),num:=(1:Int):Dot },sku:={ data:=#[(66:UInt8)]:ByteArray },qty:=(7:Int):Entry }]).length:Int)) (by decide) (fX c67 [{ dot:={ rep:=(0:Int),num:=(1:Int):Dot },sku:={ data:=#[(65:UInt8)]:ByteArray },qty:=(5:Int):Entry },{ dot:={ rep:=(1:Int),num:=(1:Int):Dot },sku:={ data:=#[(66:UInt8)]:ByteArray },qty:=(7:Int):Entry }] 4 z0)))) ?_
 refine sn<|sq<|sq<|B3 (σ':=⟨[(4,.ptr (4) (0) (0) (0)),(44,.b (decide (¬(A7 { adds:=[{ dot:={ rep:=(0:Int),num:=(1:Int):Dot },sku:={ data:=#[(65:UInt8)]:ByteArray },qty:=(5:Int):Entry },{ dot:={ rep:=(1:Int),num:=(1:Int):Dot },sku:={ data:=#[(66:UInt8)]:ByteArray },qty:=(7:Int):Entry }],gone:={ vec:=[(1:Int)],cloud:=[]:Past },recs:=[{ sku:={ data:=#[(65:UInt8)]:ByteArray },past:={ vec:=[(2:Int)],cloud:=[]:Past }:Record }]:Facts }).2=0∨¬(A7 { adds:=[{ dot:={ rep:=(0:Int),num:=(1:Int):Dot },sku:={ data:=#[(65:UInt8)]:ByteArray },qty:=(5:Int):Entry },{ dot:={ rep:=(1:Int),num:=(1:Int):Dot },sku:={ data:=#[(66:UInt8)]:ByteArray },qty:=(7:Int):Entry }],gone:={ vec:=[(1:Int)],cloud:=[]:Past },recs:=[{ sku:={ data:=#[(65:UInt8)]:ByteArray },past:={ vec:=[(2:Int)],cloud:=[]:Past }:Record }]:Facts }).1={ adds:=[{ dot:={ rep:=(1:Int),num:=(1:Int):Dot },sku:={ dot:={ rep:=(1:Int),num:=(1:Int):Dot },sku:={ data:=#[(66:UInt8)]:ByteArray },qty:=(7:Int):Entry }.sku,qty:=(7:Int):Entry }],gone:={ vec:=[(1:Int),(1:Int)],cloud:=[]:Past },recs:=[{ sku:={ data:=#[(65:UInt8)]:ByteArray },past:={ vec:=[(2:Int)],cloud:=[]:Past }:Record }]:Facts }∨¬M1 { adds:=[{ dot:={ rep:=(0:Int),num:=(1:Int):Dot },sku:={ data:=#[(65:UInt8)]:ByteArray },qty:=(5:Int):Entry },{ dot:={ rep:=(1:Int),num:=(1:Int):Dot },sku:={ data:=#[(66:UInt8)]:ByteArray },qty:=(7:Int):Entry }],gone:={ vec:=[(1:Int)],cloud:=[]:Past },recs:=[{ sku:={ data:=#[(65:UInt8)]:ByteArray },past:={ vec:=[(2:Int)],cloud:=[]:Past }:Record }]:Facts } { adds:=[{ dot:={ rep:=(1:Int),num:=(1:Int):Dot },sku:={ dot:={ rep:=(1:Int),num:=(1:Int):Dot },sku:={ data:=#[(66:UInt8)]:ByteArray },qty:=(7:Int):Entry }.sku,qty:=(7:Int):Entry }],gone:={ vec:=[(1:Int),(1:Int)],cloud:=[]:Past },recs:=[{ sku:={ data:=#[(65:UInt8)]:ByteArray },past:={ vec:=[(2:Int)],cloud:=[]:Past }:Record }]:Facts }=true)))],[(4,⟨0,31,.var [.sl [[.i .i64 ((1:Int)),.i .i64 ((1:Int)),.s ({ dot:={ rep:=(1:Int),num:=(1:Int):Dot },sku:={ data:=#[(66:UInt8)]:ByteArray },qty:=(7:Int):Entry }.sku),.i .i64 ((7:Int))]],.sl (List.map c3 [(1:Int),(1:Int)]),.nl,.sl [[.s ({ data:=#[(65:UInt8)]:ByteArray }),.sl (List.map c3 [(2:Int)]),.nl]]]⟩)]⟩) ?_ ?_
 refine A4 (¬(A7 { adds:=[{ dot:={ rep:=(0:Int),num:=(1:Int):Dot },sku:={ data:=#[(65:UInt8)]:ByteArray },qty:=(5:Int):Entry },{ dot:={ rep:=(1:Int),num:=(1:Int):Dot },sku:={ data:=#[(66:UInt8)]:ByteArray },qty:=(7:Int):Entry }],gone:={ vec:=[(1:Int)],cloud:=[]:Past },recs:=[{ sku:={ data:=#[(65:UInt8)]:ByteArray },past:={ vec:=[(2:Int)],cloud:=[]:Past }:Record }]:Facts }).2=0) (fun h1=>?_) (fun h1=>?_)
 refine rG cx [4,44] [4] (tT 1 (D1 h1:AV.b ((A7 { adds:=[{ dot:={ rep:=(0:Int),num:=(1:Int):Dot },sku:={ data:=#[(65:UInt8)]:ByteArray },qty:=(5:Int):Entry },{ dot:={ rep:=(1:Int),num:=(1:Int):Dot },sku:={ data:=#[(66:UInt8)]:ByteArray },qty:=(7:Int):Entry }],gone:={ vec:=[(1:Int)],cloud:=[]:Past },recs:=[{ sku:={ data:=#[(65:UInt8)]:ByteArray },past:={ vec:=[(2:Int)],cloud:=[]:Past }:Record }]:Facts }).2 !=0)=AV.b true) (tD 13 true (¬(A7 { adds:=[{ dot:={ rep:=(0:Int),num:=(1:Int):Dot },sku:={ data:=#[(65:UInt8)]:ByteArray },qty:=(5:Int):Entry },{ dot:={ rep:=(1:Int),num:=(1:Int):Dot },sku:={ data:=#[(66:UInt8)]:ByteArray },qty:=(7:Int):Entry }],gone:={ vec:=[(1:Int)],cloud:=[]:Past },recs:=[{ sku:={ data:=#[(65:UInt8)]:ByteArray },past:={ vec:=[(2:Int)],cloud:=[]:Past }:Record }]:Facts }).2=0∨¬(A7 { adds:=[{ dot:={ rep:=(0:Int),num:=(1:Int):Dot },sku:={ data:=#[(65:UInt8)]:ByteArray },qty:=(5:Int):Entry },{ dot:={ rep:=(1:Int),num:=(1:Int):Dot },sku:={ data:=#[(66:UInt8)]:ByteArray },qty:=(7:Int):Entry }],gone:={ vec:=[(1:Int)],cloud:=[]:Past },recs:=[{ sku:={ data:=#[(65:UInt8)]:ByteArray },past:={ vec:=[(2:Int)],cloud:=[]:Past }:Record }]:Facts }).1={ adds:=[{ dot:={ rep:=(1:Int),num:=(1:Int):Dot },sku:={ dot:={ rep:=(1:Int),num:=(1:Int):Dot },sku:={ data:=#[(66:UInt8)]:ByteArray },qty:=(7:Int):Entry }.sku,qty:=(7:Int):Entry }],gone:={ vec:=[(1:Int),(1:Int)],cloud:=[]:Past },recs:=[{ sku:={ data:=#[(65:UInt8)]:ByteArray },past:={ vec:=[(2:Int)],cloud:=[]:Past }:Record }]:Facts }∨¬M1 { adds:=[{ dot:={ rep:=(0:Int),num:=(1:Int):Dot },sku:={ data:=#[(65:UInt8)]:ByteArray },qty:=(5:Int):Entry },{ dot:={ rep:=(1:Int),num:=(1:Int):Dot },sku:={ data:=#[(66:UInt8)]:ByteArray },qty:=(7:Int):Entry }],gone:={ vec:=[(1:Int)],cloud:=[]:Past },recs:=[{ sku:={ data:=#[(65:UInt8)]:ByteArray },past:={ vec:=[(2:Int)],cloud:=[]:Past }:Record }]:Facts } { adds:=[{ dot:={ rep:=(1:Int),num:=(1:Int):Dot },sku:={ dot:={ rep:=(1:Int),num:=(1:Int):Dot },sku:={ data:=#[(66:UInt8)]:ByteArray },qty:=(7:Int):Entry }.sku,qty:=(7:Int):Entry }],gone:={ vec:=[(1:Int),(1:Int)],cloud:=[]:Past },recs:=[{ sku:={ data:=#[(65:UInt8)]:ByteArray },past:={ vec:=[(2:Int)],cloud:=[]:Past }:Record }]:Facts }=true) (by simp only [eq_false h1,tsl]) z0)) ?_
 exact⟨rfl,by kernel_rfl⟩
 refine A4 (¬(A7 { adds:=[{ dot:={ rep:=(0:Int),num:=(1:Int):Dot },sku:={ data:=#[(65:UInt8)]:ByteArray },qty:=(5:Int):Entry },{ dot:={ rep:=(1:Int),num:=(1:Int):Dot },sku:={ data:=#[(66:UInt8)]:ByteArray },qty:=(7:Int):Entry }],gone:={ vec:=[(1:Int)],cloud:=[]:Past },recs:=[{ sku:={ data:=#[(65:UInt8)]:ByteArray },past:={ vec:=[(2:Int)],cloud:=[]:Past }:Record }]:Facts }).1={ adds:=[{ dot:={ rep:=(1:Int),num:=(1:Int):Dot },sku:={ dot:={ rep:=(1:Int),num:=(1:Int):Dot },sku:={ data:=#[(66:UInt8)]:ByteArray },qty:=(7:Int):Entry }.sku,qty:=(7:Int):Entry }],gone:={ vec:=[(1:Int),(1:Int)],cloud:=[]:Past },recs:=[{ sku:={ data:=#[(65:UInt8)]:ByteArray },past:={ vec:=[(2:Int)],cloud:=[]:Past }:Record }]:Facts }) (fun h2=>?_) (fun h2=>?_)
 refine rg (A:=(AV.b ((A7 { adds:=[{ dot:={ rep:=(0:Int),num:=(1:Int):Dot },sku:={ data:=#[(65:UInt8)]:ByteArray },qty:=(5:Int):Entry },{ dot:={ rep:=(1:Int),num:=(1:Int):Dot },sku:={ data:=#[(66:UInt8)]:ByteArray },qty:=(7:Int):Entry }],gone:={ vec:=[(1:Int)],cloud:=[]:Past },recs:=[{ sku:={ data:=#[(65:UInt8)]:ByteArray },past:={ vec:=[(2:Int)],cloud:=[]:Past }:Record }]:Facts }).2 !=0)=AV.b (decide ¬(A7 { adds:=[{ dot:={ rep:=(0:Int),num:=(1:Int):Dot },sku:={ data:=#[(65:UInt8)]:ByteArray },qty:=(5:Int):Entry },{ dot:={ rep:=(1:Int),num:=(1:Int):Dot },sku:={ data:=#[(66:UInt8)]:ByteArray },qty:=(7:Int):Entry }],gone:={ vec:=[(1:Int)],cloud:=[]:Past },recs:=[{ sku:={ data:=#[(65:UInt8)]:ByteArray },past:={ vec:=[(2:Int)],cloud:=[]:Past }:Record }]:Facts }).2=0))∧_∧_∧(Con Tryz.prog (12:Nat) [AV.agg [AV.sl (List.map c67 (A7 { adds:=[{ dot:={ rep:=(0:Int),num:=(1:Int):Dot },sku:={ data:=#[(65:UInt8)]:ByteArray },qty:=(5:Int):Entry },{ dot:={ rep:=(1:Int),num:=(1:Int):Dot },sku:={ data:=#[(66:UInt8)]:ByteArray },qty:=(7:Int):Entry }],gone:={ vec:=[(1:Int)],cloud:=[]:Past },recs:=[{ sku:={ data:=#[(65:UInt8)]:ByteArray },past:={ vec:=[(2:Int)],cloud:=[]:Past }:Record }]:Facts }).1.adds),AV.sl (List.map c3 (A7 { adds:=[{ dot:={ rep:=(0:Int),num:=(1:Int):Dot },sku:={ data:=#[(65:UInt8)]:ByteArray },qty:=(5:Int):Entry },{ dot:={ rep:=(1:Int),num:=(1:Int):Dot },sku:={ data:=#[(66:UInt8)]:ByteArray },qty:=(7:Int):Entry }],gone:={ vec:=[(1:Int)],cloud:=[]:Past },recs:=[{ sku:={ data:=#[(65:UInt8)]:ByteArray },past:={ vec:=[(2:Int)],cloud:=[]:Past }:Record }]:Facts }).1.gone.vec),AV.sl (List.map B5 (A7 { adds:=[{ dot:={ rep:=(0:Int),num:=(1:Int):Dot },sku:={ data:=#[(65:UInt8)]:ByteArray },qty:=(5:Int):Entry },{ dot:={ rep:=(1:Int),num:=(1:Int):Dot },sku:={ data:=#[(66:UInt8)]:ByteArray },qty:=(7:Int):Entry }],gone:={ vec:=[(1:Int)],cloud:=[]:Past },recs:=[{ sku:={ data:=#[(65:UInt8)]:ByteArray },past:={ vec:=[(2:Int)],cloud:=[]:Past }:Record }]:Facts }).1.gone.cloud),AV.sl (List.map c83 (A7 { adds:=[{ dot:={ rep:=(0:Int),num:=(1:Int):Dot },sku:={ data:=#[(65:UInt8)]:ByteArray },qty:=(5:Int):Entry },{ dot:={ rep:=(1:Int),num:=(1:Int):Dot },sku:={ data:=#[(66:UInt8)]:ByteArray },qty:=(7:Int):Entry }],gone:={ vec:=[(1:Int)],cloud:=[]:Past },recs:=[{ sku:={ data:=#[(65:UInt8)]:ByteArray },past:={ vec:=[(2:Int)],cloud:=[]:Past }:Record }]:Facts }).1.recs)],AV.agg [AV.sl [[AV.i .i64 (1:Int),AV.i .i64 (1:Int),AV.s { dot:={ rep:=(1:Int),num:=(1:Int):Dot },sku:={ data:=#[(66:UInt8)]:ByteArray },qty:=(7:Int):Entry }.sku,AV.i .i64 (7:Int)]],AV.sl (List.map c3 [(1:Int),(1:Int)]),AV.nl,AV.sl [[AV.s { data:=#[(65:UInt8)]:ByteArray },AV.sl (List.map c3 [(2:Int)]),AV.nl]]]] (AV.b (decide ((A7 { adds:=[{ dot:={ rep:=(0:Int),num:=(1:Int):Dot },sku:={ data:=#[(65:UInt8)]:ByteArray },qty:=(5:Int):Entry },{ dot:={ rep:=(1:Int),num:=(1:Int):Dot },sku:={ data:=#[(66:UInt8)]:ByteArray },qty:=(7:Int):Entry }],gone:={ vec:=[(1:Int)],cloud:=[]:Past },recs:=[{ sku:={ data:=#[(65:UInt8)]:ByteArray },past:={ vec:=[(2:Int)],cloud:=[]:Past }:Record }]:Facts }).1={ adds:=[{ dot:={ rep:=(1:Int),num:=(1:Int):Dot },sku:={ dot:={ rep:=(1:Int),num:=(1:Int):Dot },sku:={ data:=#[(66:UInt8)]:ByteArray },qty:=(7:Int):Entry }.sku,qty:=(7:Int):Entry }],gone:={ vec:=[(1:Int),(1:Int)],cloud:=[]:Past },recs:=[{ sku:={ data:=#[(65:UInt8)]:ByteArray },past:={ vec:=[(2:Int)],cloud:=[]:Past }:Record }]:Facts }))))∧(AV.b true=AV.b (decide (¬(A7 { adds:=[{ dot:={ rep:=(0:Int),num:=(1:Int):Dot },sku:={ data:=#[(65:UInt8)]:ByteArray },qty:=(5:Int):Entry },{ dot:={ rep:=(1:Int),num:=(1:Int):Dot },sku:={ data:=#[(66:UInt8)]:ByteArray },qty:=(7:Int):Entry }],gone:={ vec:=[(1:Int)],cloud:=[]:Past },recs:=[{ sku:={ data:=#[(65:UInt8)]:ByteArray },past:={ vec:=[(2:Int)],cloud:=[]:Past }:Record }]:Facts }).2=0∨¬(A7 { adds:=[{ dot:={ rep:=(0:Int),num:=(1:Int):Dot },sku:={ data:=#[(65:UInt8)]:ByteArray },qty:=(5:Int):Entry },{ dot:={ rep:=(1:Int),num:=(1:Int):Dot },sku:={ data:=#[(66:UInt8)]:ByteArray },qty:=(7:Int):Entry }],gone:={ vec:=[(1:Int)],cloud:=[]:Past },recs:=[{ sku:={ data:=#[(65:UInt8)]:ByteArray },past:={ vec:=[(2:Int)],cloud:=[]:Past }:Record }]:Facts }).1={ adds:=[{ dot:={ rep:=(1:Int),num:=(1:Int):Dot },sku:={ dot:={ rep:=(1:Int),num:=(1:Int):Dot },sku:={ data:=#[(66:UInt8)]:ByteArray },qty:=(7:Int):Entry }.sku,qty:=(7:Int):Entry }],gone:={ vec:=[(1:Int),(1:Int)],cloud:=[]:Past },recs:=[{ sku:={ data:=#[(65:UInt8)]:ByteArray },past:={ vec:=[(2:Int)],cloud:=[]:Past }:Record }]:Facts }∨¬M1 { adds:=[{ dot:={ rep:=(0:Int),num:=(1:Int):Dot },sku:={ data:=#[(65:UInt8)]:ByteArray },qty:=(5:Int):Entry },{ dot:={ rep:=(1:Int),num:=(1:Int):Dot },sku:={ data:=#[(66:UInt8)]:ByteArray },qty:=(7:Int):Entry }],gone:={ vec:=[(1:Int)],cloud:=[]:Past },recs:=[{ sku:={ data:=#[(65:UInt8)]:ByteArray },past:={ vec:=[(2:Int)],cloud:=[]:Past }:Record }]:Facts } { adds:=[{ dot:={ rep:=(1:Int),num:=(1:Int):Dot },sku:={ dot:={ rep:=(1:Int),num:=(1:Int):Dot },sku:={ data:=#[(66:UInt8)]:ByteArray },qty:=(7:Int):Entry }.sku,qty:=(7:Int):Entry }],gone:={ vec:=[(1:Int),(1:Int)],cloud:=[]:Past },recs:=[{ sku:={ data:=#[(65:UInt8)]:ByteArray },past:={ vec:=[(2:Int)],cloud:=[]:Past }:Record }]:Facts }=true)))) cx [(1,{ tell:=some (.b (decide ¬(A7 { adds:=[{ dot:={ rep:=(0:Int),num:=(1:Int):Dot },sku:={ data:=#[(65:UInt8)]:ByteArray },qty:=(5:Int):Entry },{ dot:={ rep:=(1:Int),num:=(1:Int):Dot },sku:={ data:=#[(66:UInt8)]:ByteArray },qty:=(7:Int):Entry }],gone:={ vec:=[(1:Int)],cloud:=[]:Past },recs:=[{ sku:={ data:=#[(65:UInt8)]:ByteArray },past:={ vec:=[(2:Int)],cloud:=[]:Past }:Record }]:Facts }).2=0)) }),(2,{ tell:=some (.b (false)) }),(5,{ val:=some (.b (decide ((A7 { adds:=[{ dot:={ rep:=(0:Int),num:=(1:Int):Dot },sku:={ data:=#[(65:UInt8)]:ByteArray },qty:=(5:Int):Entry },{ dot:={ rep:=(1:Int),num:=(1:Int):Dot },sku:={ data:=#[(66:UInt8)]:ByteArray },qty:=(7:Int):Entry }],gone:={ vec:=[(1:Int)],cloud:=[]:Past },recs:=[{ sku:={ data:=#[(65:UInt8)]:ByteArray },past:={ vec:=[(2:Int)],cloud:=[]:Past }:Record }]:Facts }).1={ adds:=[{ dot:={ rep:=(1:Int),num:=(1:Int):Dot },sku:={ dot:={ rep:=(1:Int),num:=(1:Int):Dot },sku:={ data:=#[(66:UInt8)]:ByteArray },qty:=(7:Int):Entry }.sku,qty:=(7:Int):Entry }],gone:={ vec:=[(1:Int),(1:Int)],cloud:=[]:Past },recs:=[{ sku:={ data:=#[(65:UInt8)]:ByteArray },past:={ vec:=[(2:Int)],cloud:=[]:Past }:Record }]:Facts }))),tell:=some (.b (false)) }),(13,{ tell:=some (.b (decide (¬(A7 { adds:=[{ dot:={ rep:=(0:Int),num:=(1:Int):Dot },sku:={ data:=#[(65:UInt8)]:ByteArray },qty:=(5:Int):Entry },{ dot:={ rep:=(1:Int),num:=(1:Int):Dot },sku:={ data:=#[(66:UInt8)]:ByteArray },qty:=(7:Int):Entry }],gone:={ vec:=[(1:Int)],cloud:=[]:Past },recs:=[{ sku:={ data:=#[(65:UInt8)]:ByteArray },past:={ vec:=[(2:Int)],cloud:=[]:Past }:Record }]:Facts }).2=0∨¬(A7 { adds:=[{ dot:={ rep:=(0:Int),num:=(1:Int):Dot },sku:={ data:=#[(65:UInt8)]:ByteArray },qty:=(5:Int):Entry },{ dot:={ rep:=(1:Int),num:=(1:Int):Dot },sku:={ data:=#[(66:UInt8)]:ByteArray },qty:=(7:Int):Entry }],gone:={ vec:=[(1:Int)],cloud:=[]:Past },recs:=[{ sku:={ data:=#[(65:UInt8)]:ByteArray },past:={ vec:=[(2:Int)],cloud:=[]:Past }:Record }]:Facts }).1={ adds:=[{ dot:={ rep:=(1:Int),num:=(1:Int):Dot },sku:={ dot:={ rep:=(1:Int),num:=(1:Int):Dot },sku:={ data:=#[(66:UInt8)]:ByteArray },qty:=(7:Int):Entry }.sku,qty:=(7:Int):Entry }],gone:={ vec:=[(1:Int),(1:Int)],cloud:=[]:Past },recs:=[{ sku:={ data:=#[(65:UInt8)]:ByteArray },past:={ vec:=[(2:Int)],cloud:=[]:Past }:Record }]:Facts }∨¬M1 { adds:=[{ dot:={ rep:=(0:Int),num:=(1:Int):Dot },sku:={ data:=#[(65:UInt8)]:ByteArray },qty:=(5:Int):Entry },{ dot:={ rep:=(1:Int),num:=(1:Int):Dot },sku:={ data:=#[(66:UInt8)]:ByteArray },qty:=(7:Int):Entry }],gone:={ vec:=[(1:Int)],cloud:=[]:Past },recs:=[{ sku:={ data:=#[(65:UInt8)]:ByteArray },past:={ vec:=[(2:Int)],cloud:=[]:Past }:Record }]:Facts } { adds:=[{ dot:={ rep:=(1:Int),num:=(1:Int):Dot },sku:={ dot:={ rep:=(1:Int),num:=(1:Int):Dot },sku:={ data:=#[(66:UInt8)]:ByteArray },qty:=(7:Int):Entry }.sku,qty:=(7:Int):Entry }],gone:={ vec:=[(1:Int),(1:Int)],cloud:=[]:Past },recs:=[{ sku:={ data:=#[(65:UInt8)]:ByteArray },past:={ vec:=[(2:Int)],cloud:=[]:Past }:Record }]:Facts }=true))) })] [4,44] [4] ⟨(E9),(A0 h1),(A0 h2),(by exact absurd c1 h2),(by first | (simp only [eq_false h1,eq_false h2,tsl];done) | simp_all)⟩ ?_
 exact⟨rfl,by kernel_rfl⟩
 refine rG cx [4,44] [4] (tN 1 ((A7 { adds:=[{ dot:={ rep:=(0:Int),num:=(1:Int):Dot },sku:={ data:=#[(65:UInt8)]:ByteArray },qty:=(5:Int):Entry },{ dot:={ rep:=(1:Int),num:=(1:Int):Dot },sku:={ data:=#[(66:UInt8)]:ByteArray },qty:=(7:Int):Entry }],gone:={ vec:=[(1:Int)],cloud:=[]:Past },recs:=[{ sku:={ data:=#[(65:UInt8)]:ByteArray },past:={ vec:=[(2:Int)],cloud:=[]:Past }:Record }]:Facts }).2) (0:Int) (tT 2 (A0 h1) (fP (Con Tryz.prog (12:Nat) [AV.agg [AV.sl (List.map c67 (A7 { adds:=[{ dot:={ rep:=(0:Int),num:=(1:Int):Dot },sku:={ data:=#[(65:UInt8)]:ByteArray },qty:=(5:Int):Entry },{ dot:={ rep:=(1:Int),num:=(1:Int):Dot },sku:={ data:=#[(66:UInt8)]:ByteArray },qty:=(7:Int):Entry }],gone:={ vec:=[(1:Int)],cloud:=[]:Past },recs:=[{ sku:={ data:=#[(65:UInt8)]:ByteArray },past:={ vec:=[(2:Int)],cloud:=[]:Past }:Record }]:Facts }).1.adds),AV.sl (List.map c3 (A7 { adds:=[{ dot:={ rep:=(0:Int),num:=(1:Int):Dot },sku:={ data:=#[(65:UInt8)]:ByteArray },qty:=(5:Int):Entry },{ dot:={ rep:=(1:Int),num:=(1:Int):Dot },sku:={ data:=#[(66:UInt8)]:ByteArray },qty:=(7:Int):Entry }],gone:={ vec:=[(1:Int)],cloud:=[]:Past },recs:=[{ sku:={ data:=#[(65:UInt8)]:ByteArray },past:={ vec:=[(2:Int)],cloud:=[]:Past }:Record }]:Facts }).1.gone.vec),AV.sl (List.map B5 (A7 { adds:=[{ dot:={ rep:=(0:Int),num:=(1:Int):Dot },sku:={ data:=#[(65:UInt8)]:ByteArray },qty:=(5:Int):Entry },{ dot:={ rep:=(1:Int),num:=(1:Int):Dot },sku:={ data:=#[(66:UInt8)]:ByteArray },qty:=(7:Int):Entry }],gone:={ vec:=[(1:Int)],cloud:=[]:Past },recs:=[{ sku:={ data:=#[(65:UInt8)]:ByteArray },past:={ vec:=[(2:Int)],cloud:=[]:Past }:Record }]:Facts }).1.gone.cloud),AV.sl (List.map c83 (A7 { adds:=[{ dot:={ rep:=(0:Int),num:=(1:Int):Dot },sku:={ data:=#[(65:UInt8)]:ByteArray },qty:=(5:Int):Entry },{ dot:={ rep:=(1:Int),num:=(1:Int):Dot },sku:={ data:=#[(66:UInt8)]:ByteArray },qty:=(7:Int):Entry }],gone:={ vec:=[(1:Int)],cloud:=[]:Past },recs:=[{ sku:={ data:=#[(65:UInt8)]:ByteArray },past:={ vec:=[(2:Int)],cloud:=[]:Past }:Record }]:Facts }).1.recs)],AV.agg [AV.sl [[AV.i .i64 (1:Int),AV.i .i64 (1:Int),AV.s { dot:={ rep:=(1:Int),num:=(1:Int):Dot },sku:={ data:=#[(66:UInt8)]:ByteArray },qty:=(7:Int):Entry }.sku,AV.i .i64 (7:Int)]],AV.sl (List.map c3 [(1:Int),(1:Int)]),AV.nl,AV.sl [[AV.s { data:=#[(65:UInt8)]:ByteArray },AV.sl (List.map c3 [(2:Int)]),AV.nl]]]] (AV.b (decide ((A7 { adds:=[{ dot:={ rep:=(0:Int),num:=(1:Int):Dot },sku:={ data:=#[(65:UInt8)]:ByteArray },qty:=(5:Int):Entry },{ dot:={ rep:=(1:Int),num:=(1:Int):Dot },sku:={ data:=#[(66:UInt8)]:ByteArray },qty:=(7:Int):Entry }],gone:={ vec:=[(1:Int)],cloud:=[]:Past },recs:=[{ sku:={ data:=#[(65:UInt8)]:ByteArray },past:={ vec:=[(2:Int)],cloud:=[]:Past }:Record }]:Facts }).1={ adds:=[{ dot:={ rep:=(1:Int),num:=(1:Int):Dot },sku:={ dot:={ rep:=(1:Int),num:=(1:Int):Dot },sku:={ data:=#[(66:UInt8)]:ByteArray },qty:=(7:Int):Entry }.sku,qty:=(7:Int):Entry }],gone:={ vec:=[(1:Int),(1:Int)],cloud:=[]:Past },recs:=[{ sku:={ data:=#[(65:UInt8)]:ByteArray },past:={ vec:=[(2:Int)],cloud:=[]:Past }:Record }]:Facts })))) (by exact(Ac2 (A7 fxF).1 fxW (by rw[c1];exact B62.1) (by rw[c1];decide)).le (ZLe.cons (B9.refl _) (ZLe.cons (B9.agg Br8) ZLe.nil))) (tQ 6 ((A7 { adds:=[{ dot:={ rep:=(0:Int),num:=(1:Int):Dot },sku:={ data:=#[(65:UInt8)]:ByteArray },qty:=(5:Int):Entry },{ dot:={ rep:=(1:Int),num:=(1:Int):Dot },sku:={ data:=#[(66:UInt8)]:ByteArray },qty:=(7:Int):Entry }],gone:={ vec:=[(1:Int)],cloud:=[]:Past },recs:=[{ sku:={ data:=#[(65:UInt8)]:ByteArray },past:={ vec:=[(2:Int)],cloud:=[]:Past }:Record }]:Facts }).1={ adds:=[{ dot:={ rep:=(1:Int),num:=(1:Int):Dot },sku:={ dot:={ rep:=(1:Int),num:=(1:Int):Dot },sku:={ data:=#[(66:UInt8)]:ByteArray },qty:=(7:Int):Entry }.sku,qty:=(7:Int):Entry }],gone:={ vec:=[(1:Int),(1:Int)],cloud:=[]:Past },recs:=[{ sku:={ data:=#[(65:UInt8)]:ByteArray },past:={ vec:=[(2:Int)],cloud:=[]:Past }:Record }]:Facts }) (tT 7 (A0 h2) (fP (Con Tryz.prog (13:Nat) [AV.agg [AV.sl (List.map c67 [{ dot:={ rep:=(0:Int),num:=(1:Int):Dot },sku:={ data:=#[(65:UInt8)]:ByteArray },qty:=(5:Int):Entry },{ dot:={ rep:=(1:Int),num:=(1:Int):Dot },sku:={ data:=#[(66:UInt8)]:ByteArray },qty:=(7:Int):Entry }]),AV.sl (List.map c3 [(1:Int)]),AV.nl,AV.sl [[AV.s { data:=#[(65:UInt8)]:ByteArray },AV.sl (List.map c3 [(2:Int)]),AV.nl]]],AV.agg [AV.sl [[AV.i .i64 (1:Int),AV.i .i64 (1:Int),AV.s { dot:={ rep:=(1:Int),num:=(1:Int):Dot },sku:={ data:=#[(66:UInt8)]:ByteArray },qty:=(7:Int):Entry }.sku,AV.i .i64 (7:Int)]],AV.sl (List.map c3 [(1:Int),(1:Int)]),AV.nl,AV.sl [[AV.s { data:=#[(65:UInt8)]:ByteArray },AV.sl (List.map c3 [(2:Int)]),AV.nl]]]] (AV.b (M1 { adds:=[{ dot:={ rep:=(0:Int),num:=(1:Int):Dot },sku:={ data:=#[(65:UInt8)]:ByteArray },qty:=(5:Int):Entry },{ dot:={ rep:=(1:Int),num:=(1:Int):Dot },sku:={ data:=#[(66:UInt8)]:ByteArray },qty:=(7:Int):Entry }],gone:={ vec:=[(1:Int)],cloud:=[]:Past },recs:=[{ sku:={ data:=#[(65:UInt8)]:ByteArray },past:={ vec:=[(2:Int)],cloud:=[]:Past }:Record }]:Facts } { adds:=[{ dot:={ rep:=(1:Int),num:=(1:Int):Dot },sku:={ dot:={ rep:=(1:Int),num:=(1:Int):Dot },sku:={ data:=#[(66:UInt8)]:ByteArray },qty:=(7:Int):Entry }.sku,qty:=(7:Int):Entry }],gone:={ vec:=[(1:Int),(1:Int)],cloud:=[]:Past },recs:=[{ sku:={ data:=#[(65:UInt8)]:ByteArray },past:={ vec:=[(2:Int)],cloud:=[]:Past }:Record }]:Facts }))) (by exact(B9v fxF fxW B61 B62).le (ZLe.cons (B9.agg fx_zF) (ZLe.cons (B9.agg Br8) ZLe.nil))) (tT 12 (C9:(AV.b !M1 { adds:=[{ dot:={ rep:=(0:Int),num:=(1:Int):Dot },sku:={ data:=#[(65:UInt8)]:ByteArray },qty:=(5:Int):Entry },{ dot:={ rep:=(1:Int),num:=(1:Int):Dot },sku:={ data:=#[(66:UInt8)]:ByteArray },qty:=(7:Int):Entry }],gone:={ vec:=[(1:Int)],cloud:=[]:Past },recs:=[{ sku:={ data:=#[(65:UInt8)]:ByteArray },past:={ vec:=[(2:Int)],cloud:=[]:Past }:Record }]:Facts } { adds:=[{ dot:={ rep:=(1:Int),num:=(1:Int):Dot },sku:={ dot:={ rep:=(1:Int),num:=(1:Int):Dot },sku:={ data:=#[(66:UInt8)]:ByteArray },qty:=(7:Int):Entry }.sku,qty:=(7:Int):Entry }],gone:={ vec:=[(1:Int),(1:Int)],cloud:=[]:Past },recs:=[{ sku:={ data:=#[(65:UInt8)]:ByteArray },past:={ vec:=[(2:Int)],cloud:=[]:Past }:Record }]:Facts })=AV.b (decide ¬M1 { adds:=[{ dot:={ rep:=(0:Int),num:=(1:Int):Dot },sku:={ data:=#[(65:UInt8)]:ByteArray },qty:=(5:Int):Entry },{ dot:={ rep:=(1:Int),num:=(1:Int):Dot },sku:={ data:=#[(66:UInt8)]:ByteArray },qty:=(7:Int):Entry }],gone:={ vec:=[(1:Int)],cloud:=[]:Past },recs:=[{ sku:={ data:=#[(65:UInt8)]:ByteArray },past:={ vec:=[(2:Int)],cloud:=[]:Past }:Record }]:Facts } { adds:=[{ dot:={ rep:=(1:Int),num:=(1:Int):Dot },sku:={ dot:={ rep:=(1:Int),num:=(1:Int):Dot },sku:={ data:=#[(66:UInt8)]:ByteArray },qty:=(7:Int):Entry }.sku,qty:=(7:Int):Entry }],gone:={ vec:=[(1:Int),(1:Int)],cloud:=[]:Past },recs:=[{ sku:={ data:=#[(65:UInt8)]:ByteArray },past:={ vec:=[(2:Int)],cloud:=[]:Past }:Record }]:Facts }=true)) (tT 13 (by first | (simp only [eq_false h1,eq_false h2,tsl];done) | simp_all:AV.b (decide ¬M1 { adds:=[{ dot:={ rep:=(0:Int),num:=(1:Int):Dot },sku:={ data:=#[(65:UInt8)]:ByteArray },qty:=(5:Int):Entry },{ dot:={ rep:=(1:Int),num:=(1:Int):Dot },sku:={ data:=#[(66:UInt8)]:ByteArray },qty:=(7:Int):Entry }],gone:={ vec:=[(1:Int)],cloud:=[]:Past },recs:=[{ sku:={ data:=#[(65:UInt8)]:ByteArray },past:={ vec:=[(2:Int)],cloud:=[]:Past }:Record }]:Facts } { adds:=[{ dot:={ rep:=(1:Int),num:=(1:Int):Dot },sku:={ dot:={ rep:=(1:Int),num:=(1:Int):Dot },sku:={ data:=#[(66:UInt8)]:ByteArray },qty:=(7:Int):Entry }.sku,qty:=(7:Int):Entry }],gone:={ vec:=[(1:Int),(1:Int)],cloud:=[]:Past },recs:=[{ sku:={ data:=#[(65:UInt8)]:ByteArray },past:={ vec:=[(2:Int)],cloud:=[]:Past }:Record }]:Facts }=true)=AV.b (decide (¬(A7 { adds:=[{ dot:={ rep:=(0:Int),num:=(1:Int):Dot },sku:={ data:=#[(65:UInt8)]:ByteArray },qty:=(5:Int):Entry },{ dot:={ rep:=(1:Int),num:=(1:Int):Dot },sku:={ data:=#[(66:UInt8)]:ByteArray },qty:=(7:Int):Entry }],gone:={ vec:=[(1:Int)],cloud:=[]:Past },recs:=[{ sku:={ data:=#[(65:UInt8)]:ByteArray },past:={ vec:=[(2:Int)],cloud:=[]:Past }:Record }]:Facts }).2=0∨¬(A7 { adds:=[{ dot:={ rep:=(0:Int),num:=(1:Int):Dot },sku:={ data:=#[(65:UInt8)]:ByteArray },qty:=(5:Int):Entry },{ dot:={ rep:=(1:Int),num:=(1:Int):Dot },sku:={ data:=#[(66:UInt8)]:ByteArray },qty:=(7:Int):Entry }],gone:={ vec:=[(1:Int)],cloud:=[]:Past },recs:=[{ sku:={ data:=#[(65:UInt8)]:ByteArray },past:={ vec:=[(2:Int)],cloud:=[]:Past }:Record }]:Facts }).1={ adds:=[{ dot:={ rep:=(1:Int),num:=(1:Int):Dot },sku:={ dot:={ rep:=(1:Int),num:=(1:Int):Dot },sku:={ data:=#[(66:UInt8)]:ByteArray },qty:=(7:Int):Entry }.sku,qty:=(7:Int):Entry }],gone:={ vec:=[(1:Int),(1:Int)],cloud:=[]:Past },recs:=[{ sku:={ data:=#[(65:UInt8)]:ByteArray },past:={ vec:=[(2:Int)],cloud:=[]:Past }:Record }]:Facts }∨¬M1 { adds:=[{ dot:={ rep:=(0:Int),num:=(1:Int):Dot },sku:={ data:=#[(65:UInt8)]:ByteArray },qty:=(5:Int):Entry },{ dot:={ rep:=(1:Int),num:=(1:Int):Dot },sku:={ data:=#[(66:UInt8)]:ByteArray },qty:=(7:Int):Entry }],gone:={ vec:=[(1:Int)],cloud:=[]:Past },recs:=[{ sku:={ data:=#[(65:UInt8)]:ByteArray },past:={ vec:=[(2:Int)],cloud:=[]:Past }:Record }]:Facts } { adds:=[{ dot:={ rep:=(1:Int),num:=(1:Int):Dot },sku:={ dot:={ rep:=(1:Int),num:=(1:Int):Dot },sku:={ data:=#[(66:UInt8)]:ByteArray },qty:=(7:Int):Entry }.sku,qty:=(7:Int):Entry }],gone:={ vec:=[(1:Int),(1:Int)],cloud:=[]:Past },recs:=[{ sku:={ data:=#[(65:UInt8)]:ByteArray },past:={ vec:=[(2:Int)],cloud:=[]:Past }:Record }]:Facts }=true))) (oA 5 (.b (decide ((A7 { adds:=[{ dot:={ rep:=(0:Int),num:=(1:Int):Dot },sku:={ data:=#[(65:UInt8)]:ByteArray },qty:=(5:Int):Entry },{ dot:={ rep:=(1:Int),num:=(1:Int):Dot },sku:={ data:=#[(66:UInt8)]:ByteArray },qty:=(7:Int):Entry }],gone:={ vec:=[(1:Int)],cloud:=[]:Past },recs:=[{ sku:={ data:=#[(65:UInt8)]:ByteArray },past:={ vec:=[(2:Int)],cloud:=[]:Past }:Record }]:Facts }).1={ adds:=[{ dot:={ rep:=(1:Int),num:=(1:Int):Dot },sku:={ dot:={ rep:=(1:Int),num:=(1:Int):Dot },sku:={ data:=#[(66:UInt8)]:ByteArray },qty:=(7:Int):Entry }.sku,qty:=(7:Int):Entry }],gone:={ vec:=[(1:Int),(1:Int)],cloud:=[]:Past },recs:=[{ sku:={ data:=#[(65:UInt8)]:ByteArray },past:={ vec:=[(2:Int)],cloud:=[]:Past }:Record }]:Facts }))) (oA 11 (.b (M1 { adds:=[{ dot:={ rep:=(0:Int),num:=(1:Int):Dot },sku:={ data:=#[(65:UInt8)]:ByteArray },qty:=(5:Int):Entry },{ dot:={ rep:=(1:Int),num:=(1:Int):Dot },sku:={ data:=#[(66:UInt8)]:ByteArray },qty:=(7:Int):Entry }],gone:={ vec:=[(1:Int)],cloud:=[]:Past },recs:=[{ sku:={ data:=#[(65:UInt8)]:ByteArray },past:={ vec:=[(2:Int)],cloud:=[]:Past }:Record }]:Facts } { adds:=[{ dot:={ rep:=(1:Int),num:=(1:Int):Dot },sku:={ dot:={ rep:=(1:Int),num:=(1:Int):Dot },sku:={ data:=#[(66:UInt8)]:ByteArray },qty:=(7:Int):Entry }.sku,qty:=(7:Int):Entry }],gone:={ vec:=[(1:Int),(1:Int)],cloud:=[]:Past },recs:=[{ sku:={ data:=#[(65:UInt8)]:ByteArray },past:={ vec:=[(2:Int)],cloud:=[]:Past }:Record }]:Facts })) z0)))))))))) ?_
 exact⟨rfl,by kernel_rfl⟩
 refine sn<|dC (¬(A7 { adds:=[{ dot:={ rep:=(0:Int),num:=(1:Int):Dot },sku:={ data:=#[(65:UInt8)]:ByteArray },qty:=(5:Int):Entry },{ dot:={ rep:=(1:Int),num:=(1:Int):Dot },sku:={ data:=#[(66:UInt8)]:ByteArray },qty:=(7:Int):Entry }],gone:={ vec:=[(1:Int)],cloud:=[]:Past },recs:=[{ sku:={ data:=#[(65:UInt8)]:ByteArray },past:={ vec:=[(2:Int)],cloud:=[]:Past }:Record }]:Facts }).2=0∨¬(A7 { adds:=[{ dot:={ rep:=(0:Int),num:=(1:Int):Dot },sku:={ data:=#[(65:UInt8)]:ByteArray },qty:=(5:Int):Entry },{ dot:={ rep:=(1:Int),num:=(1:Int):Dot },sku:={ data:=#[(66:UInt8)]:ByteArray },qty:=(7:Int):Entry }],gone:={ vec:=[(1:Int)],cloud:=[]:Past },recs:=[{ sku:={ data:=#[(65:UInt8)]:ByteArray },past:={ vec:=[(2:Int)],cloud:=[]:Past }:Record }]:Facts }).1={ adds:=[{ dot:={ rep:=(1:Int),num:=(1:Int):Dot },sku:={ dot:={ rep:=(1:Int),num:=(1:Int):Dot },sku:={ data:=#[(66:UInt8)]:ByteArray },qty:=(7:Int):Entry }.sku,qty:=(7:Int):Entry }],gone:={ vec:=[(1:Int),(1:Int)],cloud:=[]:Past },recs:=[{ sku:={ data:=#[(65:UInt8)]:ByteArray },past:={ vec:=[(2:Int)],cloud:=[]:Past }:Record }]:Facts }∨¬M1 { adds:=[{ dot:={ rep:=(0:Int),num:=(1:Int):Dot },sku:={ data:=#[(65:UInt8)]:ByteArray },qty:=(5:Int):Entry },{ dot:={ rep:=(1:Int),num:=(1:Int):Dot },sku:={ data:=#[(66:UInt8)]:ByteArray },qty:=(7:Int):Entry }],gone:={ vec:=[(1:Int)],cloud:=[]:Past },recs:=[{ sku:={ data:=#[(65:UInt8)]:ByteArray },past:={ vec:=[(2:Int)],cloud:=[]:Past }:Record }]:Facts } { adds:=[{ dot:={ rep:=(1:Int),num:=(1:Int):Dot },sku:={ dot:={ rep:=(1:Int),num:=(1:Int):Dot },sku:={ data:=#[(66:UInt8)]:ByteArray },qty:=(7:Int):Entry }.sku,qty:=(7:Int):Entry }],gone:={ vec:=[(1:Int),(1:Int)],cloud:=[]:Past },recs:=[{ sku:={ data:=#[(65:UInt8)]:ByteArray },past:={ vec:=[(2:Int)],cloud:=[]:Past }:Record }]:Facts }=true) (fun h3=>?_) fun h3=>?_
 refine sq<|rG cx [0] [] z0<|sn<|rT<|nR<|qR (.b (false)) (.eq ?g6);rotate_left
 refine sK<|sn<|sq<|rG cx [5,3] [5] (fP (Con Tryz.prog (10:Nat) [AV.agg [AV.sl [[AV.i .i64 (1:Int),AV.i .i64 (1:Int),AV.s { dot:={ rep:=(1:Int),num:=(1:Int):Dot },sku:={ data:=#[(66:UInt8)]:ByteArray },qty:=(7:Int):Entry }.sku,AV.i .i64 (7:Int)]],AV.sl (List.map c3 [(1:Int),(1:Int)]),AV.nl,AV.sl [[AV.s { data:=#[(65:UInt8)]:ByteArray },AV.sl (List.map c3 [(2:Int)]),AV.nl]]]] (AV.tup [AV.agg [AV.sl (List.map c67 (D5 { adds:=[{ dot:={ rep:=(1:Int),num:=(1:Int):Dot },sku:={ dot:={ rep:=(1:Int),num:=(1:Int):Dot },sku:={ data:=#[(66:UInt8)]:ByteArray },qty:=(7:Int):Entry }.sku,qty:=(7:Int):Entry }],gone:={ vec:=[(1:Int),(1:Int)],cloud:=[]:Past },recs:=[{ sku:={ data:=#[(65:UInt8)]:ByteArray },past:={ vec:=[(2:Int)],cloud:=[]:Past }:Record }]:Facts }).1.adds),AV.sl (List.map c3 (D5 { adds:=[{ dot:={ rep:=(1:Int),num:=(1:Int):Dot },sku:={ dot:={ rep:=(1:Int),num:=(1:Int):Dot },sku:={ data:=#[(66:UInt8)]:ByteArray },qty:=(7:Int):Entry }.sku,qty:=(7:Int):Entry }],gone:={ vec:=[(1:Int),(1:Int)],cloud:=[]:Past },recs:=[{ sku:={ data:=#[(65:UInt8)]:ByteArray },past:={ vec:=[(2:Int)],cloud:=[]:Past }:Record }]:Facts }).1.gone.vec),AV.sl (List.map B5 (D5 { adds:=[{ dot:={ rep:=(1:Int),num:=(1:Int):Dot },sku:={ dot:={ rep:=(1:Int),num:=(1:Int):Dot },sku:={ data:=#[(66:UInt8)]:ByteArray },qty:=(7:Int):Entry }.sku,qty:=(7:Int):Entry }],gone:={ vec:=[(1:Int),(1:Int)],cloud:=[]:Past },recs:=[{ sku:={ data:=#[(65:UInt8)]:ByteArray },past:={ vec:=[(2:Int)],cloud:=[]:Past }:Record }]:Facts }).1.gone.cloud),AV.sl (List.map c83 (D5 { adds:=[{ dot:={ rep:=(1:Int),num:=(1:Int):Dot },sku:={ dot:={ rep:=(1:Int),num:=(1:Int):Dot },sku:={ data:=#[(66:UInt8)]:ByteArray },qty:=(7:Int):Entry }.sku,qty:=(7:Int):Entry }],gone:={ vec:=[(1:Int),(1:Int)],cloud:=[]:Past },recs:=[{ sku:={ data:=#[(65:UInt8)]:ByteArray },past:={ vec:=[(2:Int)],cloud:=[]:Past }:Record }]:Facts }).1.recs)],AV.i .i64 (D5 { adds:=[{ dot:={ rep:=(1:Int),num:=(1:Int):Dot },sku:={ dot:={ rep:=(1:Int),num:=(1:Int):Dot },sku:={ data:=#[(66:UInt8)]:ByteArray },qty:=(7:Int):Entry }.sku,qty:=(7:Int):Entry }],gone:={ vec:=[(1:Int),(1:Int)],cloud:=[]:Past },recs:=[{ sku:={ data:=#[(65:UInt8)]:ByteArray },past:={ vec:=[(2:Int)],cloud:=[]:Past }:Record }]:Facts }).2])) (by exact(Bq9 fxW B62).le (ZLe.cons (B9.agg Br8) ZLe.nil)) (oA 1 (.tup [.agg [.sl (List.map c67 (D5 { adds:=[{ dot:={ rep:=(1:Int),num:=(1:Int):Dot },sku:={ dot:={ rep:=(1:Int),num:=(1:Int):Dot },sku:={ data:=#[(66:UInt8)]:ByteArray },qty:=(7:Int):Entry }.sku,qty:=(7:Int):Entry }],gone:={ vec:=[(1:Int),(1:Int)],cloud:=[]:Past },recs:=[{ sku:={ data:=#[(65:UInt8)]:ByteArray },past:={ vec:=[(2:Int)],cloud:=[]:Past }:Record }]:Facts }).1.adds),.sl (List.map c3 (D5 { adds:=[{ dot:={ rep:=(1:Int),num:=(1:Int):Dot },sku:={ dot:={ rep:=(1:Int),num:=(1:Int):Dot },sku:={ data:=#[(66:UInt8)]:ByteArray },qty:=(7:Int):Entry }.sku,qty:=(7:Int):Entry }],gone:={ vec:=[(1:Int),(1:Int)],cloud:=[]:Past },recs:=[{ sku:={ data:=#[(65:UInt8)]:ByteArray },past:={ vec:=[(2:Int)],cloud:=[]:Past }:Record }]:Facts }).1.gone.vec),.sl (List.map B5 (D5 { adds:=[{ dot:={ rep:=(1:Int),num:=(1:Int):Dot },sku:={ dot:={ rep:=(1:Int),num:=(1:Int):Dot },sku:={ data:=#[(66:UInt8)]:ByteArray },qty:=(7:Int):Entry }.sku,qty:=(7:Int):Entry }],gone:={ vec:=[(1:Int),(1:Int)],cloud:=[]:Past },recs:=[{ sku:={ data:=#[(65:UInt8)]:ByteArray },past:={ vec:=[(2:Int)],cloud:=[]:Past }:Record }]:Facts }).1.gone.cloud),.sl (List.map c83 (D5 { adds:=[{ dot:={ rep:=(1:Int),num:=(1:Int):Dot },sku:={ dot:={ rep:=(1:Int),num:=(1:Int):Dot },sku:={ data:=#[(66:UInt8)]:ByteArray },qty:=(7:Int):Entry }.sku,qty:=(7:Int):Entry }],gone:={ vec:=[(1:Int),(1:Int)],cloud:=[]:Past },recs:=[{ sku:={ data:=#[(65:UInt8)]:ByteArray },past:={ vec:=[(2:Int)],cloud:=[]:Past }:Record }]:Facts }).1.recs)],.i .i64 ((D5 { adds:=[{ dot:={ rep:=(1:Int),num:=(1:Int):Dot },sku:={ dot:={ rep:=(1:Int),num:=(1:Int):Dot },sku:={ data:=#[(66:UInt8)]:ByteArray },qty:=(7:Int):Entry }.sku,qty:=(7:Int):Entry }],gone:={ vec:=[(1:Int),(1:Int)],cloud:=[]:Past },recs:=[{ sku:={ data:=#[(65:UInt8)]:ByteArray },past:={ vec:=[(2:Int)],cloud:=[]:Past }:Record }]:Facts }).2)]) z0)) ?_
 refine sn<|sq<|B3 (σ':=⟨[(0,.b (decide ((D5 { adds:=[{ dot:={ rep:=(1:Int),num:=(1:Int):Dot },sku:={ dot:={ rep:=(1:Int),num:=(1:Int):Dot },sku:={ data:=#[(66:UInt8)]:ByteArray },qty:=(7:Int):Entry }.sku,qty:=(7:Int):Entry }],gone:={ vec:=[(1:Int),(1:Int)],cloud:=[]:Past },recs:=[{ sku:={ data:=#[(65:UInt8)]:ByteArray },past:={ vec:=[(2:Int)],cloud:=[]:Past }:Record }]:Facts }).2=0∧(↑(D5 { adds:=[{ dot:={ rep:=(1:Int),num:=(1:Int):Dot },sku:={ dot:={ rep:=(1:Int),num:=(1:Int):Dot },sku:={ data:=#[(66:UInt8)]:ByteArray },qty:=(7:Int):Entry }.sku,qty:=(7:Int):Entry }],gone:={ vec:=[(1:Int),(1:Int)],cloud:=[]:Past },recs:=[{ sku:={ data:=#[(65:UInt8)]:ByteArray },past:={ vec:=[(2:Int)],cloud:=[]:Past }:Record }]:Facts }).1.adds.length:Int)=1∧(D5 { adds:=[{ dot:={ rep:=(1:Int),num:=(1:Int):Dot },sku:={ dot:={ rep:=(1:Int),num:=(1:Int):Dot },sku:={ data:=#[(66:UInt8)]:ByteArray },qty:=(7:Int):Entry }.sku,qty:=(7:Int):Entry }],gone:={ vec:=[(1:Int),(1:Int)],cloud:=[]:Past },recs:=[{ sku:={ data:=#[(65:UInt8)]:ByteArray },past:={ vec:=[(2:Int)],cloud:=[]:Past }:Record }]:Facts }).1.gone={ vec:=[(1:Int)],cloud:=[]:Past })))],[]⟩) ?_ ?_
 refine A4 ((D5 { adds:=[{ dot:={ rep:=(1:Int),num:=(1:Int):Dot },sku:={ dot:={ rep:=(1:Int),num:=(1:Int):Dot },sku:={ data:=#[(66:UInt8)]:ByteArray },qty:=(7:Int):Entry }.sku,qty:=(7:Int):Entry }],gone:={ vec:=[(1:Int),(1:Int)],cloud:=[]:Past },recs:=[{ sku:={ data:=#[(65:UInt8)]:ByteArray },past:={ vec:=[(2:Int)],cloud:=[]:Past }:Record }]:Facts }).2=0) (fun h5=>?_) (fun h5=>?_)
 refine A4 ((↑(D5 { adds:=[{ dot:={ rep:=(1:Int),num:=(1:Int):Dot },sku:={ dot:={ rep:=(1:Int),num:=(1:Int):Dot },sku:={ data:=#[(66:UInt8)]:ByteArray },qty:=(7:Int):Entry }.sku,qty:=(7:Int):Entry }],gone:={ vec:=[(1:Int),(1:Int)],cloud:=[]:Past },recs:=[{ sku:={ data:=#[(65:UInt8)]:ByteArray },past:={ vec:=[(2:Int)],cloud:=[]:Past }:Record }]:Facts }).1.adds.length:Int)=1) (fun h6=>?_) (fun h6=>?_)
 refine rG cx [0] [] (tT 1 (A3 h5) (tL 5 c67 ((D5 { adds:=[{ dot:={ rep:=(1:Int),num:=(1:Int):Dot },sku:={ dot:={ rep:=(1:Int),num:=(1:Int):Dot },sku:={ data:=#[(66:UInt8)]:ByteArray },qty:=(7:Int):Entry }.sku,qty:=(7:Int):Entry }],gone:={ vec:=[(1:Int),(1:Int)],cloud:=[]:Past },recs:=[{ sku:={ data:=#[(65:UInt8)]:ByteArray },past:={ vec:=[(2:Int)],cloud:=[]:Past }:Record }]:Facts }).1.adds) (tT 6 (A3 h6) (fP (Con Tryz.prog (25:Nat) [AV.agg [AV.sl (List.map c3 (D5 { adds:=[{ dot:={ rep:=(1:Int),num:=(1:Int):Dot },sku:={ dot:={ rep:=(1:Int),num:=(1:Int):Dot },sku:={ data:=#[(66:UInt8)]:ByteArray },qty:=(7:Int):Entry }.sku,qty:=(7:Int):Entry }],gone:={ vec:=[(1:Int),(1:Int)],cloud:=[]:Past },recs:=[{ sku:={ data:=#[(65:UInt8)]:ByteArray },past:={ vec:=[(2:Int)],cloud:=[]:Past }:Record }]:Facts }).1.gone.vec),AV.sl (List.map B5 (D5 { adds:=[{ dot:={ rep:=(1:Int),num:=(1:Int):Dot },sku:={ dot:={ rep:=(1:Int),num:=(1:Int):Dot },sku:={ data:=#[(66:UInt8)]:ByteArray },qty:=(7:Int):Entry }.sku,qty:=(7:Int):Entry }],gone:={ vec:=[(1:Int),(1:Int)],cloud:=[]:Past },recs:=[{ sku:={ data:=#[(65:UInt8)]:ByteArray },past:={ vec:=[(2:Int)],cloud:=[]:Past }:Record }]:Facts }).1.gone.cloud)],AV.agg [AV.sl (List.map c3 [(1:Int)]),AV.nl]] (AV.b (decide ((D5 { adds:=[{ dot:={ rep:=(1:Int),num:=(1:Int):Dot },sku:={ dot:={ rep:=(1:Int),num:=(1:Int):Dot },sku:={ data:=#[(66:UInt8)]:ByteArray },qty:=(7:Int):Entry }.sku,qty:=(7:Int):Entry }],gone:={ vec:=[(1:Int),(1:Int)],cloud:=[]:Past },recs:=[{ sku:={ data:=#[(65:UInt8)]:ByteArray },past:={ vec:=[(2:Int)],cloud:=[]:Past }:Record }]:Facts }).1.gone={ vec:=[(1:Int)],cloud:=[]:Past })))) (Con.le (Ap4 ((D5 { adds:=[{ dot:={ rep:=(1:Int),num:=(1:Int):Dot },sku:={ dot:={ rep:=(1:Int),num:=(1:Int):Dot },sku:={ data:=#[(66:UInt8)]:ByteArray },qty:=(7:Int):Entry }.sku,qty:=(7:Int):Entry }],gone:={ vec:=[(1:Int),(1:Int)],cloud:=[]:Past },recs:=[{ sku:={ data:=#[(65:UInt8)]:ByteArray },past:={ vec:=[(2:Int)],cloud:=[]:Past }:Record }]:Facts }).1.gone) ({ vec:=[(1:Int)],cloud:=[]:Past }) (by show(D5 fxW).1.gone.vec.length≤_;rw[Ar9];decide) (by show(D5 fxW).1.gone.cloud.length≤_;rw[Ar9];decide)) (ZLe.cons (B9.refl _) (ZLe.cons (B9.agg (ZLe.cons (B9.refl _) (ZLe.cons B9.nl ZLe.nil))) ZLe.nil))) (tD 15 (decide ((D5 { adds:=[{ dot:={ rep:=(1:Int),num:=(1:Int):Dot },sku:={ dot:={ rep:=(1:Int),num:=(1:Int):Dot },sku:={ data:=#[(66:UInt8)]:ByteArray },qty:=(7:Int):Entry }.sku,qty:=(7:Int):Entry }],gone:={ vec:=[(1:Int),(1:Int)],cloud:=[]:Past },recs:=[{ sku:={ data:=#[(65:UInt8)]:ByteArray },past:={ vec:=[(2:Int)],cloud:=[]:Past }:Record }]:Facts }).1.gone={ vec:=[(1:Int)],cloud:=[]:Past })) ((D5 { adds:=[{ dot:={ rep:=(1:Int),num:=(1:Int):Dot },sku:={ dot:={ rep:=(1:Int),num:=(1:Int):Dot },sku:={ data:=#[(66:UInt8)]:ByteArray },qty:=(7:Int):Entry }.sku,qty:=(7:Int):Entry }],gone:={ vec:=[(1:Int),(1:Int)],cloud:=[]:Past },recs:=[{ sku:={ data:=#[(65:UInt8)]:ByteArray },past:={ vec:=[(2:Int)],cloud:=[]:Past }:Record }]:Facts }).2=0∧(↑(D5 { adds:=[{ dot:={ rep:=(1:Int),num:=(1:Int):Dot },sku:={ dot:={ rep:=(1:Int),num:=(1:Int):Dot },sku:={ data:=#[(66:UInt8)]:ByteArray },qty:=(7:Int):Entry }.sku,qty:=(7:Int):Entry }],gone:={ vec:=[(1:Int),(1:Int)],cloud:=[]:Past },recs:=[{ sku:={ data:=#[(65:UInt8)]:ByteArray },past:={ vec:=[(2:Int)],cloud:=[]:Past }:Record }]:Facts }).1.adds.length:Int)=1∧(D5 { adds:=[{ dot:={ rep:=(1:Int),num:=(1:Int):Dot },sku:={ dot:={ rep:=(1:Int),num:=(1:Int):Dot },sku:={ data:=#[(66:UInt8)]:ByteArray },qty:=(7:Int):Entry }.sku,qty:=(7:Int):Entry }],gone:={ vec:=[(1:Int),(1:Int)],cloud:=[]:Past },recs:=[{ sku:={ data:=#[(65:UInt8)]:ByteArray },past:={ vec:=[(2:Int)],cloud:=[]:Past }:Record }]:Facts }).1.gone={ vec:=[(1:Int)],cloud:=[]:Past }) (by simp only [eq_true h5,eq_true h6,tsl]) (oA 13 (.b (decide ((D5 { adds:=[{ dot:={ rep:=(1:Int),num:=(1:Int):Dot },sku:={ dot:={ rep:=(1:Int),num:=(1:Int):Dot },sku:={ data:=#[(66:UInt8)]:ByteArray },qty:=(7:Int):Entry }.sku,qty:=(7:Int):Entry }],gone:={ vec:=[(1:Int),(1:Int)],cloud:=[]:Past },recs:=[{ sku:={ data:=#[(65:UInt8)]:ByteArray },past:={ vec:=[(2:Int)],cloud:=[]:Past }:Record }]:Facts }).1.gone={ vec:=[(1:Int)],cloud:=[]:Past }))) z0)))))) ?_
 exact⟨rfl,by kernel_rfl⟩
 refine rG cx [0] [] (tT 1 (A3 h5) (tL 5 c67 ((D5 { adds:=[{ dot:={ rep:=(1:Int),num:=(1:Int):Dot },sku:={ dot:={ rep:=(1:Int),num:=(1:Int):Dot },sku:={ data:=#[(66:UInt8)]:ByteArray },qty:=(7:Int):Entry }.sku,qty:=(7:Int):Entry }],gone:={ vec:=[(1:Int),(1:Int)],cloud:=[]:Past },recs:=[{ sku:={ data:=#[(65:UInt8)]:ByteArray },past:={ vec:=[(2:Int)],cloud:=[]:Past }:Record }]:Facts }).1.adds) (tT 6 (A0 h6) (tD 15 false ((D5 { adds:=[{ dot:={ rep:=(1:Int),num:=(1:Int):Dot },sku:={ dot:={ rep:=(1:Int),num:=(1:Int):Dot },sku:={ data:=#[(66:UInt8)]:ByteArray },qty:=(7:Int):Entry }.sku,qty:=(7:Int):Entry }],gone:={ vec:=[(1:Int),(1:Int)],cloud:=[]:Past },recs:=[{ sku:={ data:=#[(65:UInt8)]:ByteArray },past:={ vec:=[(2:Int)],cloud:=[]:Past }:Record }]:Facts }).2=0∧(↑(D5 { adds:=[{ dot:={ rep:=(1:Int),num:=(1:Int):Dot },sku:={ dot:={ rep:=(1:Int),num:=(1:Int):Dot },sku:={ data:=#[(66:UInt8)]:ByteArray },qty:=(7:Int):Entry }.sku,qty:=(7:Int):Entry }],gone:={ vec:=[(1:Int),(1:Int)],cloud:=[]:Past },recs:=[{ sku:={ data:=#[(65:UInt8)]:ByteArray },past:={ vec:=[(2:Int)],cloud:=[]:Past }:Record }]:Facts }).1.adds.length:Int)=1∧(D5 { adds:=[{ dot:={ rep:=(1:Int),num:=(1:Int):Dot },sku:={ dot:={ rep:=(1:Int),num:=(1:Int):Dot },sku:={ data:=#[(66:UInt8)]:ByteArray },qty:=(7:Int):Entry }.sku,qty:=(7:Int):Entry }],gone:={ vec:=[(1:Int),(1:Int)],cloud:=[]:Past },recs:=[{ sku:={ data:=#[(65:UInt8)]:ByteArray },past:={ vec:=[(2:Int)],cloud:=[]:Past }:Record }]:Facts }).1.gone={ vec:=[(1:Int)],cloud:=[]:Past }) (by simp only [eq_true h5,eq_false h6,tsl]) z0)))) ?_
 exact⟨rfl,by kernel_rfl⟩
 refine rG cx [0] [] (tT 1 (A0 h5) (tD 15 false ((D5 { adds:=[{ dot:={ rep:=(1:Int),num:=(1:Int):Dot },sku:={ dot:={ rep:=(1:Int),num:=(1:Int):Dot },sku:={ data:=#[(66:UInt8)]:ByteArray },qty:=(7:Int):Entry }.sku,qty:=(7:Int):Entry }],gone:={ vec:=[(1:Int),(1:Int)],cloud:=[]:Past },recs:=[{ sku:={ data:=#[(65:UInt8)]:ByteArray },past:={ vec:=[(2:Int)],cloud:=[]:Past }:Record }]:Facts }).2=0∧(↑(D5 { adds:=[{ dot:={ rep:=(1:Int),num:=(1:Int):Dot },sku:={ dot:={ rep:=(1:Int),num:=(1:Int):Dot },sku:={ data:=#[(66:UInt8)]:ByteArray },qty:=(7:Int):Entry }.sku,qty:=(7:Int):Entry }],gone:={ vec:=[(1:Int),(1:Int)],cloud:=[]:Past },recs:=[{ sku:={ data:=#[(65:UInt8)]:ByteArray },past:={ vec:=[(2:Int)],cloud:=[]:Past }:Record }]:Facts }).1.adds.length:Int)=1∧(D5 { adds:=[{ dot:={ rep:=(1:Int),num:=(1:Int):Dot },sku:={ dot:={ rep:=(1:Int),num:=(1:Int):Dot },sku:={ data:=#[(66:UInt8)]:ByteArray },qty:=(7:Int):Entry }.sku,qty:=(7:Int):Entry }],gone:={ vec:=[(1:Int),(1:Int)],cloud:=[]:Past },recs:=[{ sku:={ data:=#[(65:UInt8)]:ByteArray },past:={ vec:=[(2:Int)],cloud:=[]:Past }:Record }]:Facts }).1.gone={ vec:=[(1:Int)],cloud:=[]:Past }) (by simp only [eq_false h5,tsl]) z0)) ?_
 exact⟨rfl,by kernel_rfl⟩
 refine sn<|rT<|qR (.b (decide ((D5 { adds:=[{ dot:={ rep:=(1:Int),num:=(1:Int):Dot },sku:={ dot:={ rep:=(1:Int),num:=(1:Int):Dot },sku:={ data:=#[(66:UInt8)]:ByteArray },qty:=(7:Int):Entry }.sku,qty:=(7:Int):Entry }],gone:={ vec:=[(1:Int),(1:Int)],cloud:=[]:Past },recs:=[{ sku:={ data:=#[(65:UInt8)]:ByteArray },past:={ vec:=[(2:Int)],cloud:=[]:Past }:Record }]:Facts }).2=0∧(↑(D5 { adds:=[{ dot:={ rep:=(1:Int),num:=(1:Int):Dot },sku:={ dot:={ rep:=(1:Int),num:=(1:Int):Dot },sku:={ data:=#[(66:UInt8)]:ByteArray },qty:=(7:Int):Entry }.sku,qty:=(7:Int):Entry }],gone:={ vec:=[(1:Int),(1:Int)],cloud:=[]:Past },recs:=[{ sku:={ data:=#[(65:UInt8)]:ByteArray },past:={ vec:=[(2:Int)],cloud:=[]:Past }:Record }]:Facts }).1.adds.length:Int)=1∧(D5 { adds:=[{ dot:={ rep:=(1:Int),num:=(1:Int):Dot },sku:={ dot:={ rep:=(1:Int),num:=(1:Int):Dot },sku:={ data:=#[(66:UInt8)]:ByteArray },qty:=(7:Int):Entry }.sku,qty:=(7:Int):Entry }],gone:={ vec:=[(1:Int),(1:Int)],cloud:=[]:Past },recs:=[{ sku:={ data:=#[(65:UInt8)]:ByteArray },past:={ vec:=[(2:Int)],cloud:=[]:Past }:Record }]:Facts }).1.gone={ vec:=[(1:Int)],cloud:=[]:Past }))) (.eq ?g10);rotate_left
 case g6 =>
  rcases h3 with h3 | h3 | h3
  ·exact absurd c2 h3
  ·exact absurd c1 h3
  ·exact absurd Br7 h3
 case g10 =>
  show AV.b (decide ((D5 fxW).2=0∧((D5 fxW).1.adds.length:Int)=1∧(D5 fxW).1.gone=⟨[1],[]⟩))=AV.b true
  rw[Ar9]
  rfl
end Go.Proofs.YtokhjapfekbobaaGreat
namespace Go.Proofs.YtokhjapfekbobaaGreat
open Go.E
set_option maxRecDepth 100000
set_option maxHeartbeats 4000000
def A1q(es:List Entry)(d:Dot):Int:=match es.findIdx? (fun e=>decide (e.dot=d))with | some k=>k | none=>-1
def isPl(es:List Entry)(d:Dot)(lo hi:Int):Prop:=(∀ k:Nat,(k:Int) < lo→dLt es[k]!.dot d=true)∧∀ k:Nat,hi≤k→k < es.length→¬ dLt es[k]!.dot d=true
def Ba0(es:List Entry)(d:Dot)(lo hi:Int):Prop:=0≤lo∧lo≤hi∧hi≤es.length∧isPl es d lo hi
def Ba1(es:List Entry)(d:Dot)(lo hi r n:Int):Prop:=r=d.rep∧n=d.num∧Ba0 es d lo hi
def decPl(lo hi r n:Int):Nat:=(hi-lo).toNat
def A40(a b:List Entry):Bool:=a.any fun x=>b.any fun y=>decide (x.dot=y.dot∧¬ x=y)
theorem Br9{a b:List Entry}:A40 a b=true↔¬ A31 a b:=by
 unfold A40 A31
 rw[List.any_eq_true]
 constructor
 ·rintro⟨x,hx,h⟩ k
  obtain⟨y,hy,h⟩:=List.any_eq_true.1 h
  have h:=of_decide_eq_true h
  exact h.2 (k x hx y hy h.1)
 ·intro h
  refine Classical.byContradiction fun k=>h fun x hx y hy hd=>Classical.byContradiction fun e=>k ⟨x,hx,List.any_eq_true.2 ⟨y,hy,decide_eq_true ⟨hd,e⟩⟩⟩
def isCk(a b:List Entry)(i:Int):Prop:=∀ k:Nat,(k:Int) < i→∀ y∈b,a[k]!.dot=y.dot→a[k]! = y
def Ba2(a b:List Entry)(i:Int):Prop:=0≤i∧i≤a.length∧isCk a b i
def decCk(a:List Entry)(i:Int):Nat:=(a.length-i).toNat
theorem Ba3{es:List Entry}{d:Dot}{k:Nat}(hk:k < es.length)(hd:es[k]!.dot=d)(hn:∀ j:Nat,j < k→¬ es[j]!.dot=d):A1q es d=k:=by
 have:es.findIdx? (fun e=>decide (e.dot=d))=some k:=by
  rw[List.findIdx?_eq_some_iff_getElem]
  refine⟨hk,?_,fun j hj=>?_⟩
  ·rw[getElem!_pos es k hk]at hd
   exact decide_eq_true hd
  ·have:=hn j hj
   rw[getElem!_pos es j (by omega)]at this
   simpa using this
 unfold A1q
 rw[this]
theorem Ba4{es:List Entry}{d:Dot}(h:∀ e∈es,¬ e.dot=d):A1q es d=-1:=by
 have:es.findIdx? (fun e=>decide (e.dot=d))=none:=by
  rw[List.findIdx?_eq_none_iff]
  exact fun x hx=>decide_eq_false (h x hx)
 unfold A1q
 rw[this]
theorem B63(es:List Entry)(d:Dot):(∃ k:Nat,A1q es d=k∧k < es.length∧es[k]!.dot=d)∨(A1q es d=-1∧∀ e∈es,¬ e.dot=d):=by
 unfold A1q
 cases c:es.findIdx? (fun e=>decide (e.dot=d))with
 | none=>exact .inr ⟨rfl,fun e he=>of_decide_eq_false ((List.findIdx?_eq_none_iff.1 c) e he)⟩
 | some k =>
  obtain⟨h1,h2,_⟩:=List.findIdx?_eq_some_iff_getElem.1 c
  exact .inl ⟨k,rfl,h1,by rw[getElem!_pos es k h1];exact of_decide_eq_true h2⟩
theorem pl_lo{es:List Entry}{d:Dot}{lo hi m:Int}(hf:W4 es)(h0:0≤lo)(h1:lo≤m)(h2:m < hi)(h3:hi≤es.length)(hc:dLt es[m.toNat]!.dot d=true)(h:isPl es d lo hi):Ba0 es d (m+1) hi:=by
 refine⟨by omega,by omega,h3,fun k hk=>?_,h.2⟩
 by_cases e:k=m.toNat
 ·rw[e];exact hc
 ·exact A30 (Ar8 hf (i:=k) (j:=m.toNat) (by omega) (by omega)) hc
theorem pl_hi{es:List Entry}{d:Dot}{lo hi m:Int}(hf:W4 es)(h0:0≤lo)(h1:lo≤m)(h2:m < hi)(h3:hi≤es.length)(hc:¬ dLt es[m.toNat]!.dot d=true)(h:isPl es d lo hi):Ba0 es d lo m:=by
 refine⟨h0,h1,by omega,h.1,fun k hk hl=>?_⟩
 by_cases e:k=m.toNat
 ·rw[e];exact hc
 ·exact fun c=>hc (A30 (Ar8 hf (i:=m.toNat) (j:=k) (by omega) hl) c)
theorem Bf5{es:List Entry}{d:Dot}{lo hi:Int}(hf:W4 es)(h0:0≤lo)(h1:lo≤hi)(h2:¬ lo < hi)(h3:hi≤es.length)(h:isPl es d lo hi):A1q es d=if lo < es.length∧es[lo.toNat]!.dot=d then lo else -1:=by
 have low:∀ k:Nat,(k:Int) < lo→¬ es[k]!.dot=d:=fun k hk e=>by
  have:=h.1 k hk
  rw[e]at this
  exact A3m _ this
 by_cases c:lo < es.length∧es[lo.toNat]!.dot=d
 ·rw[if_pos c,Ba3 (k:=lo.toNat) (by omega) c.2 fun j hj=>low j (by omega)]
  omega
 ·rw[if_neg c]
  refine Ba4 fun e he hd=>?_
  obtain⟨k,hk,rfl⟩:=List.mem_iff_getElem.1 he
  rw[← getElem!_pos es k hk]at hd
  by_cases q:(k:Int) < lo
  ·exact low k q hd
  ·by_cases z:k=lo.toNat
   ·exact c ⟨by omega,by rw[← z];exact hd⟩
   ·have:=Ar8 hf (i:=lo.toNat) (j:=k) (by omega) hk
    rw[hd]at this
    exact h.2 lo.toNat (by omega) (by omega) this
theorem Bs0{a b:List Entry}{i:Int}(h0:0≤i)(h:isCk a b i)(hi:i < a.length)(hb:W4 b)(hn:¬(0≤A1q b a[i.toNat]!.dot∧¬a[i.toNat]! = b[(A1q b a[i.toNat]!.dot).toNat]!)):Ba2 a b (i+1):=by
 refine⟨by omega,by omega,fun k hk=>?_⟩
 by_cases e:k=i.toNat
 ·subst e
  intro y hy hd
  rcases B63 b a[i.toNat]!.dot with⟨k,e1,e2,e3⟩ | ⟨_,e2⟩
  ·rw[e1]at hn
   have e4:=Classical.not_not.1 fun q=>hn ⟨by omega,q⟩
   rw[show((k:Nat):Int).toNat=k by omega]at e4
   have hm:b[k]!∈b:=E2 e2
   rw[e4]
   exact A6k hb hm hy (by rw[e3,hd])
  ·exact absurd hd.symm (e2 y hy)
 ·exact h k (by omega)
theorem ck_hit{a b:List Entry}{i:Int}(h0:0≤i)(hi:i < a.length)(h:0≤A1q b a[i.toNat]!.dot∧¬a[i.toNat]! = b[(A1q b a[i.toNat]!.dot).toNat]!):A40 a b=true:=by
 rw[Br9]
 intro k
 rcases B63 b a[i.toNat]!.dot with⟨q,e1,e2,e3⟩ | ⟨e1,_⟩
 ·rw[e1]at h
  have hm:b[q]!∈b:=E2 e2
  refine h.2 ?_
  rw[show((q:Nat):Int).toNat=q by omega]
  exact k _ (E2 (by omega)) _ hm e3.symm
 ·omega
theorem ck_end{a b:List Entry}{i:Int}(hi:¬ i < a.length)(h:isCk a b i):A40 a b=false:=by
 rw[Bool.eq_false_iff]
 intro k
 refine Br9.1 k fun x hx y hy hd=>?_
 obtain⟨n,hn,rfl⟩:=List.mem_iff_getElem.1 hx
 have:=h n (by omega) y hy
 rw[getElem!_pos a n hn]at this
 exact this hd
theorem con106(es:List Entry)(d:Dot)(h:D2 es=0):Con Tryz.prog 106 [.sl (es.map c67),.agg (c65 d)] (.i .i64 (A1q es d)) :=
 by
 have mid:∀ {lo hi:Int},0≤lo→lo≤hi→lo < hi→lo≤(lo+hi).tdiv 2∧(lo+hi).tdiv 2 < hi:=fun {lo hi} a b c=>by
  rw[Int.tdiv_eq_ediv_of_nonneg (by omega)]
  omega
 have len:=A0a (N9 h)
 have fm:=(Z3 es).1 h
 refine lN 0 c67 (es) Tryz.func106 fun hl_0=>sC A9 [.tmp 4] 41 Tryz.func106 ?_
 intro e0 cx
 refine sq<|rG cx [0,3] [3] z0<|sn<|sq<|rG cx [0,3,5,6] [3] (tL 1 c67 es z0)<|sn<|sq<|bL 0<|sL (X:=Int×Int×Int×Int) (fun x=>⟨[(0,.sl (List.map c67 es)),(3,.ptr (3) (0) (0) (0)),(5,.i .i64 (x.1)),(6,.i .i64 (x.2.1))],[(3,⟨0,65,.var [.i .i64 (x.2.2.1),.i .i64 (x.2.2.2)]⟩)]⟩) (fun x ↦ decPl x.1 x.2.1 x.2.2.1 x.2.2.2) (fun x ↦ Ba1 es d x.1 x.2.1 x.2.2.1 x.2.2.2) [0,3,5,6] [3] (((0:Int),(↑es.length:Int),d.rep,d.num)) (show Ba1 es d (0:Int) (↑es.length:Int) d.rep d.num from(by exact⟨rfl,rfl,by omega,by omega,by omega,fun k hk=>by omega,fun k hk hl=>by omega⟩)) ?_
 rintro⟨l0,hh1,r2,n3⟩ h_4
 obtain⟨h5,h6,h7⟩:r2=d.rep∧n3=d.num∧Ba0 es d l0 hh1:=h_4
 refine sq<|rD cx [0,3,5,6,12] [3] (zB 2 (l0 < hh1)) (fun h8=>?_) fun h8=>?_
 refine sK<|sn<|bL 1<|sq<|rG cx [0,3,5,6,7] [3] (tT 2 (B7 (by have q:=mid h7.1 h7.2.1 h8;have w:=h7.2.2.1;have v:=h7.1;omega) (by have q:=mid h7.1 h7.2.1 h8;have w:=h7.2.2.1;have v:=h7.1;omega):AV.i .i64 (IntKind.i64.wrap (l0+hh1))=AV.i .i64 (l0+hh1)) (tT 3 (B7 (by have q:=mid h7.1 h7.2.1 h8;have w:=h7.2.2.1;have v:=h7.1;omega) (by have q:=mid h7.1 h7.2.1 h8;have w:=h7.2.2.1;have v:=h7.1;omega):AV.i .i64 (IntKind.i64.wrap ((l0+hh1).tdiv (2:Int)))=AV.i .i64 ((l0+hh1).tdiv (2:Int))) z0)) ?_
 refine sn<|sq<|rA cx [0,3,5,6,7,23] [3] (fP (0≤(l0+hh1).tdiv (2:Int)) (by have q:=mid h7.1 h7.2.1 h8;have w:=h7.2.2.1;have v:=h7.1;omega) (fP ((List.map c67 es)[((l0+hh1).tdiv (2:Int)).toNat]?=some (c67 es[((l0+hh1).tdiv (2:Int)).toNat]!)) (by have q:=mid h7.1 h7.2.1 h8;have w:=h7.2.2.1;have v:=h7.1;rw[List.getElem?_map,List.getElem?_eq_getElem (by omega),getElem!_pos es _ (by omega)];rfl) (fR 4 (fN 2 4 (fT (con79 (es[((l0+hh1).tdiv (2:Int)).toNat]!.dot) ({ rep:=r2,num:=n3:Dot })) (oR 2 (c67 es[((l0+hh1).tdiv (2:Int)).toNat]!) (oA 6 (.b (dLt es[((l0+hh1).tdiv (2:Int)).toNat]!.dot { rep:=r2,num:=n3:Dot })) z0))))))) ?_
 refine sn<|X5 (dLt es[((l0+hh1).tdiv (2:Int)).toNat]!.dot { rep:=r2,num:=n3:Dot }) (by kernel_rfl) (by kernel_rfl) (fun h9=>?_) (fun h9=>?_)
 refine rG cx [0,3,5,6] [3] (tT 1 (B7 (by have q:=mid h7.1 h7.2.1 h8;have w:=h7.2.2.1;have v:=h7.1;omega) (by have q:=mid h7.1 h7.2.1 h8;have w:=h7.2.2.1;have v:=h7.1;omega):AV.i .i64 (IntKind.i64.wrap ((l0+hh1).tdiv (2:Int)+(1:Int)))=AV.i .i64 ((l0+hh1).tdiv (2:Int)+(1:Int))) z0) ?_
 refine bN<|sn<|nX (((l0+hh1).tdiv (2:Int)+(1:Int),hh1,r2,n3)) (show(hh1-((l0+hh1).tdiv (2:Int)+(1:Int))).toNat <(hh1-l0).toNat from(by have q:=mid h7.1 h7.2.1 h8;have w:=h7.2.2.1;have v:=h7.1;omega)) (show Ba1 es d ((l0+hh1).tdiv (2:Int)+(1:Int)) hh1 r2 n3 from(by have q:=mid h7.1 h7.2.1 h8;have w:=h7.2.2.1;have v:=h7.1;subst h5 h6;exact⟨rfl,rfl,pl_lo fm v q.1 q.2 w h9 h7.2.2.2⟩))
 refine rG cx [0,3,5,6] [3] z0<|bN<|sn<|nX ((l0,(l0+hh1).tdiv (2:Int),r2,n3)) (show((l0+hh1).tdiv 2-l0).toNat <(hh1-l0).toNat from(by have q:=mid h7.1 h7.2.1 h8;have w:=h7.2.2.1;have v:=h7.1;omega)) (show Ba1 es d l0 ((l0+hh1).tdiv (2:Int)) r2 n3 from(by have q:=mid h7.1 h7.2.1 h8;have w:=h7.2.2.1;have v:=h7.1;subst h5 h6;exact⟨rfl,rfl,pl_hi fm v q.1 q.2 w (by have h9:dLt es[((l0+hh1).tdiv 2).toNat]!.dot d=false:=h9;rw[h9];decide) h7.2.2.2⟩))
 refine eX 0<|nE<|nE<|bH<|sn<|sq<|sq<|B3 (σ':=⟨[(5,.i .i64 (l0)),(39,.b (decide (l0 <(↑es.length:Int)∧es[l0.toNat]!.dot={ rep:=r2,num:=n3:Dot })))],[]⟩) ?_ ?_
 refine A4 (l0 <(↑es.length:Int)) (fun h11=>?_) (fun h11=>?_)
 refine rA cx [5,39] [] (tL 2 c67 es (tT 3 (A3 h11) (fP (0≤l0) (by exact h7.1) (fP ((List.map c67 es)[l0.toNat]?=some (c67 es[l0.toNat]!)) (by have v:=h7.1;rw[List.getElem?_map,List.getElem?_eq_getElem (by omega),getElem!_pos es _ (by omega)];rfl) (fR 4 (fN 2 4 (fT (eq65 es[l0.toNat]!.dot { rep:=r2,num:=n3:Dot }) (tD 12 (decide (es[l0.toNat]!.dot={ rep:=r2,num:=n3:Dot })) (l0 <(↑es.length:Int)∧es[l0.toNat]!.dot={ rep:=r2,num:=n3:Dot }) (by simp only [eq_true h11,tsl]) (oR 7 (c67 es[l0.toNat]!) (oA 11 (.b (decide (es[l0.toNat]!.dot={ rep:=r2,num:=n3:Dot }))) z0)))))))))) ?_
 exact⟨rfl,by kernel_rfl⟩
 refine rA cx [5,39] [] (tL 2 c67 es (tT 3 (A0 h11) (tD 12 false (l0 <(↑es.length:Int)∧es[l0.toNat]!.dot={ rep:=r2,num:=n3:Dot }) (by simp only [eq_false h11,tsl]) z0))) ?_
 exact⟨rfl,by kernel_rfl⟩
 refine sn<|dC (l0 <(↑es.length:Int)∧es[l0.toNat]!.dot={ rep:=r2,num:=n3:Dot }) (fun h12=>?_) fun h12=>?_
 refine sq<|rG cx [4] [] z0<|sn<|rT<|nR<|qR (.i .i64 (l0)) (.eq (by subst h5 h6;rw[Bf5 fm h7.1 h7.2.1 h8 h7.2.2.1 h7.2.2.2,if_pos h12]))
 refine sK<|sn<|sq<|rG cx [4] [] z0<|sn<|rT<|qR (.i .i64 ((-1:Int))) (.eq (by subst h5 h6;rw[Bf5 fm h7.1 h7.2.1 h8 h7.2.2.1 h7.2.2.2,if_neg h12]))
theorem con56(a b:List Entry)(ha:D2 a=0)(hb:D2 b=0):Con Tryz.prog 56 [.sl (a.map c67),.sl (b.map c67)] (.b (A40 a b)) :=
 by
 have fb:=(Z3 b).1 hb
 refine lN 0 c67 (a) Tryz.func56 fun hl_0=>lN 1 c67 (b) Tryz.func56 fun hl_1=>sC A9 [.tmp 4] 33 Tryz.func56 ?_
 intro e0 cx
 refine sq<|rG cx [0,1] [] z0<|sn<|sq<|sq<|rG cx [0,1,5] [] z0<|sn<|bL 0<|sL (X:=Int) (fun x=>⟨[(0,.sl (List.map c67 a)),(1,.sl (List.map c67 b)),(5,.i .i64 (x))],[]⟩) (fun x ↦ decCk a x) (fun x ↦ Ba2 a b x) [0,1,5] [] ((0:Int)) (show Ba2 a b (0:Int)from(by exact⟨by omega,by omega,fun k hk=>by omega⟩)) ?_
 intro i0 h_1
 obtain⟨hh2,hh3,hh4⟩:0≤i0∧i0≤(↑a.length:Int)∧isCk a b i0:=h_1
 refine sq<|rD cx [0,1,5,10] [] (tL 2 c67 a (zB 3 (i0 <(↑a.length:Int)))) (fun h5=>?_) fun h5=>?_
 refine sK<|sn<|sq<|bL 1<|sq<|rG cx [0,1,5,6] [] (fA (0≤i0) (fG c67 a i0.toNat (fR 4 (fN 2 4 (fT (con106 (b) (a[i0.toNat]!.dot) (by with_reducible assumption)) (oR 3 (c67 a[i0.toNat]!) (oA 6 (.i .i64 (A1q b a[i0.toNat]!.dot)) z0)))))))<|sn<|sq<|B3 (σ':=⟨[(0,.sl (List.map c67 a)),(1,.sl (List.map c67 b)),(5,.i .i64 (i0)),(32,.b (decide (0≤A1q b a[i0.toNat]!.dot∧¬a[i0.toNat]! = b[(A1q b a[i0.toNat]!.dot).toNat]!)))],[]⟩) ?_ ?_
 refine A4 (0≤A1q b a[i0.toNat]!.dot) (fun h7=>?_) (fun h7=>?_)
 refine rA cx [0,1,5,32] [] (tT 1 (A3 h7) (fA (0≤i0) (fG c67 a i0.toNat (fR 4 (fN 4 4 (fA (0≤A1q b a[i0.toNat]!.dot) (fP ((List.map c67 b)[(A1q b a[i0.toNat]!.dot).toNat]?=some (c67 b[(A1q b a[i0.toNat]!.dot).toNat]!)) ?g1 (fR 4 (fN 4 4 (fT (V5 (eq67 a[i0.toNat]! b[(A1q b a[i0.toNat]!.dot).toNat]!)) (tD 12 (decide ¬a[i0.toNat]! = b[(A1q b a[i0.toNat]!.dot).toNat]!) (0≤A1q b a[i0.toNat]!.dot∧¬a[i0.toNat]! = b[(A1q b a[i0.toNat]!.dot).toNat]!) (by simp only [eq_true h7,tsl]) (oR 5 (c67 a[i0.toNat]!) (oR 9 (c67 b[(A1q b a[i0.toNat]!.dot).toNat]!) (oA 11 (.b (decide ¬a[i0.toNat]! = b[(A1q b a[i0.toNat]!.dot).toNat]!)) z0)))))))))))))) ?_;rotate_left
 exact⟨rfl,by kernel_rfl⟩
 refine rA cx [0,1,5,32] [] (tT 1 (A0 h7) (tD 12 false (0≤A1q b a[i0.toNat]!.dot∧¬a[i0.toNat]! = b[(A1q b a[i0.toNat]!.dot).toNat]!) (by simp only [eq_false h7,tsl]) z0)) ?_
 exact⟨rfl,by kernel_rfl⟩
 refine sn<|dC (0≤A1q b a[i0.toNat]!.dot∧¬a[i0.toNat]! = b[(A1q b a[i0.toNat]!.dot).toNat]!) (fun h8=>?_) fun h8=>?_
 refine sq<|rG cx [4] [] z0<|sn<|rT<|bR<|nR<|nR<|bR<|nR<|qR (.b (true)) (.eq (by rw[ck_hit hh2 h5 h8]))
 refine sK<|bN<|sn<|rG cx [0,1,5] [] (tW 1 (i0+1) z0)<|sn<|nX (i0+1) (show((↑a.length:Int)-(i0+1)).toNat <((↑a.length:Int)-i0).toNat from(by omega)) (show Ba2 a b (i0+1)from(by exact Bs0 hh2 hh4 h5 fb h8))
 refine eX 0<|nE<|nE<|bH<|sn<|sq<|rG cx [4] [] z0<|sn<|rT<|qR (.b (false)) (.eq (by rw[ck_end h5 hh4]))
 case g1 =>
  rcases B63 b a[i0.toNat]!.dot with⟨k,e1,e2,_⟩ | ⟨e1,_⟩
  ·rw[e1,show((k:Nat):Int).toNat=k by omega,List.getElem?_map,List.getElem?_eq_getElem e2,getElem!_pos b k e2];rfl
  ·omega
theorem con18(a b:Facts)(ha:okF a=true)(hb:okF b=true):Con Tryz.prog 18 [.agg (c29 a),.agg (c29 b)] (.b (A40 a.adds b.adds)) :=
 by
 refine sC A9 [.tmp 4] 10 Tryz.func18 ?_
 intro e0 cx
 refine sq<|rG cx [2,3] [2,3] z0<|sn<|sq<|rG cx [4] [] (fT (con56 (a.adds) (b.adds) ?g0 ?g1) (oA 4 (.b (A40 a.adds b.adds)) z0)) ?_;rotate_left 2
 refine sn<|rT ?_
 exact A43 (r:=.b (A40 a.adds b.adds)) (obl:=[]) (by kernel_rfl) trivial (B9.refl _)
 case g0=>exact(D7.1 ha).1
 case g1=>exact(D7.1 hb).1
end Go.Proofs.YtokhjapfekbobaaGreat
namespace Go.Proofs.YtokhjapfekbobaaGreat
open Go.E
set_option maxRecDepth 100000
set_option maxHeartbeats 4000000
theorem Bs1(f:Facts):szF (A7 f).1:=by
 by_cases k:okF f=true
 ·rw[J3 k];exact A1d (U7 (Z9 k))
 ·rw[A1e k];exact A1d Ab7
theorem B64{f:Facts}{n:Nat}(h:szB n f):szB n (A6 f).1:=by
 by_cases k:okF f=true
 ·rw[A6s k]
  exact⟨A1d (A6o (Z9 k)),Nat.le_trans (A6r f.recs (C6 f)) h.2.1,Nat.le_trans (A4l (List.filter_sublist (l:=f.recs))) h.2.2⟩
 ·rw[A3z k];exact⟨A1d Ab7,Nat.zero_le _,Nat.zero_le _⟩
theorem Bs2{f:Facts}{n:Nat}(h:szB n f):szB n (D5 f).1:=by
 by_cases k:okS f=true
 ·rw[A1o k];exact⟨A1d (A6o k),h.2.1,h.2.2⟩
 ·rw[B5x k];exact⟨A1d Ab7,Nat.zero_le _,Nat.zero_le _⟩
theorem M2{f:Facts}{n:Nat}(h:szB n f)(k:n≤7):f.recs.length≤4611686018427387904:=Nat.le_trans h.2.1 (Nat.le_trans (Nat.mul_le_mul_right _ k) (by decide))
theorem back_S{s:Facts}(h:okS s=true):¬(¬(D5 s).2=0∨¬(A7 (D5 s).1).2=0∨¬(A7 (D5 s).1).1=s∨¬M1 (D5 s).1 s=true):=by
 rw[A1o h,J3 (A6o h),Al0 h]
 rintro(k | k | k | k)
 ·exact k rfl
 ·exact k rfl
 ·exact k rfl
 ·exact k (A36.2 ⟨A6o h,Al0 h⟩)
theorem Bf6{f:Facts}(h:okF f=true):¬(¬(A6 f).2=0∨¬(A6 (A6 f).1).2=0∨¬(A7 f).2=0∨¬(A7 (A6 f).1).2=0∨¬(A6 f).1=(A6 (A6 f).1).1∨¬(A7 f).1=(A7 (A6 f).1).1∨¬M1 (A6 f).1 (A7 f).1=true):=by
 have o:=A6o (Z9 h)
 have e:=Al0 (Z9 h)
 rw[A6s h,A6s o,J3 h,J3 o,e]
 rintro(k | k | k | k | k | k | k)
 ·exact k rfl
 ·exact k rfl
 ·exact k rfl
 ·exact k rfl
 ·exact k rfl
 ·exact k rfl
 ·exact k (A36.2 ⟨o,e⟩)
theorem Bf7{f:Facts}(h:okF f=true):¬(¬(I6 (A6 f).1).2=0∨¬(I6 (A6 f).1).1.adds=0∨¬(I6 (A6 f).1).1.recs=0):=by
 have o:=A6o (Z9 h)
 have e:=Al0 (Z9 h)
 rw[A6s h,B5y o,e]
 rintro(k | k | k)
 ·exact k rfl
 ·exact k (Int.sub_self _)
 ·exact k (Int.sub_self _)
theorem Bf8{f g:Facts}(hf:okF f=true)(hg:okF g=true)(h:¬ A40 f.adds g.adds=true):(B1 f g).2=0∧(B1 (A6 f).1 g).2=0∧(A7 (B1 f g).1).2=0∧(A7 (B1 (A6 f).1 g).1).2=0∧(A7 (B1 f g).1).1=(A7 (B1 (A6 f).1 g).1).1:=by
 have a:agF f g:=⟨hf,hg,Classical.not_not.1 fun k=>h (Br9.2 k)⟩
 have b:=Bf3 a
 rw[A6s hf,(A6n a).1,(A6n b).1,J3 (A6n a).2.1,J3 (A6n b).2.1,st_prn a]
 exact⟨rfl,rfl,rfl,rfl,rfl⟩
theorem con3(x:KCase)(hf:szB 1 x.f)(hg:szB 1 x.g)(hs:szB 1 x.s)(kf:szL x.f)(kg:szL x.g)(ks:szL x.s):Con Tryz.prog 3 [.agg (c34 x)] (.b true) :=
 by
 have nn:∀ {p:Prop},¬¬p→p:=Classical.not_not.1
 have yg:¬(¬okF x.g=true∨A40 x.f.adds x.g.adds=true)→okF x.g=true:=fun h=>nn fun k=>h (.inl k)
 have yc:¬(¬okF x.g=true∨A40 x.f.adds x.g.adds=true)→¬ A40 x.f.adds x.g.adds=true:=fun h k=>h (.inr k)
 have X:=Bs2 (I3 hs (m:=7) (by decide))
 have f7:=I3 hf (m:=7) (by decide)
 have P:=B64 hf
 have P7:=B64 f7
 have C:=Bs1
 have J:=I3 (Az5 hf hg) (m:=7) (by decide)
 have JP:=I3 (Az5 P hg) (m:=7) (by decide)
 refine sC A9 [.tmp 2] 194 Tryz.func3 ?_
 intro e0 cx
 refine sq<|rG cx [1] [1] z0<|sn<|sq<|sq<|rG cx [1,21] [1] (fT (con8 ) (oA 0 (.b (true)) z0))<|sn<|A23 (by kernel_rfl) (by kernel_rfl)<|sK<|sn<|sq<|sq<|rG cx [1,24] [1] (fT (con9 (x.s) (by exact hs.1) (by(with_reducible assumption))) (oA 2 (.b (okS x.s)) z0)) ?_
 refine sn<|X5 (okS x.s) (by kernel_rfl) (by kernel_rfl) (fun h0=>?_) (fun h0=>?_)
 refine sq<|rG cx [1,3,4] [1,3] (fT (Bq9 (x.s) (by exact I3 hs (by decide))) (oA 2 (.tup [.agg [.sl (List.map c67 (D5 x.s).1.adds),.sl (List.map c3 (D5 x.s).1.gone.vec),.sl (List.map B5 (D5 x.s).1.gone.cloud),.sl (List.map c83 (D5 x.s).1.recs)],.i .i64 ((D5 x.s).2)]) z0)) ?_
 refine sn<|sq<|rG cx [1,3,4,5,6] [1,3,5] (fT (A3n ((D5 x.s).1) (by exact X)) (oA 1 (.tup [.agg [.sl (List.map c67 (A7 (D5 x.s).1).1.adds),.sl (List.map c3 (A7 (D5 x.s).1).1.gone.vec),.sl (List.map B5 (A7 (D5 x.s).1).1.gone.cloud),.sl (List.map c83 (A7 (D5 x.s).1).1.recs)],.i .i64 ((A7 (D5 x.s).1).2)]) z0)) ?_
 refine sn<|sq<|B3 (σ':=⟨[(1,.ptr (1) (0) (0) (0)),(55,.b (decide (¬(D5 x.s).2=0∨¬(A7 (D5 x.s).1).2=0∨¬(A7 (D5 x.s).1).1=x.s∨¬M1 (D5 x.s).1 x.s=true)))],[(1,⟨0,34,.var [.sl (List.map c67 x.f.adds),.sl (List.map c3 x.f.gone.vec),.sl (List.map B5 x.f.gone.cloud),.sl (List.map c83 x.f.recs),.sl (List.map c67 x.g.adds),.sl (List.map c3 x.g.gone.vec),.sl (List.map B5 x.g.gone.cloud),.sl (List.map c83 x.g.recs),.sl (List.map c67 x.h.adds),.sl (List.map c3 x.h.gone.vec),.sl (List.map B5 x.h.gone.cloud),.sl (List.map c83 x.h.recs),.sl (List.map c67 x.s.adds),.sl (List.map c3 x.s.gone.vec),.sl (List.map B5 x.s.gone.cloud),.sl (List.map c83 x.s.recs),.sl (List.map c65 x.dots),.s (x.sku)]⟩)]⟩) ?_ ?_
 refine A4 (¬(D5 x.s).2=0) (fun h2=>?_) (fun h2=>?_)
 refine rG cx [1,55] [1] (tT 1 (D1 h2:AV.b ((D5 x.s).2 !=0)=AV.b true) (tD 19 true (¬(D5 x.s).2=0∨¬(A7 (D5 x.s).1).2=0∨¬(A7 (D5 x.s).1).1=x.s∨¬M1 (D5 x.s).1 x.s=true) (by simp only [eq_false h2,tsl]) z0)) ?_
 exact⟨rfl,by kernel_rfl⟩
 refine A4 (¬(A7 (D5 x.s).1).2=0) (fun h3=>?_) (fun h3=>?_)
 refine rG cx [1,55] [1] (tN 1 ((D5 x.s).2) (0:Int) (tT 2 (A0 h2) (tT 4 (D1 h3:AV.b ((A7 (D5 x.s).1).2 !=0)=AV.b true) (tT 19 (by first | (simp only [eq_false h2,eq_false h3,tsl];done) | simp_all:AV.b true=AV.b (decide (¬(D5 x.s).2=0∨¬(A7 (D5 x.s).1).2=0∨¬(A7 (D5 x.s).1).1=x.s∨¬M1 (D5 x.s).1 x.s=true))) z0)))) ?_
 exact⟨rfl,by kernel_rfl⟩
 refine A4 (¬(A7 (D5 x.s).1).1=x.s) (fun h4=>?_) (fun h4=>?_)
 refine rg (A:=(AV.b ((D5 x.s).2 !=0)=AV.b (decide ¬(D5 x.s).2=0))∧_∧(AV.b ((A7 (D5 x.s).1).2 !=0)=AV.b (decide ¬(A7 (D5 x.s).1).2=0))∧_∧_∧_∧(AV.b true=AV.b (decide (¬(D5 x.s).2=0∨¬(A7 (D5 x.s).1).2=0∨¬(A7 (D5 x.s).1).1=x.s∨¬M1 (D5 x.s).1 x.s=true)))) cx [(1,{ tell:=some (.b (decide ¬(D5 x.s).2=0)) }),(2,{ tell:=some (.b (false)) }),(4,{ tell:=some (.b (decide ¬(A7 (D5 x.s).1).2=0)) }),(5,{ tell:=some (.b (false)) }),(10,{ val:=some (.b (decide ((A7 (D5 x.s).1).1=x.s))),tell:=some (.b (false)) }),(19,{ tell:=some (.b (decide (¬(D5 x.s).2=0∨¬(A7 (D5 x.s).1).2=0∨¬(A7 (D5 x.s).1).1=x.s∨¬M1 (D5 x.s).1 x.s=true))) })] [1,55] [1] ⟨(E9),(A0 h2),(E9),(A0 h3),(A0 h4),(Ac2 ((A7 (D5 x.s).1).1) (x.s) (by exact C _) (by exact M2 (A1f X) (by decide))),(by first | (simp only [eq_false h2,eq_false h3,eq_false h4,tsl];done) | simp_all)⟩ ?_
 exact⟨rfl,by kernel_rfl⟩
 refine rG cx [1,55] [1] (tN 1 ((D5 x.s).2) (0:Int) (tT 2 (A0 h2) (tN 4 ((A7 (D5 x.s).1).2) (0:Int) (tT 5 (A0 h3) (fT (Ac2 ((A7 (D5 x.s).1).1) (x.s) (by exact C _) (by exact M2 (A1f X) (by decide))) (tQ 11 ((A7 (D5 x.s).1).1=x.s) (tT 12 (A0 h4) (fT (B9v ((D5 x.s).1) (x.s) (by exact X) (by exact I3 hs (by decide))) (tT 18 (C9:(AV.b !M1 (D5 x.s).1 x.s)=AV.b (decide ¬M1 (D5 x.s).1 x.s=true)) (tT 19 (by first | (simp only [eq_false h2,eq_false h3,eq_false h4,tsl];done) | simp_all:AV.b (decide ¬M1 (D5 x.s).1 x.s=true)=AV.b (decide (¬(D5 x.s).2=0∨¬(A7 (D5 x.s).1).2=0∨¬(A7 (D5 x.s).1).1=x.s∨¬M1 (D5 x.s).1 x.s=true))) (oA 10 (.b (decide ((A7 (D5 x.s).1).1=x.s))) (oA 17 (.b (M1 (D5 x.s).1 x.s)) z0)))))))))))) ?_
 exact⟨rfl,by kernel_rfl⟩
 refine sn<|dC (¬(D5 x.s).2=0∨¬(A7 (D5 x.s).1).2=0∨¬(A7 (D5 x.s).1).1=x.s∨¬M1 (D5 x.s).1 x.s=true) (fun h5=>?_) fun h5=>?_
 refine sq<|rG cx [2] [] z0<|sn<|rT<|nR<|qR (.b (false)) (.eq (by exact absurd h5 (back_S h0)))
 refine sK<|sn<|sq<|sq<|rG cx [1,59] [1] (fT (B1m (x.f) (by exact hf.1)) (tT 3 (C9:(AV.b !okF x.f)=AV.b (decide ¬okF x.f=true)) (oA 2 (.b (okF x.f)) z0))) ?_
 refine sn<|dC (¬okF x.f=true) (fun h6=>?_) fun h6=>?_
 refine sq<|rG cx [8] [] (fT (B1i (x.f) (by exact f7)) (oA 2 (.tup [.agg [.sl (List.map c67 (A6 x.f).1.adds),.sl (List.map c3 (A6 x.f).1.gone.vec),.sl (List.map B5 (A6 x.f).1.gone.cloud),.sl (List.map c83 (A6 x.f).1.recs)],.i .i64 ((A6 x.f).2)]) z0)) ?_
 refine sn<|sq<|rG cx [2] [] (tB 1 ((A6 x.f).2=1) z0)<|sn<|rT<|nR<|qR (.b (decide ((A6 x.f).2=1))) (.eq (by rw[A3z h6];rfl))
 refine sK<|sn<|sq<|rG cx [1,9,10] [1,9] (fT (B1i (x.f) (by exact f7)) (oA 2 (.tup [.agg [.sl (List.map c67 (A6 x.f).1.adds),.sl (List.map c3 (A6 x.f).1.gone.vec),.sl (List.map B5 (A6 x.f).1.gone.cloud),.sl (List.map c83 (A6 x.f).1.recs)],.i .i64 ((A6 x.f).2)]) z0)) ?_
 refine sn<|sq<|rG cx [1,9,10,11,12] [1,9,11] (fT (B1i ((A6 x.f).1) (by exact P7)) (oA 1 (.tup [.agg [.sl (List.map c67 (A6 (A6 x.f).1).1.adds),.sl (List.map c3 (A6 (A6 x.f).1).1.gone.vec),.sl (List.map B5 (A6 (A6 x.f).1).1.gone.cloud),.sl (List.map c83 (A6 (A6 x.f).1).1.recs)],.i .i64 ((A6 (A6 x.f).1).2)]) z0)) ?_
 refine sn<|sq<|rG cx [1,9,10,11,12,13,14] [1,9,11,13] (fT (A3n (x.f) (by exact f7)) (oA 2 (.tup [.agg [.sl (List.map c67 (A7 x.f).1.adds),.sl (List.map c3 (A7 x.f).1.gone.vec),.sl (List.map B5 (A7 x.f).1.gone.cloud),.sl (List.map c83 (A7 x.f).1.recs)],.i .i64 ((A7 x.f).2)]) z0)) ?_
 refine sn<|sq<|rG cx ([1]++List.range' 9 8) [1,9,11,13,15] (fT (A3n ((A6 x.f).1) (by exact P7)) (oA 1 (.tup [.agg [.sl (List.map c67 (A7 (A6 x.f).1).1.adds),.sl (List.map c3 (A7 (A6 x.f).1).1.gone.vec),.sl (List.map B5 (A7 (A6 x.f).1).1.gone.cloud),.sl (List.map c83 (A7 (A6 x.f).1).1.recs)],.i .i64 ((A7 (A6 x.f).1).2)]) z0)) ?_
 refine sn<|sq<|sq<|B3 (σ':=⟨[(1,.ptr (1) (0) (0) (0)),(9,.ptr (9) (0) (0) (0)),(13,.ptr (13) (0) (0) (0)),(15,.ptr (15) (0) (0) (0)),(121,.b (decide (¬(A6 x.f).2=0∨¬(A6 (A6 x.f).1).2=0∨¬(A7 x.f).2=0∨¬(A7 (A6 x.f).1).2=0∨¬(A6 x.f).1=(A6 (A6 x.f).1).1∨¬(A7 x.f).1=(A7 (A6 x.f).1).1∨¬M1 (A6 x.f).1 (A7 x.f).1=true)))],[(1,⟨0,34,.var [.sl (List.map c67 x.f.adds),.sl (List.map c3 x.f.gone.vec),.sl (List.map B5 x.f.gone.cloud),.sl (List.map c83 x.f.recs),.sl (List.map c67 x.g.adds),.sl (List.map c3 x.g.gone.vec),.sl (List.map B5 x.g.gone.cloud),.sl (List.map c83 x.g.recs),.sl (List.map c67 x.h.adds),.sl (List.map c3 x.h.gone.vec),.sl (List.map B5 x.h.gone.cloud),.sl (List.map c83 x.h.recs),.sl (List.map c67 x.s.adds),.sl (List.map c3 x.s.gone.vec),.sl (List.map B5 x.s.gone.cloud),.sl (List.map c83 x.s.recs),.sl (List.map c65 x.dots),.s (x.sku)]⟩),(9,⟨0,29,.var [.sl (List.map c67 (A6 x.f).1.adds),.sl (List.map c3 (A6 x.f).1.gone.vec),.sl (List.map B5 (A6 x.f).1.gone.cloud),.sl (List.map c83 (A6 x.f).1.recs)]⟩),(13,⟨0,31,.var [.sl (List.map c67 (A7 x.f).1.adds),.sl (List.map c3 (A7 x.f).1.gone.vec),.sl (List.map B5 (A7 x.f).1.gone.cloud),.sl (List.map c83 (A7 x.f).1.recs)]⟩),(15,⟨0,31,.var [.sl (List.map c67 (A7 (A6 x.f).1).1.adds),.sl (List.map c3 (A7 (A6 x.f).1).1.gone.vec),.sl (List.map B5 (A7 (A6 x.f).1).1.gone.cloud),.sl (List.map c83 (A7 (A6 x.f).1).1.recs)]⟩)]⟩) ?_ ?_
 refine A4 (¬(A6 x.f).2=0) (fun h8=>?_) (fun h8=>?_)
 refine rG cx [1,9,13,15,121] [1,9,13,15] (tT 1 (D1 h8:AV.b ((A6 x.f).2 !=0)=AV.b true) (tD 31 true (¬(A6 x.f).2=0∨¬(A6 (A6 x.f).1).2=0∨¬(A7 x.f).2=0∨¬(A7 (A6 x.f).1).2=0∨¬(A6 x.f).1=(A6 (A6 x.f).1).1∨¬(A7 x.f).1=(A7 (A6 x.f).1).1∨¬M1 (A6 x.f).1 (A7 x.f).1=true) (by simp only [eq_false h8,tsl]) z0)) ?_
 exact⟨rfl,by kernel_rfl⟩
 refine A4 (¬(A6 (A6 x.f).1).2=0) (fun h9=>?_) (fun h9=>?_)
 refine rG cx [1,9,13,15,121] [1,9,13,15] (tN 1 ((A6 x.f).2) (0:Int) (tT 2 (A0 h8) (tT 4 (D1 h9:AV.b ((A6 (A6 x.f).1).2 !=0)=AV.b true) (tT 31 (by first | (simp only [eq_false h8,eq_false h9,tsl];done) | simp_all:AV.b true=AV.b (decide (¬(A6 x.f).2=0∨¬(A6 (A6 x.f).1).2=0∨¬(A7 x.f).2=0∨¬(A7 (A6 x.f).1).2=0∨¬(A6 x.f).1=(A6 (A6 x.f).1).1∨¬(A7 x.f).1=(A7 (A6 x.f).1).1∨¬M1 (A6 x.f).1 (A7 x.f).1=true))) z0)))) ?_
 exact⟨rfl,by kernel_rfl⟩
 refine A4 (¬(A7 x.f).2=0) (fun h10=>?_) (fun h10=>?_)
 refine rG cx [1,9,13,15,121] [1,9,13,15] (tN 1 ((A6 x.f).2) (0:Int) (tT 2 (A0 h8) (tN 4 ((A6 (A6 x.f).1).2) (0:Int) (tT 5 (A0 h9) (tT 8 (D1 h10:AV.b ((A7 x.f).2 !=0)=AV.b true) (tT 31 (by first | (simp only [eq_false h8,eq_false h9,eq_false h10,tsl];done) | simp_all:AV.b true=AV.b (decide (¬(A6 x.f).2=0∨¬(A6 (A6 x.f).1).2=0∨¬(A7 x.f).2=0∨¬(A7 (A6 x.f).1).2=0∨¬(A6 x.f).1=(A6 (A6 x.f).1).1∨¬(A7 x.f).1=(A7 (A6 x.f).1).1∨¬M1 (A6 x.f).1 (A7 x.f).1=true))) z0)))))) ?_
 exact⟨rfl,by kernel_rfl⟩
 refine A4 (¬(A7 (A6 x.f).1).2=0) (fun h11=>?_) (fun h11=>?_)
 refine rG cx [1,9,13,15,121] [1,9,13,15] (tN 1 ((A6 x.f).2) (0:Int) (tT 2 (A0 h8) (tN 4 ((A6 (A6 x.f).1).2) (0:Int) (tT 5 (A0 h9) (tN 8 ((A7 x.f).2) (0:Int) (tT 9 (A0 h10) (tT 12 (D1 h11:AV.b ((A7 (A6 x.f).1).2 !=0)=AV.b true) (tT 31 (by first | (simp only [eq_false h8,eq_false h9,eq_false h10,eq_false h11,tsl];done) | simp_all:AV.b true=AV.b (decide (¬(A6 x.f).2=0∨¬(A6 (A6 x.f).1).2=0∨¬(A7 x.f).2=0∨¬(A7 (A6 x.f).1).2=0∨¬(A6 x.f).1=(A6 (A6 x.f).1).1∨¬(A7 x.f).1=(A7 (A6 x.f).1).1∨¬M1 (A6 x.f).1 (A7 x.f).1=true))) z0)))))))) ?_
 exact⟨rfl,by kernel_rfl⟩
 refine A4 (¬(A6 x.f).1=(A6 (A6 x.f).1).1) (fun h12=>?_) (fun h12=>?_)
 refine rg (A:=(AV.b ((A6 x.f).2 !=0)=AV.b (decide ¬(A6 x.f).2=0))∧_∧(AV.b ((A6 (A6 x.f).1).2 !=0)=AV.b (decide ¬(A6 (A6 x.f).1).2=0))∧_∧(AV.b ((A7 x.f).2 !=0)=AV.b (decide ¬(A7 x.f).2=0))∧_∧(AV.b ((A7 (A6 x.f).1).2 !=0)=AV.b (decide ¬(A7 (A6 x.f).1).2=0))∧_∧_∧_∧(AV.b true=AV.b (decide (¬(A6 x.f).2=0∨¬(A6 (A6 x.f).1).2=0∨¬(A7 x.f).2=0∨¬(A7 (A6 x.f).1).2=0∨¬(A6 x.f).1=(A6 (A6 x.f).1).1∨¬(A7 x.f).1=(A7 (A6 x.f).1).1∨¬M1 (A6 x.f).1 (A7 x.f).1=true)))) cx [(1,{ tell:=some (.b (decide ¬(A6 x.f).2=0)) }),(2,{ tell:=some (.b (false)) }),(4,{ tell:=some (.b (decide ¬(A6 (A6 x.f).1).2=0)) }),(5,{ tell:=some (.b (false)) }),(8,{ tell:=some (.b (decide ¬(A7 x.f).2=0)) }),(9,{ tell:=some (.b (false)) }),(12,{ tell:=some (.b (decide ¬(A7 (A6 x.f).1).2=0)) }),(13,{ tell:=some (.b (false)) }),(17,{ val:=some (.b (decide ((A6 x.f).1=(A6 (A6 x.f).1).1))),tell:=some (.b (false)) }),(31,{ tell:=some (.b (decide (¬(A6 x.f).2=0∨¬(A6 (A6 x.f).1).2=0∨¬(A7 x.f).2=0∨¬(A7 (A6 x.f).1).2=0∨¬(A6 x.f).1=(A6 (A6 x.f).1).1∨¬(A7 x.f).1=(A7 (A6 x.f).1).1∨¬M1 (A6 x.f).1 (A7 x.f).1=true))) })] [1,9,13,15,121] [1,9,13,15] ⟨(E9),(A0 h8),(E9),(A0 h9),(E9),(A0 h10),(E9),(A0 h11),(A0 h12),(B1l ((A6 x.f).1) ((A6 (A6 x.f).1).1) (by exact P.1) (by exact M2 P7 (by decide))),(by first | (simp only [eq_false h8,eq_false h9,eq_false h10,eq_false h11,eq_false h12,tsl];done) | simp_all)⟩ ?_
 exact⟨rfl,by kernel_rfl⟩
 refine A4 (¬(A7 x.f).1=(A7 (A6 x.f).1).1) (fun h13=>?_) (fun h13=>?_)
 refine rg (A:=(AV.b ((A6 x.f).2 !=0)=AV.b (decide ¬(A6 x.f).2=0))∧_∧(AV.b ((A6 (A6 x.f).1).2 !=0)=AV.b (decide ¬(A6 (A6 x.f).1).2=0))∧_∧(AV.b ((A7 x.f).2 !=0)=AV.b (decide ¬(A7 x.f).2=0))∧_∧(AV.b ((A7 (A6 x.f).1).2 !=0)=AV.b (decide ¬(A7 (A6 x.f).1).2=0))∧_∧_∧((AV.b !decide ((A6 x.f).1=(A6 (A6 x.f).1).1))=AV.b (decide ¬(A6 x.f).1=(A6 (A6 x.f).1).1))∧_∧_∧_∧(AV.b true=AV.b (decide (¬(A6 x.f).2=0∨¬(A6 (A6 x.f).1).2=0∨¬(A7 x.f).2=0∨¬(A7 (A6 x.f).1).2=0∨¬(A6 x.f).1=(A6 (A6 x.f).1).1∨¬(A7 x.f).1=(A7 (A6 x.f).1).1∨¬M1 (A6 x.f).1 (A7 x.f).1=true)))) cx [(1,{ tell:=some (.b (decide ¬(A6 x.f).2=0)) }),(2,{ tell:=some (.b (false)) }),(4,{ tell:=some (.b (decide ¬(A6 (A6 x.f).1).2=0)) }),(5,{ tell:=some (.b (false)) }),(8,{ tell:=some (.b (decide ¬(A7 x.f).2=0)) }),(9,{ tell:=some (.b (false)) }),(12,{ tell:=some (.b (decide ¬(A7 (A6 x.f).1).2=0)) }),(13,{ tell:=some (.b (false)) }),(17,{ val:=some (.b (decide ((A6 x.f).1=(A6 (A6 x.f).1).1))) }),(18,{ tell:=some (.b (decide ¬(A6 x.f).1=(A6 (A6 x.f).1).1)) }),(19,{ tell:=some (.b (false)) }),(23,{ val:=some (.b (decide ((A7 x.f).1=(A7 (A6 x.f).1).1))),tell:=some (.b (false)) }),(31,{ tell:=some (.b (decide (¬(A6 x.f).2=0∨¬(A6 (A6 x.f).1).2=0∨¬(A7 x.f).2=0∨¬(A7 (A6 x.f).1).2=0∨¬(A6 x.f).1=(A6 (A6 x.f).1).1∨¬(A7 x.f).1=(A7 (A6 x.f).1).1∨¬M1 (A6 x.f).1 (A7 x.f).1=true))) })] [1,9,13,15,121] [1,9,13,15] ⟨(E9),(A0 h8),(E9),(A0 h9),(E9),(A0 h10),(E9),(A0 h11),(B1l ((A6 x.f).1) ((A6 (A6 x.f).1).1) (by exact P.1) (by exact M2 P7 (by decide))),(A1z),(A0 h12),(A0 h13),(Ac2 ((A7 x.f).1) ((A7 (A6 x.f).1).1) (by exact C _) (by exact M2 (A1f f7) (by decide))),(by first | (simp only [eq_false h8,eq_false h9,eq_false h10,eq_false h11,eq_false h12,eq_false h13,tsl];done) | simp_all)⟩ ?_
 exact⟨rfl,by kernel_rfl⟩
 refine rG cx [1,9,13,15,121] [1,9,13,15] (tN 1 ((A6 x.f).2) (0:Int) (tT 2 (A0 h8) (tN 4 ((A6 (A6 x.f).1).2) (0:Int) (tT 5 (A0 h9) (tN 8 ((A7 x.f).2) (0:Int) (tT 9 (A0 h10) (tN 12 ((A7 (A6 x.f).1).2) (0:Int) (tT 13 (A0 h11) (fT (B1l ((A6 x.f).1) ((A6 (A6 x.f).1).1) (by exact P.1) (by exact M2 P7 (by decide))) (tQ 18 ((A6 x.f).1=(A6 (A6 x.f).1).1) (tT 19 (A0 h12) (fT (Ac2 ((A7 x.f).1) ((A7 (A6 x.f).1).1) (by exact C _) (by exact M2 (A1f f7) (by decide))) (tQ 24 ((A7 x.f).1=(A7 (A6 x.f).1).1) (tT 25 (A0 h13) (fT (B9v ((A6 x.f).1) ((A7 x.f).1) (by exact P7) (by exact A1f f7)) (tT 30 (C9:(AV.b !M1 (A6 x.f).1 (A7 x.f).1)=AV.b (decide ¬M1 (A6 x.f).1 (A7 x.f).1=true)) (tT 31 (by first | (simp only [eq_false h8,eq_false h9,eq_false h10,eq_false h11,eq_false h12,eq_false h13,tsl];done) | simp_all:AV.b (decide ¬M1 (A6 x.f).1 (A7 x.f).1=true)=AV.b (decide (¬(A6 x.f).2=0∨¬(A6 (A6 x.f).1).2=0∨¬(A7 x.f).2=0∨¬(A7 (A6 x.f).1).2=0∨¬(A6 x.f).1=(A6 (A6 x.f).1).1∨¬(A7 x.f).1=(A7 (A6 x.f).1).1∨¬M1 (A6 x.f).1 (A7 x.f).1=true))) (oA 17 (.b (decide ((A6 x.f).1=(A6 (A6 x.f).1).1))) (oA 23 (.b (decide ((A7 x.f).1=(A7 (A6 x.f).1).1))) (oA 29 (.b (M1 (A6 x.f).1 (A7 x.f).1)) z0)))))))))))))))))))) ?_
 exact⟨rfl,by kernel_rfl⟩
 refine sn<|dC (¬(A6 x.f).2=0∨¬(A6 (A6 x.f).1).2=0∨¬(A7 x.f).2=0∨¬(A7 (A6 x.f).1).2=0∨¬(A6 x.f).1=(A6 (A6 x.f).1).1∨¬(A7 x.f).1=(A7 (A6 x.f).1).1∨¬M1 (A6 x.f).1 (A7 x.f).1=true) (fun h14=>?_) fun h14=>?_
 refine sq<|rG cx [2] [] z0<|sn<|rT<|nR<|qR (.b (false)) (.eq (by exact absurd h14 (Bf6 (nn h6))))
 refine sK<|sn<|sq<|rG cx [1,9,13,15,17,10] [1,9,13,15,17] (fT (con17 ((A6 x.f).1) (by exact P7)) (oA 1 (.tup [.agg [.i .i64 ((I6 (A6 x.f).1).1.adds),.i .i64 ((I6 (A6 x.f).1).1.gone),.i .i64 ((I6 (A6 x.f).1).1.recs)],.i .i64 ((I6 (A6 x.f).1).2)]) z0)) ?_
 refine sn<|sq<|sq<|B3 (σ':=⟨[(1,.ptr (1) (0) (0) (0)),(9,.ptr (9) (0) (0) (0)),(13,.ptr (13) (0) (0) (0)),(15,.ptr (15) (0) (0) (0)),(138,.b (decide (¬(I6 (A6 x.f).1).2=0∨¬(I6 (A6 x.f).1).1.adds=0∨¬(I6 (A6 x.f).1).1.recs=0)))],[(1,⟨0,34,.var [.sl (List.map c67 x.f.adds),.sl (List.map c3 x.f.gone.vec),.sl (List.map B5 x.f.gone.cloud),.sl (List.map c83 x.f.recs),.sl (List.map c67 x.g.adds),.sl (List.map c3 x.g.gone.vec),.sl (List.map B5 x.g.gone.cloud),.sl (List.map c83 x.g.recs),.sl (List.map c67 x.h.adds),.sl (List.map c3 x.h.gone.vec),.sl (List.map B5 x.h.gone.cloud),.sl (List.map c83 x.h.recs),.sl (List.map c67 x.s.adds),.sl (List.map c3 x.s.gone.vec),.sl (List.map B5 x.s.gone.cloud),.sl (List.map c83 x.s.recs),.sl (List.map c65 x.dots),.s (x.sku)]⟩),(9,⟨0,29,.var [.sl (List.map c67 (A6 x.f).1.adds),.sl (List.map c3 (A6 x.f).1.gone.vec),.sl (List.map B5 (A6 x.f).1.gone.cloud),.sl (List.map c83 (A6 x.f).1.recs)]⟩),(13,⟨0,31,.var [.sl (List.map c67 (A7 x.f).1.adds),.sl (List.map c3 (A7 x.f).1.gone.vec),.sl (List.map B5 (A7 x.f).1.gone.cloud),.sl (List.map c83 (A7 x.f).1.recs)]⟩),(15,⟨0,31,.var [.sl (List.map c67 (A7 (A6 x.f).1).1.adds),.sl (List.map c3 (A7 (A6 x.f).1).1.gone.vec),.sl (List.map B5 (A7 (A6 x.f).1).1.gone.cloud),.sl (List.map c83 (A7 (A6 x.f).1).1.recs)]⟩)]⟩) ?_ ?_
 refine A4 (¬(I6 (A6 x.f).1).2=0) (fun h_16=>?_) (fun h_16=>?_)
 refine rG cx [1,9,13,15,138] [1,9,13,15] (tT 1 (D1 h_16:AV.b ((I6 (A6 x.f).1).2 !=0)=AV.b true) (tD 11 true (¬(I6 (A6 x.f).1).2=0∨¬(I6 (A6 x.f).1).1.adds=0∨¬(I6 (A6 x.f).1).1.recs=0) (by simp only [eq_false h_16,tsl]) z0)) ?_
 exact⟨rfl,by kernel_rfl⟩
 refine A4 (¬(I6 (A6 x.f).1).1.adds=0) (fun h_17=>?_) (fun h_17=>?_)
 refine rG cx [1,9,13,15,138] [1,9,13,15] (tN 1 ((I6 (A6 x.f).1).2) (0:Int) (tT 2 (A0 h_16) (tT 5 (D1 h_17:AV.b ((I6 (A6 x.f).1).1.adds !=0)=AV.b true) (tT 11 (by first | (simp only [eq_false h_16,eq_false h_17,tsl];done) | simp_all:AV.b true=AV.b (decide (¬(I6 (A6 x.f).1).2=0∨¬(I6 (A6 x.f).1).1.adds=0∨¬(I6 (A6 x.f).1).1.recs=0))) z0)))) ?_
 exact⟨rfl,by kernel_rfl⟩
 refine rG cx [1,9,13,15,138] [1,9,13,15] (tN 1 ((I6 (A6 x.f).1).2) (0:Int) (tT 2 (A0 h_16) (tN 5 ((I6 (A6 x.f).1).1.adds) (0:Int) (tT 6 (A0 h_17) (tN 10 ((I6 (A6 x.f).1).1.recs) (0:Int) (tT 11 (by first | (simp only [eq_false h_16,eq_false h_17,tsl];done) | simp_all:AV.b (decide ¬(I6 (A6 x.f).1).1.recs=0)=AV.b (decide (¬(I6 (A6 x.f).1).2=0∨¬(I6 (A6 x.f).1).1.adds=0∨¬(I6 (A6 x.f).1).1.recs=0))) z0)))))) ?_
 exact⟨rfl,by kernel_rfl⟩
 refine sn<|dC (¬(I6 (A6 x.f).1).2=0∨¬(I6 (A6 x.f).1).1.adds=0∨¬(I6 (A6 x.f).1).1.recs=0) (fun h18=>?_) fun h18=>?_
 refine sq<|rG cx [2] [] z0<|sn<|rT<|nR<|qR (.b (false)) (.eq (by exact absurd h18 (Bf7 (nn h6))))
 refine sK<|sn<|sq<|sq<|B3 (σ':=⟨[(1,.ptr (1) (0) (0) (0)),(9,.ptr (9) (0) (0) (0)),(13,.ptr (13) (0) (0) (0)),(15,.ptr (15) (0) (0) (0)),(149,.b (decide (¬okF x.g=true∨A40 x.f.adds x.g.adds=true)))],[(1,⟨0,34,.var [.sl (List.map c67 x.f.adds),.sl (List.map c3 x.f.gone.vec),.sl (List.map B5 x.f.gone.cloud),.sl (List.map c83 x.f.recs),.sl (List.map c67 x.g.adds),.sl (List.map c3 x.g.gone.vec),.sl (List.map B5 x.g.gone.cloud),.sl (List.map c83 x.g.recs),.sl (List.map c67 x.h.adds),.sl (List.map c3 x.h.gone.vec),.sl (List.map B5 x.h.gone.cloud),.sl (List.map c83 x.h.recs),.sl (List.map c67 x.s.adds),.sl (List.map c3 x.s.gone.vec),.sl (List.map B5 x.s.gone.cloud),.sl (List.map c83 x.s.recs),.sl (List.map c65 x.dots),.s (x.sku)]⟩),(9,⟨0,29,.var [.sl (List.map c67 (A6 x.f).1.adds),.sl (List.map c3 (A6 x.f).1.gone.vec),.sl (List.map B5 (A6 x.f).1.gone.cloud),.sl (List.map c83 (A6 x.f).1.recs)]⟩),(13,⟨0,31,.var [.sl (List.map c67 (A7 x.f).1.adds),.sl (List.map c3 (A7 x.f).1.gone.vec),.sl (List.map B5 (A7 x.f).1.gone.cloud),.sl (List.map c83 (A7 x.f).1.recs)]⟩),(15,⟨0,31,.var [.sl (List.map c67 (A7 (A6 x.f).1).1.adds),.sl (List.map c3 (A7 (A6 x.f).1).1.gone.vec),.sl (List.map B5 (A7 (A6 x.f).1).1.gone.cloud),.sl (List.map c83 (A7 (A6 x.f).1).1.recs)]⟩)]⟩) ?_ ?_
 refine A4 (¬okF x.g=true) (fun h20=>?_) (fun h20=>?_)
 refine rg (A:=(AV.b (okF x.g)=AV.b false)∧_∧(AV.b true=AV.b (decide (¬okF x.g=true∨A40 x.f.adds x.g.adds=true)))) cx [(2,{ val:=some (.b (okF x.g)),tell:=some (.b (false)) }),(10,{ tell:=some (.b (decide (¬okF x.g=true∨A40 x.f.adds x.g.adds=true))) })] [1,9,13,15,149] [1,9,13,15] ⟨(S6 h20),(B1m (x.g) (by exact hg.1)),(by simp only [eq_false h20,tsl])⟩ ?_
 exact⟨rfl,by kernel_rfl⟩
 refine rG cx [1,9,13,15,149] [1,9,13,15] (fT (B1m (x.g) (by exact hg.1)) (tT 3 (C9:(AV.b !okF x.g)=AV.b (decide ¬okF x.g=true)) (tT 4 (A0 h20) (fT (con18 (x.f) (x.g) (by exact nn h6) (by exact nn h20)) (tT 10 (by first | (simp only [eq_false h20,tsl];done) | simp_all:AV.b (A40 x.f.adds x.g.adds)=AV.b (decide (¬okF x.g=true∨A40 x.f.adds x.g.adds=true))) (oA 2 (.b (okF x.g)) (oA 9 (.b (A40 x.f.adds x.g.adds)) z0))))))) ?_
 exact⟨rfl,by kernel_rfl⟩
 refine sn<|dC (¬okF x.g=true∨A40 x.f.adds x.g.adds=true) (fun h21=>?_) fun h21=>?_
 refine sq<|rG cx [2] [] z0<|sn<|rT<|nR ?_
 exact A43 (r:=.b (true)) (obl:=[]) (by kernel_rfl) trivial (B9.refl _)
 refine sK<|sn<|sq<|rG cx [1,9,13,15,18,10] [1,9,13,15,18] (fT (B9r (x.f) (x.g) (by exact I3 hf (by decide)) (by exact I3 hg (by decide))) (oA 4 (.tup [.agg [.sl (List.map c67 (B1 x.f x.g).1.adds),.sl (List.map c3 (B1 x.f x.g).1.gone.vec),.sl (List.map B5 (B1 x.f x.g).1.gone.cloud),.sl (List.map c83 (B1 x.f x.g).1.recs)],.i .i64 ((B1 x.f x.g).2)]) z0)) ?_
 refine sn<|sq<|rG cx [13,15,18,10,19,12] [13,15,18,19] (fT (B9r ((A6 x.f).1) (x.g) (by exact I3 P (by decide)) (by exact I3 hg (by decide))) (oA 3 (.tup [.agg [.sl (List.map c67 (B1 (A6 x.f).1 x.g).1.adds),.sl (List.map c3 (B1 (A6 x.f).1 x.g).1.gone.vec),.sl (List.map B5 (B1 (A6 x.f).1 x.g).1.gone.cloud),.sl (List.map c83 (B1 (A6 x.f).1 x.g).1.recs)],.i .i64 ((B1 (A6 x.f).1 x.g).2)]) z0)) ?_
 refine sn<|sq<|rG cx [13,15,10,19,12,14] [13,15,19] (fT (A3n ((B1 x.f x.g).1) (by exact J)) (oA 1 (.tup [.agg [.sl (List.map c67 (A7 (B1 x.f x.g).1).1.adds),.sl (List.map c3 (A7 (B1 x.f x.g).1).1.gone.vec),.sl (List.map B5 (A7 (B1 x.f x.g).1).1.gone.cloud),.sl (List.map c83 (A7 (B1 x.f x.g).1).1.recs)],.i .i64 ((A7 (B1 x.f x.g).1).2)]) z0)) ?_
 refine sn<|sq<|rG cx [13,15,10,12,14,16] [13,15] (fT (A3n ((B1 (A6 x.f).1 x.g).1) (by exact JP)) (oA 1 (.tup [.agg [.sl (List.map c67 (A7 (B1 (A6 x.f).1 x.g).1).1.adds),.sl (List.map c3 (A7 (B1 (A6 x.f).1 x.g).1).1.gone.vec),.sl (List.map B5 (A7 (B1 (A6 x.f).1 x.g).1).1.gone.cloud),.sl (List.map c83 (A7 (B1 (A6 x.f).1 x.g).1).1.recs)],.i .i64 ((A7 (B1 (A6 x.f).1 x.g).1).2)]) z0)) ?_
 refine sn<|sq<|B3 (σ':=⟨[(2,.b (decide ((B1 x.f x.g).2=0∧(B1 (A6 x.f).1 x.g).2=0∧(A7 (B1 x.f x.g).1).2=0∧(A7 (B1 (A6 x.f).1 x.g).1).2=0∧(A7 (B1 x.f x.g).1).1=(A7 (B1 (A6 x.f).1 x.g).1).1)))],[]⟩) ?_ ?_
 refine A4 ((B1 x.f x.g).2=0) (fun h23=>?_) (fun h23=>?_)
 refine A4 ((B1 (A6 x.f).1 x.g).2=0) (fun h24=>?_) (fun h24=>?_)
 refine A4 ((A7 (B1 x.f x.g).1).2=0) (fun h25=>?_) (fun h25=>?_)
 refine A4 ((A7 (B1 (A6 x.f).1 x.g).1).2=0) (fun h26=>?_) (fun h26=>?_)
 refine rG cx [2] [] (tT 1 (A3 h23) (tT 4 (A3 h24) (tT 8 (A3 h25) (tT 12 (A3 h26) (fT (Ac2 ((A7 (B1 x.f x.g).1).1) ((A7 (B1 (A6 x.f).1 x.g).1).1) (by exact C _) (by exact M2 (A1f J) (by decide))) (tD 19 (decide ((A7 (B1 x.f x.g).1).1=(A7 (B1 (A6 x.f).1 x.g).1).1)) ((B1 x.f x.g).2=0∧(B1 (A6 x.f).1 x.g).2=0∧(A7 (B1 x.f x.g).1).2=0∧(A7 (B1 (A6 x.f).1 x.g).1).2=0∧(A7 (B1 x.f x.g).1).1=(A7 (B1 (A6 x.f).1 x.g).1).1) (by simp only [eq_true h23,eq_true h24,eq_true h25,eq_true h26,tsl]) (oA 17 (.b (decide ((A7 (B1 x.f x.g).1).1=(A7 (B1 (A6 x.f).1 x.g).1).1))) z0))))))) ?_
 exact⟨rfl,by kernel_rfl⟩
 refine rG cx [2] [] (tT 1 (A3 h23) (tT 4 (A3 h24) (tT 8 (A3 h25) (tT 12 (A0 h26) (tD 19 false ((B1 x.f x.g).2=0∧(B1 (A6 x.f).1 x.g).2=0∧(A7 (B1 x.f x.g).1).2=0∧(A7 (B1 (A6 x.f).1 x.g).1).2=0∧(A7 (B1 x.f x.g).1).1=(A7 (B1 (A6 x.f).1 x.g).1).1) (by simp only [eq_true h23,eq_true h24,eq_true h25,eq_false h26,tsl]) z0))))) ?_
 exact⟨rfl,by kernel_rfl⟩
 refine rG cx [2] [] (tT 1 (A3 h23) (tT 4 (A3 h24) (tT 8 (A0 h25) (tD 19 false ((B1 x.f x.g).2=0∧(B1 (A6 x.f).1 x.g).2=0∧(A7 (B1 x.f x.g).1).2=0∧(A7 (B1 (A6 x.f).1 x.g).1).2=0∧(A7 (B1 x.f x.g).1).1=(A7 (B1 (A6 x.f).1 x.g).1).1) (by simp only [eq_true h23,eq_true h24,eq_false h25,tsl]) z0)))) ?_
 exact⟨rfl,by kernel_rfl⟩
 refine rG cx [2] [] (tT 1 (A3 h23) (tT 4 (A0 h24) (tD 19 false ((B1 x.f x.g).2=0∧(B1 (A6 x.f).1 x.g).2=0∧(A7 (B1 x.f x.g).1).2=0∧(A7 (B1 (A6 x.f).1 x.g).1).2=0∧(A7 (B1 x.f x.g).1).1=(A7 (B1 (A6 x.f).1 x.g).1).1) (by simp only [eq_true h23,eq_false h24,tsl]) z0))) ?_
 exact⟨rfl,by kernel_rfl⟩
 refine rG cx [2] [] (tT 1 (A0 h23) (tD 19 false ((B1 x.f x.g).2=0∧(B1 (A6 x.f).1 x.g).2=0∧(A7 (B1 x.f x.g).1).2=0∧(A7 (B1 (A6 x.f).1 x.g).1).2=0∧(A7 (B1 x.f x.g).1).1=(A7 (B1 (A6 x.f).1 x.g).1).1) (by simp only [eq_false h23,tsl]) z0)) ?_
 exact⟨rfl,by kernel_rfl⟩
 refine sn<|rT<|qR (.b (decide ((B1 x.f x.g).2=0∧(B1 (A6 x.f).1 x.g).2=0∧(A7 (B1 x.f x.g).1).2=0∧(A7 (B1 (A6 x.f).1 x.g).1).2=0∧(A7 (B1 x.f x.g).1).1=(A7 (B1 (A6 x.f).1 x.g).1).1))) (.eq (by exact congrArg AV.b (decide_eq_true (Bf8 (nn h6) (yg h21) (yc h21)))))
 refine sK<|sn<|sq<|sq<|rG cx [1,59] [1] (fT (B1m (x.f) (by exact hf.1)) (tT 3 (C9:(AV.b !okF x.f)=AV.b (decide ¬okF x.f=true)) (oA 2 (.b (okF x.f)) z0))) ?_
 refine sn<|dC (¬okF x.f=true) (fun h27=>?_) fun h27=>?_
 refine sq<|rG cx [8] [] (fT (B1i (x.f) (by exact f7)) (oA 2 (.tup [.agg [.sl (List.map c67 (A6 x.f).1.adds),.sl (List.map c3 (A6 x.f).1.gone.vec),.sl (List.map B5 (A6 x.f).1.gone.cloud),.sl (List.map c83 (A6 x.f).1.recs)],.i .i64 ((A6 x.f).2)]) z0)) ?_
 refine sn<|sq<|rG cx [2] [] (tB 1 ((A6 x.f).2=1) z0)<|sn<|rT<|nR<|qR (.b (decide ((A6 x.f).2=1))) (.eq (by rw[A3z h27];rfl))
 refine sK<|sn<|sq<|rG cx [1,9,10] [1,9] (fT (B1i (x.f) (by exact f7)) (oA 2 (.tup [.agg [.sl (List.map c67 (A6 x.f).1.adds),.sl (List.map c3 (A6 x.f).1.gone.vec),.sl (List.map B5 (A6 x.f).1.gone.cloud),.sl (List.map c83 (A6 x.f).1.recs)],.i .i64 ((A6 x.f).2)]) z0)) ?_
 refine sn<|sq<|rG cx [1,9,10,11,12] [1,9,11] (fT (B1i ((A6 x.f).1) (by exact P7)) (oA 1 (.tup [.agg [.sl (List.map c67 (A6 (A6 x.f).1).1.adds),.sl (List.map c3 (A6 (A6 x.f).1).1.gone.vec),.sl (List.map B5 (A6 (A6 x.f).1).1.gone.cloud),.sl (List.map c83 (A6 (A6 x.f).1).1.recs)],.i .i64 ((A6 (A6 x.f).1).2)]) z0)) ?_
 refine sn<|sq<|rG cx [1,9,10,11,12,13,14] [1,9,11,13] (fT (A3n (x.f) (by exact f7)) (oA 2 (.tup [.agg [.sl (List.map c67 (A7 x.f).1.adds),.sl (List.map c3 (A7 x.f).1.gone.vec),.sl (List.map B5 (A7 x.f).1.gone.cloud),.sl (List.map c83 (A7 x.f).1.recs)],.i .i64 ((A7 x.f).2)]) z0)) ?_
 refine sn<|sq<|rG cx ([1]++List.range' 9 8) [1,9,11,13,15] (fT (A3n ((A6 x.f).1) (by exact P7)) (oA 1 (.tup [.agg [.sl (List.map c67 (A7 (A6 x.f).1).1.adds),.sl (List.map c3 (A7 (A6 x.f).1).1.gone.vec),.sl (List.map B5 (A7 (A6 x.f).1).1.gone.cloud),.sl (List.map c83 (A7 (A6 x.f).1).1.recs)],.i .i64 ((A7 (A6 x.f).1).2)]) z0)) ?_
 refine sn<|sq<|sq<|B3 (σ':=⟨[(1,.ptr (1) (0) (0) (0)),(9,.ptr (9) (0) (0) (0)),(13,.ptr (13) (0) (0) (0)),(15,.ptr (15) (0) (0) (0)),(121,.b (decide (¬(A6 x.f).2=0∨¬(A6 (A6 x.f).1).2=0∨¬(A7 x.f).2=0∨¬(A7 (A6 x.f).1).2=0∨¬(A6 x.f).1=(A6 (A6 x.f).1).1∨¬(A7 x.f).1=(A7 (A6 x.f).1).1∨¬M1 (A6 x.f).1 (A7 x.f).1=true)))],[(1,⟨0,34,.var [.sl (List.map c67 x.f.adds),.sl (List.map c3 x.f.gone.vec),.sl (List.map B5 x.f.gone.cloud),.sl (List.map c83 x.f.recs),.sl (List.map c67 x.g.adds),.sl (List.map c3 x.g.gone.vec),.sl (List.map B5 x.g.gone.cloud),.sl (List.map c83 x.g.recs),.sl (List.map c67 x.h.adds),.sl (List.map c3 x.h.gone.vec),.sl (List.map B5 x.h.gone.cloud),.sl (List.map c83 x.h.recs),.sl (List.map c67 x.s.adds),.sl (List.map c3 x.s.gone.vec),.sl (List.map B5 x.s.gone.cloud),.sl (List.map c83 x.s.recs),.sl (List.map c65 x.dots),.s (x.sku)]⟩),(9,⟨0,29,.var [.sl (List.map c67 (A6 x.f).1.adds),.sl (List.map c3 (A6 x.f).1.gone.vec),.sl (List.map B5 (A6 x.f).1.gone.cloud),.sl (List.map c83 (A6 x.f).1.recs)]⟩),(13,⟨0,31,.var [.sl (List.map c67 (A7 x.f).1.adds),.sl (List.map c3 (A7 x.f).1.gone.vec),.sl (List.map B5 (A7 x.f).1.gone.cloud),.sl (List.map c83 (A7 x.f).1.recs)]⟩),(15,⟨0,31,.var [.sl (List.map c67 (A7 (A6 x.f).1).1.adds),.sl (List.map c3 (A7 (A6 x.f).1).1.gone.vec),.sl (List.map B5 (A7 (A6 x.f).1).1.gone.cloud),.sl (List.map c83 (A7 (A6 x.f).1).1.recs)]⟩)]⟩) ?_ ?_
 refine A4 (¬(A6 x.f).2=0) (fun h29=>?_) (fun h29=>?_)
 refine rG cx [1,9,13,15,121] [1,9,13,15] (tT 1 (D1 h29:AV.b ((A6 x.f).2 !=0)=AV.b true) (tD 31 true (¬(A6 x.f).2=0∨¬(A6 (A6 x.f).1).2=0∨¬(A7 x.f).2=0∨¬(A7 (A6 x.f).1).2=0∨¬(A6 x.f).1=(A6 (A6 x.f).1).1∨¬(A7 x.f).1=(A7 (A6 x.f).1).1∨¬M1 (A6 x.f).1 (A7 x.f).1=true) (by simp only [eq_false h29,tsl]) z0)) ?_
 exact⟨rfl,by kernel_rfl⟩
 refine A4 (¬(A6 (A6 x.f).1).2=0) (fun h30=>?_) (fun h30=>?_)
 refine rG cx [1,9,13,15,121] [1,9,13,15] (tN 1 ((A6 x.f).2) (0:Int) (tT 2 (A0 h29) (tT 4 (D1 h30:AV.b ((A6 (A6 x.f).1).2 !=0)=AV.b true) (tT 31 (by first | (simp only [eq_false h29,eq_false h30,tsl];done) | simp_all:AV.b true=AV.b (decide (¬(A6 x.f).2=0∨¬(A6 (A6 x.f).1).2=0∨¬(A7 x.f).2=0∨¬(A7 (A6 x.f).1).2=0∨¬(A6 x.f).1=(A6 (A6 x.f).1).1∨¬(A7 x.f).1=(A7 (A6 x.f).1).1∨¬M1 (A6 x.f).1 (A7 x.f).1=true))) z0)))) ?_
 exact⟨rfl,by kernel_rfl⟩
 refine A4 (¬(A7 x.f).2=0) (fun h31=>?_) (fun h31=>?_)
 refine rG cx [1,9,13,15,121] [1,9,13,15] (tN 1 ((A6 x.f).2) (0:Int) (tT 2 (A0 h29) (tN 4 ((A6 (A6 x.f).1).2) (0:Int) (tT 5 (A0 h30) (tT 8 (D1 h31:AV.b ((A7 x.f).2 !=0)=AV.b true) (tT 31 (by first | (simp only [eq_false h29,eq_false h30,eq_false h31,tsl];done) | simp_all:AV.b true=AV.b (decide (¬(A6 x.f).2=0∨¬(A6 (A6 x.f).1).2=0∨¬(A7 x.f).2=0∨¬(A7 (A6 x.f).1).2=0∨¬(A6 x.f).1=(A6 (A6 x.f).1).1∨¬(A7 x.f).1=(A7 (A6 x.f).1).1∨¬M1 (A6 x.f).1 (A7 x.f).1=true))) z0)))))) ?_
 exact⟨rfl,by kernel_rfl⟩
 refine A4 (¬(A7 (A6 x.f).1).2=0) (fun h32=>?_) (fun h32=>?_)
 refine rG cx [1,9,13,15,121] [1,9,13,15] (tN 1 ((A6 x.f).2) (0:Int) (tT 2 (A0 h29) (tN 4 ((A6 (A6 x.f).1).2) (0:Int) (tT 5 (A0 h30) (tN 8 ((A7 x.f).2) (0:Int) (tT 9 (A0 h31) (tT 12 (D1 h32:AV.b ((A7 (A6 x.f).1).2 !=0)=AV.b true) (tT 31 (by first | (simp only [eq_false h29,eq_false h30,eq_false h31,eq_false h32,tsl];done) | simp_all:AV.b true=AV.b (decide (¬(A6 x.f).2=0∨¬(A6 (A6 x.f).1).2=0∨¬(A7 x.f).2=0∨¬(A7 (A6 x.f).1).2=0∨¬(A6 x.f).1=(A6 (A6 x.f).1).1∨¬(A7 x.f).1=(A7 (A6 x.f).1).1∨¬M1 (A6 x.f).1 (A7 x.f).1=true))) z0)))))))) ?_
 exact⟨rfl,by kernel_rfl⟩
 refine A4 (¬(A6 x.f).1=(A6 (A6 x.f).1).1) (fun h33=>?_) (fun h33=>?_)
 refine rg (A:=(AV.b ((A6 x.f).2 !=0)=AV.b (decide ¬(A6 x.f).2=0))∧_∧(AV.b ((A6 (A6 x.f).1).2 !=0)=AV.b (decide ¬(A6 (A6 x.f).1).2=0))∧_∧(AV.b ((A7 x.f).2 !=0)=AV.b (decide ¬(A7 x.f).2=0))∧_∧(AV.b ((A7 (A6 x.f).1).2 !=0)=AV.b (decide ¬(A7 (A6 x.f).1).2=0))∧_∧_∧_∧(AV.b true=AV.b (decide (¬(A6 x.f).2=0∨¬(A6 (A6 x.f).1).2=0∨¬(A7 x.f).2=0∨¬(A7 (A6 x.f).1).2=0∨¬(A6 x.f).1=(A6 (A6 x.f).1).1∨¬(A7 x.f).1=(A7 (A6 x.f).1).1∨¬M1 (A6 x.f).1 (A7 x.f).1=true)))) cx [(1,{ tell:=some (.b (decide ¬(A6 x.f).2=0)) }),(2,{ tell:=some (.b (false)) }),(4,{ tell:=some (.b (decide ¬(A6 (A6 x.f).1).2=0)) }),(5,{ tell:=some (.b (false)) }),(8,{ tell:=some (.b (decide ¬(A7 x.f).2=0)) }),(9,{ tell:=some (.b (false)) }),(12,{ tell:=some (.b (decide ¬(A7 (A6 x.f).1).2=0)) }),(13,{ tell:=some (.b (false)) }),(17,{ val:=some (.b (decide ((A6 x.f).1=(A6 (A6 x.f).1).1))),tell:=some (.b (false)) }),(31,{ tell:=some (.b (decide (¬(A6 x.f).2=0∨¬(A6 (A6 x.f).1).2=0∨¬(A7 x.f).2=0∨¬(A7 (A6 x.f).1).2=0∨¬(A6 x.f).1=(A6 (A6 x.f).1).1∨¬(A7 x.f).1=(A7 (A6 x.f).1).1∨¬M1 (A6 x.f).1 (A7 x.f).1=true))) })] [1,9,13,15,121] [1,9,13,15] ⟨(E9),(A0 h29),(E9),(A0 h30),(E9),(A0 h31),(E9),(A0 h32),(A0 h33),(B1l ((A6 x.f).1) ((A6 (A6 x.f).1).1) (by exact P.1) (by exact M2 P7 (by decide))),(by first | (simp only [eq_false h29,eq_false h30,eq_false h31,eq_false h32,eq_false h33,tsl];done) | simp_all)⟩ ?_
 exact⟨rfl,by kernel_rfl⟩
 refine A4 (¬(A7 x.f).1=(A7 (A6 x.f).1).1) (fun h34=>?_) (fun h34=>?_)
 refine rg (A:=(AV.b ((A6 x.f).2 !=0)=AV.b (decide ¬(A6 x.f).2=0))∧_∧(AV.b ((A6 (A6 x.f).1).2 !=0)=AV.b (decide ¬(A6 (A6 x.f).1).2=0))∧_∧(AV.b ((A7 x.f).2 !=0)=AV.b (decide ¬(A7 x.f).2=0))∧_∧(AV.b ((A7 (A6 x.f).1).2 !=0)=AV.b (decide ¬(A7 (A6 x.f).1).2=0))∧_∧_∧((AV.b !decide ((A6 x.f).1=(A6 (A6 x.f).1).1))=AV.b (decide ¬(A6 x.f).1=(A6 (A6 x.f).1).1))∧_∧_∧_∧(AV.b true=AV.b (decide (¬(A6 x.f).2=0∨¬(A6 (A6 x.f).1).2=0∨¬(A7 x.f).2=0∨¬(A7 (A6 x.f).1).2=0∨¬(A6 x.f).1=(A6 (A6 x.f).1).1∨¬(A7 x.f).1=(A7 (A6 x.f).1).1∨¬M1 (A6 x.f).1 (A7 x.f).1=true)))) cx [(1,{ tell:=some (.b (decide ¬(A6 x.f).2=0)) }),(2,{ tell:=some (.b (false)) }),(4,{ tell:=some (.b (decide ¬(A6 (A6 x.f).1).2=0)) }),(5,{ tell:=some (.b (false)) }),(8,{ tell:=some (.b (decide ¬(A7 x.f).2=0)) }),(9,{ tell:=some (.b (false)) }),(12,{ tell:=some (.b (decide ¬(A7 (A6 x.f).1).2=0)) }),(13,{ tell:=some (.b (false)) }),(17,{ val:=some (.b (decide ((A6 x.f).1=(A6 (A6 x.f).1).1))) }),(18,{ tell:=some (.b (decide ¬(A6 x.f).1=(A6 (A6 x.f).1).1)) }),(19,{ tell:=some (.b (false)) }),(23,{ val:=some (.b (decide ((A7 x.f).1=(A7 (A6 x.f).1).1))),tell:=some (.b (false)) }),(31,{ tell:=some (.b (decide (¬(A6 x.f).2=0∨¬(A6 (A6 x.f).1).2=0∨¬(A7 x.f).2=0∨¬(A7 (A6 x.f).1).2=0∨¬(A6 x.f).1=(A6 (A6 x.f).1).1∨¬(A7 x.f).1=(A7 (A6 x.f).1).1∨¬M1 (A6 x.f).1 (A7 x.f).1=true))) })] [1,9,13,15,121] [1,9,13,15] ⟨(E9),(A0 h29),(E9),(A0 h30),(E9),(A0 h31),(E9),(A0 h32),(B1l ((A6 x.f).1) ((A6 (A6 x.f).1).1) (by exact P.1) (by exact M2 P7 (by decide))),(A1z),(A0 h33),(A0 h34),(Ac2 ((A7 x.f).1) ((A7 (A6 x.f).1).1) (by exact C _) (by exact M2 (A1f f7) (by decide))),(by first | (simp only [eq_false h29,eq_false h30,eq_false h31,eq_false h32,eq_false h33,eq_false h34,tsl];done) | simp_all)⟩ ?_
 exact⟨rfl,by kernel_rfl⟩
 refine rG cx [1,9,13,15,121] [1,9,13,15] (tN 1 ((A6 x.f).2) (0:Int) (tT 2 (A0 h29) (tN 4 ((A6 (A6 x.f).1).2) (0:Int) (tT 5 (A0 h30) (tN 8 ((A7 x.f).2) (0:Int) (tT 9 (A0 h31) (tN 12 ((A7 (A6 x.f).1).2) (0:Int) (tT 13 (A0 h32) (fT (B1l ((A6 x.f).1) ((A6 (A6 x.f).1).1) (by exact P.1) (by exact M2 P7 (by decide))) (tQ 18 ((A6 x.f).1=(A6 (A6 x.f).1).1) (tT 19 (A0 h33) (fT (Ac2 ((A7 x.f).1) ((A7 (A6 x.f).1).1) (by exact C _) (by exact M2 (A1f f7) (by decide))) (tQ 24 ((A7 x.f).1=(A7 (A6 x.f).1).1) (tT 25 (A0 h34) (fT (B9v ((A6 x.f).1) ((A7 x.f).1) (by exact P7) (by exact A1f f7)) (tT 30 (C9:(AV.b !M1 (A6 x.f).1 (A7 x.f).1)=AV.b (decide ¬M1 (A6 x.f).1 (A7 x.f).1=true)) (tT 31 (by first | (simp only [eq_false h29,eq_false h30,eq_false h31,eq_false h32,eq_false h33,eq_false h34,tsl];done) | simp_all:AV.b (decide ¬M1 (A6 x.f).1 (A7 x.f).1=true)=AV.b (decide (¬(A6 x.f).2=0∨¬(A6 (A6 x.f).1).2=0∨¬(A7 x.f).2=0∨¬(A7 (A6 x.f).1).2=0∨¬(A6 x.f).1=(A6 (A6 x.f).1).1∨¬(A7 x.f).1=(A7 (A6 x.f).1).1∨¬M1 (A6 x.f).1 (A7 x.f).1=true))) (oA 17 (.b (decide ((A6 x.f).1=(A6 (A6 x.f).1).1))) (oA 23 (.b (decide ((A7 x.f).1=(A7 (A6 x.f).1).1))) (oA 29 (.b (M1 (A6 x.f).1 (A7 x.f).1)) z0)))))))))))))))))))) ?_
 exact⟨rfl,by kernel_rfl⟩
 refine sn<|dC (¬(A6 x.f).2=0∨¬(A6 (A6 x.f).1).2=0∨¬(A7 x.f).2=0∨¬(A7 (A6 x.f).1).2=0∨¬(A6 x.f).1=(A6 (A6 x.f).1).1∨¬(A7 x.f).1=(A7 (A6 x.f).1).1∨¬M1 (A6 x.f).1 (A7 x.f).1=true) (fun h35=>?_) fun h35=>?_
 refine sq<|rG cx [2] [] z0<|sn<|rT<|nR<|qR (.b (false)) (.eq (by exact absurd h35 (Bf6 (nn h27))))
 refine sK<|sn<|sq<|rG cx [1,9,13,15,17,10] [1,9,13,15,17] (fT (con17 ((A6 x.f).1) (by exact P7)) (oA 1 (.tup [.agg [.i .i64 ((I6 (A6 x.f).1).1.adds),.i .i64 ((I6 (A6 x.f).1).1.gone),.i .i64 ((I6 (A6 x.f).1).1.recs)],.i .i64 ((I6 (A6 x.f).1).2)]) z0)) ?_
 refine sn<|sq<|sq<|B3 (σ':=⟨[(1,.ptr (1) (0) (0) (0)),(9,.ptr (9) (0) (0) (0)),(13,.ptr (13) (0) (0) (0)),(15,.ptr (15) (0) (0) (0)),(138,.b (decide (¬(I6 (A6 x.f).1).2=0∨¬(I6 (A6 x.f).1).1.adds=0∨¬(I6 (A6 x.f).1).1.recs=0)))],[(1,⟨0,34,.var [.sl (List.map c67 x.f.adds),.sl (List.map c3 x.f.gone.vec),.sl (List.map B5 x.f.gone.cloud),.sl (List.map c83 x.f.recs),.sl (List.map c67 x.g.adds),.sl (List.map c3 x.g.gone.vec),.sl (List.map B5 x.g.gone.cloud),.sl (List.map c83 x.g.recs),.sl (List.map c67 x.h.adds),.sl (List.map c3 x.h.gone.vec),.sl (List.map B5 x.h.gone.cloud),.sl (List.map c83 x.h.recs),.sl (List.map c67 x.s.adds),.sl (List.map c3 x.s.gone.vec),.sl (List.map B5 x.s.gone.cloud),.sl (List.map c83 x.s.recs),.sl (List.map c65 x.dots),.s (x.sku)]⟩),(9,⟨0,29,.var [.sl (List.map c67 (A6 x.f).1.adds),.sl (List.map c3 (A6 x.f).1.gone.vec),.sl (List.map B5 (A6 x.f).1.gone.cloud),.sl (List.map c83 (A6 x.f).1.recs)]⟩),(13,⟨0,31,.var [.sl (List.map c67 (A7 x.f).1.adds),.sl (List.map c3 (A7 x.f).1.gone.vec),.sl (List.map B5 (A7 x.f).1.gone.cloud),.sl (List.map c83 (A7 x.f).1.recs)]⟩),(15,⟨0,31,.var [.sl (List.map c67 (A7 (A6 x.f).1).1.adds),.sl (List.map c3 (A7 (A6 x.f).1).1.gone.vec),.sl (List.map B5 (A7 (A6 x.f).1).1.gone.cloud),.sl (List.map c83 (A7 (A6 x.f).1).1.recs)]⟩)]⟩) ?_ ?_
 refine A4 (¬(I6 (A6 x.f).1).2=0) (fun h_37=>?_) (fun h_37=>?_)
 refine rG cx [1,9,13,15,138] [1,9,13,15] (tT 1 (D1 h_37:AV.b ((I6 (A6 x.f).1).2 !=0)=AV.b true) (tD 11 true (¬(I6 (A6 x.f).1).2=0∨¬(I6 (A6 x.f).1).1.adds=0∨¬(I6 (A6 x.f).1).1.recs=0) (by simp only [eq_false h_37,tsl]) z0)) ?_
 exact⟨rfl,by kernel_rfl⟩
 refine A4 (¬(I6 (A6 x.f).1).1.adds=0) (fun h_38=>?_) (fun h_38=>?_)
 refine rG cx [1,9,13,15,138] [1,9,13,15] (tN 1 ((I6 (A6 x.f).1).2) (0:Int) (tT 2 (A0 h_37) (tT 5 (D1 h_38:AV.b ((I6 (A6 x.f).1).1.adds !=0)=AV.b true) (tT 11 (by first | (simp only [eq_false h_37,eq_false h_38,tsl];done) | simp_all:AV.b true=AV.b (decide (¬(I6 (A6 x.f).1).2=0∨¬(I6 (A6 x.f).1).1.adds=0∨¬(I6 (A6 x.f).1).1.recs=0))) z0)))) ?_
 exact⟨rfl,by kernel_rfl⟩
 refine rG cx [1,9,13,15,138] [1,9,13,15] (tN 1 ((I6 (A6 x.f).1).2) (0:Int) (tT 2 (A0 h_37) (tN 5 ((I6 (A6 x.f).1).1.adds) (0:Int) (tT 6 (A0 h_38) (tN 10 ((I6 (A6 x.f).1).1.recs) (0:Int) (tT 11 (by first | (simp only [eq_false h_37,eq_false h_38,tsl];done) | simp_all:AV.b (decide ¬(I6 (A6 x.f).1).1.recs=0)=AV.b (decide (¬(I6 (A6 x.f).1).2=0∨¬(I6 (A6 x.f).1).1.adds=0∨¬(I6 (A6 x.f).1).1.recs=0))) z0)))))) ?_
 exact⟨rfl,by kernel_rfl⟩
 refine sn<|dC (¬(I6 (A6 x.f).1).2=0∨¬(I6 (A6 x.f).1).1.adds=0∨¬(I6 (A6 x.f).1).1.recs=0) (fun h39=>?_) fun h39=>?_
 refine sq<|rG cx [2] [] z0<|sn<|rT<|nR<|qR (.b (false)) (.eq (by exact absurd h39 (Bf7 (nn h27))))
 refine sK<|sn<|sq<|sq<|B3 (σ':=⟨[(1,.ptr (1) (0) (0) (0)),(9,.ptr (9) (0) (0) (0)),(13,.ptr (13) (0) (0) (0)),(15,.ptr (15) (0) (0) (0)),(149,.b (decide (¬okF x.g=true∨A40 x.f.adds x.g.adds=true)))],[(1,⟨0,34,.var [.sl (List.map c67 x.f.adds),.sl (List.map c3 x.f.gone.vec),.sl (List.map B5 x.f.gone.cloud),.sl (List.map c83 x.f.recs),.sl (List.map c67 x.g.adds),.sl (List.map c3 x.g.gone.vec),.sl (List.map B5 x.g.gone.cloud),.sl (List.map c83 x.g.recs),.sl (List.map c67 x.h.adds),.sl (List.map c3 x.h.gone.vec),.sl (List.map B5 x.h.gone.cloud),.sl (List.map c83 x.h.recs),.sl (List.map c67 x.s.adds),.sl (List.map c3 x.s.gone.vec),.sl (List.map B5 x.s.gone.cloud),.sl (List.map c83 x.s.recs),.sl (List.map c65 x.dots),.s (x.sku)]⟩),(9,⟨0,29,.var [.sl (List.map c67 (A6 x.f).1.adds),.sl (List.map c3 (A6 x.f).1.gone.vec),.sl (List.map B5 (A6 x.f).1.gone.cloud),.sl (List.map c83 (A6 x.f).1.recs)]⟩),(13,⟨0,31,.var [.sl (List.map c67 (A7 x.f).1.adds),.sl (List.map c3 (A7 x.f).1.gone.vec),.sl (List.map B5 (A7 x.f).1.gone.cloud),.sl (List.map c83 (A7 x.f).1.recs)]⟩),(15,⟨0,31,.var [.sl (List.map c67 (A7 (A6 x.f).1).1.adds),.sl (List.map c3 (A7 (A6 x.f).1).1.gone.vec),.sl (List.map B5 (A7 (A6 x.f).1).1.gone.cloud),.sl (List.map c83 (A7 (A6 x.f).1).1.recs)]⟩)]⟩) ?_ ?_
 refine A4 (¬okF x.g=true) (fun h41=>?_) (fun h41=>?_)
 refine rg (A:=(AV.b (okF x.g)=AV.b false)∧_∧(AV.b true=AV.b (decide (¬okF x.g=true∨A40 x.f.adds x.g.adds=true)))) cx [(2,{ val:=some (.b (okF x.g)),tell:=some (.b (false)) }),(10,{ tell:=some (.b (decide (¬okF x.g=true∨A40 x.f.adds x.g.adds=true))) })] [1,9,13,15,149] [1,9,13,15] ⟨(S6 h41),(B1m (x.g) (by exact hg.1)),(by simp only [eq_false h41,tsl])⟩ ?_
 exact⟨rfl,by kernel_rfl⟩
 refine rG cx [1,9,13,15,149] [1,9,13,15] (fT (B1m (x.g) (by exact hg.1)) (tT 3 (C9:(AV.b !okF x.g)=AV.b (decide ¬okF x.g=true)) (tT 4 (A0 h41) (fT (con18 (x.f) (x.g) (by exact nn h27) (by exact nn h41)) (tT 10 (by first | (simp only [eq_false h41,tsl];done) | simp_all:AV.b (A40 x.f.adds x.g.adds)=AV.b (decide (¬okF x.g=true∨A40 x.f.adds x.g.adds=true))) (oA 2 (.b (okF x.g)) (oA 9 (.b (A40 x.f.adds x.g.adds)) z0))))))) ?_
 exact⟨rfl,by kernel_rfl⟩
 refine sn<|dC (¬okF x.g=true∨A40 x.f.adds x.g.adds=true) (fun h42=>?_) fun h42=>?_
 refine sq<|rG cx [2] [] z0<|sn<|rT<|nR ?_
 exact A43 (r:=.b (true)) (obl:=[]) (by kernel_rfl) trivial (B9.refl _)
 refine sK<|sn<|sq<|rG cx [1,9,13,15,18,10] [1,9,13,15,18] (fT (B9r (x.f) (x.g) (by exact I3 hf (by decide)) (by exact I3 hg (by decide))) (oA 4 (.tup [.agg [.sl (List.map c67 (B1 x.f x.g).1.adds),.sl (List.map c3 (B1 x.f x.g).1.gone.vec),.sl (List.map B5 (B1 x.f x.g).1.gone.cloud),.sl (List.map c83 (B1 x.f x.g).1.recs)],.i .i64 ((B1 x.f x.g).2)]) z0)) ?_
 refine sn<|sq<|rG cx [13,15,18,10,19,12] [13,15,18,19] (fT (B9r ((A6 x.f).1) (x.g) (by exact I3 P (by decide)) (by exact I3 hg (by decide))) (oA 3 (.tup [.agg [.sl (List.map c67 (B1 (A6 x.f).1 x.g).1.adds),.sl (List.map c3 (B1 (A6 x.f).1 x.g).1.gone.vec),.sl (List.map B5 (B1 (A6 x.f).1 x.g).1.gone.cloud),.sl (List.map c83 (B1 (A6 x.f).1 x.g).1.recs)],.i .i64 ((B1 (A6 x.f).1 x.g).2)]) z0)) ?_
 refine sn<|sq<|rG cx [13,15,10,19,12,14] [13,15,19] (fT (A3n ((B1 x.f x.g).1) (by exact J)) (oA 1 (.tup [.agg [.sl (List.map c67 (A7 (B1 x.f x.g).1).1.adds),.sl (List.map c3 (A7 (B1 x.f x.g).1).1.gone.vec),.sl (List.map B5 (A7 (B1 x.f x.g).1).1.gone.cloud),.sl (List.map c83 (A7 (B1 x.f x.g).1).1.recs)],.i .i64 ((A7 (B1 x.f x.g).1).2)]) z0)) ?_
 refine sn<|sq<|rG cx [13,15,10,12,14,16] [13,15] (fT (A3n ((B1 (A6 x.f).1 x.g).1) (by exact JP)) (oA 1 (.tup [.agg [.sl (List.map c67 (A7 (B1 (A6 x.f).1 x.g).1).1.adds),.sl (List.map c3 (A7 (B1 (A6 x.f).1 x.g).1).1.gone.vec),.sl (List.map B5 (A7 (B1 (A6 x.f).1 x.g).1).1.gone.cloud),.sl (List.map c83 (A7 (B1 (A6 x.f).1 x.g).1).1.recs)],.i .i64 ((A7 (B1 (A6 x.f).1 x.g).1).2)]) z0)) ?_
 refine sn<|sq<|B3 (σ':=⟨[(2,.b (decide ((B1 x.f x.g).2=0∧(B1 (A6 x.f).1 x.g).2=0∧(A7 (B1 x.f x.g).1).2=0∧(A7 (B1 (A6 x.f).1 x.g).1).2=0∧(A7 (B1 x.f x.g).1).1=(A7 (B1 (A6 x.f).1 x.g).1).1)))],[]⟩) ?_ ?_
 refine A4 ((B1 x.f x.g).2=0) (fun h44=>?_) (fun h44=>?_)
 refine A4 ((B1 (A6 x.f).1 x.g).2=0) (fun h45=>?_) (fun h45=>?_)
 refine A4 ((A7 (B1 x.f x.g).1).2=0) (fun h46=>?_) (fun h46=>?_)
 refine A4 ((A7 (B1 (A6 x.f).1 x.g).1).2=0) (fun h47=>?_) (fun h47=>?_)
 refine rG cx [2] [] (tT 1 (A3 h44) (tT 4 (A3 h45) (tT 8 (A3 h46) (tT 12 (A3 h47) (fT (Ac2 ((A7 (B1 x.f x.g).1).1) ((A7 (B1 (A6 x.f).1 x.g).1).1) (by exact C _) (by exact M2 (A1f J) (by decide))) (tD 19 (decide ((A7 (B1 x.f x.g).1).1=(A7 (B1 (A6 x.f).1 x.g).1).1)) ((B1 x.f x.g).2=0∧(B1 (A6 x.f).1 x.g).2=0∧(A7 (B1 x.f x.g).1).2=0∧(A7 (B1 (A6 x.f).1 x.g).1).2=0∧(A7 (B1 x.f x.g).1).1=(A7 (B1 (A6 x.f).1 x.g).1).1) (by simp only [eq_true h44,eq_true h45,eq_true h46,eq_true h47,tsl]) (oA 17 (.b (decide ((A7 (B1 x.f x.g).1).1=(A7 (B1 (A6 x.f).1 x.g).1).1))) z0))))))) ?_
 exact⟨rfl,by kernel_rfl⟩
 refine rG cx [2] [] (tT 1 (A3 h44) (tT 4 (A3 h45) (tT 8 (A3 h46) (tT 12 (A0 h47) (tD 19 false ((B1 x.f x.g).2=0∧(B1 (A6 x.f).1 x.g).2=0∧(A7 (B1 x.f x.g).1).2=0∧(A7 (B1 (A6 x.f).1 x.g).1).2=0∧(A7 (B1 x.f x.g).1).1=(A7 (B1 (A6 x.f).1 x.g).1).1) (by simp only [eq_true h44,eq_true h45,eq_true h46,eq_false h47,tsl]) z0))))) ?_
 exact⟨rfl,by kernel_rfl⟩
 refine rG cx [2] [] (tT 1 (A3 h44) (tT 4 (A3 h45) (tT 8 (A0 h46) (tD 19 false ((B1 x.f x.g).2=0∧(B1 (A6 x.f).1 x.g).2=0∧(A7 (B1 x.f x.g).1).2=0∧(A7 (B1 (A6 x.f).1 x.g).1).2=0∧(A7 (B1 x.f x.g).1).1=(A7 (B1 (A6 x.f).1 x.g).1).1) (by simp only [eq_true h44,eq_true h45,eq_false h46,tsl]) z0)))) ?_
 exact⟨rfl,by kernel_rfl⟩
 refine rG cx [2] [] (tT 1 (A3 h44) (tT 4 (A0 h45) (tD 19 false ((B1 x.f x.g).2=0∧(B1 (A6 x.f).1 x.g).2=0∧(A7 (B1 x.f x.g).1).2=0∧(A7 (B1 (A6 x.f).1 x.g).1).2=0∧(A7 (B1 x.f x.g).1).1=(A7 (B1 (A6 x.f).1 x.g).1).1) (by simp only [eq_true h44,eq_false h45,tsl]) z0))) ?_
 exact⟨rfl,by kernel_rfl⟩
 refine rG cx [2] [] (tT 1 (A0 h44) (tD 19 false ((B1 x.f x.g).2=0∧(B1 (A6 x.f).1 x.g).2=0∧(A7 (B1 x.f x.g).1).2=0∧(A7 (B1 (A6 x.f).1 x.g).1).2=0∧(A7 (B1 x.f x.g).1).1=(A7 (B1 (A6 x.f).1 x.g).1).1) (by simp only [eq_false h44,tsl]) z0)) ?_
 exact⟨rfl,by kernel_rfl⟩
 refine sn<|rT<|qR (.b (decide ((B1 x.f x.g).2=0∧(B1 (A6 x.f).1 x.g).2=0∧(A7 (B1 x.f x.g).1).2=0∧(A7 (B1 (A6 x.f).1 x.g).1).2=0∧(A7 (B1 x.f x.g).1).1=(A7 (B1 (A6 x.f).1 x.g).1).1))) (.eq (by exact congrArg AV.b (decide_eq_true (Bf8 (nn h27) (yg h42) (yc h42)))))
end Go.Proofs.YtokhjapfekbobaaGreat
namespace Go.E
open Go.RowKit Go.ChangeShapes Go.WideShapes Go.ChangeAt
def TyA(T:Tab)(L n t:Nat)(av:AV):Prop :=
 match look T t with
 | some ti=>if ti.isAgg then ∃ cs,av=.agg cs∧TyC T L n t cs else TyC T L n t [av]
 | none=>False
def Ba5(T:Tab)(L n:Nat):List Nat→List AV→Prop
 | [],[]=>True
 | t :: ts,a :: aL=>TyA T L n t a∧Ba5 T L n ts aL
 | _,_=>False
section
variable {P : Program} {T : Tab} {H : Type} {enc : TypeId × Value → H} {W : World} {spare : Nat → Bool} {held : Bool}
theorem A7e(hT:TabOk P T){n t:Nat}{ti:TI}(hti:look T t=some ti)(hp:N6 T n t=true)(hg:ti.isAgg=false){r:Reach}{base:Nat}{v:Value}(hv:Value.okWide P W r base t v):v.oneCell'=true∨∃ x,v=x∧v.cells=#[v]:=by
 have hu:=(hT t ti hti).1
 unfold Value.okWide at hv
 rw[hu]at hv
 cases n with
 | zero=>simp [N6]at hp
 | succ n =>
  unfold N6 at hp
  rw[hti]at hp
  simp only at hp
  unfold TI.isAgg at hg
  cases hd:ti.desc with
  | bool=>rw[hd]at hv;simp only [Cell.okWide,hu,hd,Cell.ok]at hv;cases v <;> simp_all [Value.oneCell',Value.cells]
  | int k=>rw[hd]at hv;simp only [Cell.okWide,hu,hd,Cell.ok]at hv;cases v <;> simp_all [Value.oneCell',Value.cells]
  | string=>rw[hd]at hv;simp only [Cell.okWide,hu,hd,Cell.ok]at hv;cases v <;> simp_all [Value.oneCell',Value.cells]
  | slice e=>rw[hd]at hv;simp only [Cell.okWide,hu,hd,Cell.ok]at hv;cases v <;> simp_all [Value.oneCell',Value.cells]
  | struct fs=>rw[hd]at hg;simp at hg
  | array k e=>rw[hd]at hg;simp at hg
  | _=>rw[hd]at hp;first | exact absurd hp Bool.false_ne_true | cases hp
theorem Ba6(hT:TabOk P T){n t:Nat}(hp:N6 T n t=true){r:Reach}{base:Nat}{v:Value}{d:DataW H}{ps:List MemPlace}(hv:Value.okWide P W r base t v)
  (hd:DataW.Trod enc P W 0 spare held t v d ps) (hw:∀ m∈d.weights P t,m≤reachBytes) {L:Nat} (hL:bulkD d≤L):∃ av,RelV0 (fun k=>k < W.heap.size) W av v∧TyA T L n t av:=by
 obtain⟨ti,hti⟩:=V3 hp
 obtain⟨fuel,hf⟩:=hd
 obtain⟨avs,hc,hty⟩:=B7k hT n t hp fuel _ _ _ hf hw L hL
 by_cases hg:ti.isAgg=true
 ·have hu:=(hT t ti hti).1
  have hv':=hv
  unfold Value.okWide at hv'
  rw[hu]at hv'
  have:∃ cs,v=.agg cs:=by
   unfold TI.isAgg at hg
   split at hg
   ·rename_i fs hd;rw[hd]at hv';obtain⟨cs,h,_⟩:=hv';exact⟨cs,h⟩
   ·rename_i k e hd;rw[hd]at hv';obtain⟨cs,h,_⟩:=hv';exact⟨cs,h⟩
   ·cases hg
  obtain⟨cs,rfl⟩:=this
  refine⟨.agg avs,?_,by unfold TyA;rw[hti];simp only [hg,if_true];exact⟨avs,rfl,hty⟩⟩
  have:=RelV0.agg (S:=fun k=>k < W.heap.size) (w:=W) avs cs.toList (by rw[hc.1];simp [Value.cells]) (fun u hu=>hc.2.1 u (by simpa [Value.cells]using hu)) (fun j a u ha hu=>hc.2.2 j a u ha (by simpa [Value.cells]using hu))
  simpa using this
 ·have hg':ti.isAgg=false:=by simpa using hg
  have h1:v.cells.toList=[v]:=by
   rcases A7e hT hti hp hg' hv with h | ⟨_,_,h⟩
   ·cases v <;> simp_all [Value.oneCell',Value.cells]
   ·rw[h]
  rw[h1]at hc
  obtain⟨c1,_,c3⟩:=hc
  match avs,c1,c3,hty with
  | [a],_,c3,hty=>exact⟨a,c3 0 a v rfl rfl,by unfold TyA;rw[hti];simp only [hg',Bool.false_eq_true,if_false];exact hty⟩
theorem Al4(hT:TabOk P T){L n:Nat}{r:Reach}{base:Nat}:∀(ts:List Nat) (vs:List Value) (ds:List (DataW H)) (ps:List MemPlace),(∀ t∈ts,N6 T n t=true) →
  (∀(j:Nat) t v,ts[j]?=some t→vs[j]?=some v→Value.okWide P W r base t v)→DataW.TrodAll enc P W 0 spare held ts vs ds ps→(∀ m∈DataW.weightsEach P ts ds,m≤reachBytes)→bulkDs ds≤L →
  ∃ avs:List AV,avs.length=vs.length∧(∀(j:Nat) (a:AV) (u:Value),avs[j]?=some a→vs[j]?=some u→RelV0 (fun k=>k < W.heap.size) W a u)∧Ba5 T L n ts avs∧ds.length=ts.length
 | [],[],[],ps,_,_,_,_,_=>⟨[],rfl,fun j a u ha=>by simp at ha,trivial,rfl⟩
 | t :: ts,v :: vs,d :: ds,ps,hp,hv,hA,hw,hL=>by
  simp only [bulkDs]at hL
  obtain⟨p,q,h1,h2,_⟩:=hA
  obtain⟨a,e1,e2⟩:=Ba6 hT (hp t (by simp)) (hv 0 t v rfl rfl) h1 (fun m hm=>hw m (by simp only [DataW.weightsEach,List.mem_append];exact .inl hm)) (L:=L) (by omega)
  obtain⟨aL,f1,f2,f3,f4⟩:=Al4 (L:=L) hT ts vs ds q (fun t ht=>hp t (List.mem_cons_of_mem _ ht)) (fun j t v ht hv'=>hv (j+1) t v (by simpa using ht) (by simpa using hv')) h2 (fun m hm=>hw m (by simp only [DataW.weightsEach,List.mem_append];exact .inr hm)) (by omega)
  refine⟨a :: aL,by simp [f1],fun j b u hb hu=>?_,⟨e2,f3⟩,by simp [f4]⟩
  cases j with
  | zero=>simp at hb hu;subst hb hu;exact e1
  | succ j=>exact f2 j b u (by simpa using hb) (by simpa using hu)
 | [],_ :: _,_,_,_,_,hA,_,_=>hA.elim
 | [],[],_ :: _,_,_,_,hA,_,_=>hA.elim
 | _ :: _,[],_,_,_,_,hA,_,_=>hA.elim
 | _ :: _,_ :: _,[],_,_,_,hA,_,_=>hA.elim
theorem A37(hl:laidOutB P=true){W':World}(hb:Below W.heap.size W W'):∀(ts:List Nat) (vs:List Value) (ds:List (DataW H)) (ps:List MemPlace),(∀ t∈ts,P.readableRec t=true∧t < P.types.size) →
  (∀ x∈ps,x.block < W.heap.size)→DataW.TrodAll enc P W 0 (fun _=>true) true ts vs ds ps→DataW.TrodAll enc P W' 0 (fun b=>decide (b < W.heap.size)) true ts vs ds ps
 | [],[],[],ps,_,_,h=>h
 | t :: ts,v :: vs,d :: ds,ps,hr,hlt,h=>by
  obtain⟨p,q,h1,h2,rfl⟩:=h
  exact⟨p,q,Below.trod hl (hr t (by simp)).1 (hr t (by simp)).2 h1 hb (fun x hx=>hlt x (List.mem_append_left _ hx)),
   A37 hl hb ts vs ds q (fun t ht=>hr t (List.mem_cons_of_mem _ ht)) (fun x hx=>hlt x (List.mem_append_right _ hx)) h2,rfl⟩
 | [],_ :: _,_,_,_,_,hA=>hA.elim
 | [],[],_ :: _,_,_,_,hA=>hA.elim
 | _ :: _,[],_,_,_,_,hA=>hA.elim
 | _ :: _,_ :: _,[],_,_,_,hA=>hA.elim
end
theorem Ba7{T:Tab}{C:Checked}{f:FuncId}{fn:Func}{s:ChangeSpec}{H:Type}{enc:TypeId×Value→H}(ts:List Nat)(tb L n:Nat)
  (hT:TabOk C.prog T) (hl:laidOutB C.prog=true)
  (hts:fn.params=ts.toArray) (htb:fn.resultTypes=#[tb]) (hub:C.prog.underlying tb=some .bool) (hpl:ts.all (fun t=>N6 T n t && C.prog.readableRec t && Nat.blt t C.prog.types.size)=true)
  (hvars:s.vars=[]) (hspec:∀ ds:List (DataW H),ds.length=ts.length→s.fn H (ds++[])={ results:=[.lit (.bool true)],args:=ds })
  (hcon:∀ avs,Ba5 T L n ts avs→Con C.prog f avs (.b true)) {W:World} {base:Nat} {args:Array Value} {ds gs:List (DataW H)} {before:List MemPlace} {us:List Nat}
  (hval:∀(j:Nat) t v,fn.params[j]?=some t→args[j]?=some v→Value.okWide C.prog W .any base t v) (hW:DataW.Whole enc C.prog fn.params.toList s.vars false W args.toList ds gs before)
  (hsz:(DataW.weightsEach C.prog (fn.params.toList++us) (ds++gs)).all (·≤reachBytes)=true) (hbk:bulkDs (ds++gs)≤L) :
  Calls C.prog f args W fun e W'=>∃ v,e=.returned v∧s.post enc C.prog fn false true false false W args v W':=by
 have hW':=hW
 obtain⟨p,q,hA,hV,rfl,_,_⟩:=hW
 rw[hvars]at hV
 obtain⟨rfl,rfl⟩:=trodVars_none hV
 rw[List.append_nil]at hW' hbk
 have hpars:fn.params.toList=ts:=by rw[hts]
 have hA':DataW.TrodAll enc C.prog W 0 (fun _=>true) true ts args.toList ds p:=by rw[← hpars];exact hA
 have hpl':∀ t∈ts,N6 T n t=true∧C.prog.readableRec t=true∧t < C.prog.types.size:=by
  intro t ht
  have:=List.all_eq_true.1 hpl t ht
  simp only [Bool.and_eq_true]at this
  exact⟨this.1.1,this.1.2,by simpa using this.2⟩
 have hw:∀ m∈DataW.weightsEach C.prog ts ds,m≤reachBytes:=by
  intro m hm
  have hsz':=hsz
  rw[List.append_nil,hpars]at hsz'
  have hsub:∀(ts us:List Nat) (ds:List (DataW H)),∀ m∈DataW.weightsEach C.prog ts ds,m∈DataW.weightsEach C.prog (ts++us) ds:=by
   intro ts us ds
   induction ts generalizing ds with
   | nil=>intro m hm;cases ds <;> simp [DataW.weightsEach]at hm
   | cons t ts ih =>
    intro m hm
    cases ds with
    | nil=>simp [DataW.weightsEach]at hm
    | cons d ds =>
     simp only [DataW.weightsEach,List.cons_append,List.mem_append]at hm ⊢
     rcases hm with hm | hm
     ·exact .inl hm
     ·exact .inr (ih ds m hm)
  have:=List.all_eq_true.1 hsz' m (hsub ts _ ds m hm)
  simpa using this
 obtain⟨avs,h1,h2,h3,h4⟩:=Al4 hT ts args.toList ds p (fun t ht=>(hpl' t ht).1) (fun j t v ht hv=>hval j t v (by rw[hts];simpa using ht) (by simpa using hv)) hA' hw hbk
 have hlt:∀ x∈p,x.block < W.heap.size:=fun x hx=>hW'.lt x hx
 have hsp:=hspec ds h4
 have:=(hcon avs h3).2 W (fun k=>k < W.heap.size) args.toList (fun _ h=>h) (by rw[h1]) h2
 rw[Array.toArray_toList]at this
 refine this.mono fun e W' ⟨v,he,hr,hb⟩=>?_
 cases hr with
 | b =>
  refine⟨_,he,ds,[],p,[],p,[],hW',?_,?_,?_,hb.frame _,fun h=>by cases h⟩
  ·rw[hsp,htb]
   exact trodAll_mk1 (shut_bool hub true)
  ·rw[hsp,hpars]
   exact A37 hl hb ts args.toList ds p (fun t ht=>(hpl' t ht).2) hlt hA'
  ·rw[hsp,hvars]
   rfl
theorem A6u{T:Tab}{C:Checked}{os:Os}{f:FuncId}{fn:Func}{s:ChangeSpec}{u:OpenSpec}{k:(H:Type)→List (DataW H)→Bool}{conds:List PathCond}{H:Type}{enc:TypeId×Value→H}(F:Stop.Interp)(ts:List Nat)(tb L n:Nat)
  (hu:u={ OpenSpec.ofChange s with cond:=some k }) (hk:∀ ds:List (DataW H),k H ds=true→bulkDs ds≤L)
  (hT:TabOk C.prog T) (hl:laidOutB C.prog=true) (own:ownKnob C.prog.godebug=none) (started:os.Started) (noInit:C.prog.inits.idxOf? f=none) (hfn:C.prog.funcs[f]?=some fn)
  (hts:fn.params=ts.toArray) (htb:fn.resultTypes=#[tb]) (hub:C.prog.underlying tb=some .bool) (hpl:ts.all (fun t=>N6 T n t && C.prog.readableRec t && Nat.blt t C.prog.types.size)=true)
  (hvars:s.vars=[]) (hspec:∀ ds:List (DataW H),ds.length=ts.length→s.fn H (ds++[])={ results:=[.lit (.bool true)],args:=ds })
  (witness:∃(w:World) (tape:Tape) (i:Input),w.os=os∧(w.forCall tape i).Shaped C.prog∧i.vars=[]∧Input.okWide C.prog (w.forCall tape i) .any w.heap.size f i ∧
   u.pre6 enc C.prog fn conds false (w.forCall tape i).memory i.args∧({}:Assume).holds C.prog (lone (Frame.enter C.prog f i.args .normal) [] (w.forCall tape i)))
  (hcon:∀ avs,Ba5 T L n ts avs→Con C.prog f avs (.b true)) :
  ReturnsInHanded {} C os f .any (u.pre6 enc C.prog fn conds false) ((u.at F).post enc C.prog fn false true false false):=by
 subst hu
 refine returnsInHanded_of_cond_sized (k:=k) rfl own started noInit hfn witness ?_
 intro W base args ds gs before hval hW _ hkk hsz _
 exact Ba7 ts tb L n hT hl hts htb hub hpl hvars hspec hcon hval hW hsz (hk _ hkk)
theorem P9{α:Type}{g:α→List AV}{Q:α→Prop}{C:List AV→Prop}(h:∀ r,C r→∃ x,r=g x∧Q x):∀(rows:List (List AV)),(∀ r∈rows,C r)→∃ xs:List α,rows=xs.map g∧∀ x∈xs,Q x
 | [],_=>⟨[],rfl,fun x hx=>by simp at hx⟩
 | r :: rows,hr=>by
  obtain⟨x,h1,h2⟩:=h r (hr r (by simp))
  obtain⟨xs,h3,h4⟩:=P9 h rows fun q hq=>hr q (List.mem_cons_of_mem _ hq)
  refine⟨x :: xs,by rw[h1,h3];rfl,fun y hy=>?_⟩
  rcases List.mem_cons.1 hy with rfl | hy
  ·exact h2
  ·exact h4 y hy
end Go.E
namespace Go.Proofs.YtokhjapfekbobaaGreat
open Go.E
set_option maxRecDepth 100000
set_option maxHeartbeats 4000000
open Go.ChangeShapes Go.WideShapes Go.ChangeAt Go.RowKit Go
theorem Tryz.own:Go.ownKnob Tryz.prog.godebug=none:=by kernel_rfl
theorem Tryz.laidOut:laidOutB Tryz.prog=true:=by kernel_rfl
def inr(n:Int):Prop:=-9223372036854775808≤n∧n≤9223372036854775807
theorem ty3{L n:Nat}{cs:List AV}(h:TyC tab L (n+1) 3 cs):∃ x,cs=c3 x∧inr x:=by
 obtain⟨x,rfl,h1,h2⟩:=h
 exact⟨x,rfl,h1,h2⟩
theorem ty65{L n:Nat}{cs:List AV}(h:TyC tab L (n+2) 65 cs):∃ d:Dot,cs=c65 d∧inr d.rep∧inr d.num:=by
 obtain⟨a,b,rfl,ha,c,d,rfl,hc,rfl⟩:=h
 obtain⟨x,rfl,hx⟩:=ty3 ha
 obtain⟨y,rfl,hy⟩:=ty3 hc
 exact⟨⟨x,y⟩,rfl,hx,hy⟩
theorem ty9{L n:Nat}{cs:List AV}(h:TyC tab L (n+1) 9 cs):∃ s:ByteArray,cs=[.s s]∧s.size≤140737488351232:=by
 obtain⟨s,rfl,_,h2,_⟩:=h
 exact⟨s,rfl,h2⟩
theorem ty109{L n:Nat}{cs:List AV}(h:TyC tab L (n+2) 109 cs):∃ d:Span,cs=B5 d∧inr d.rep∧inr d.lo∧inr d.hi:=by
 obtain⟨a,b,rfl,ha,c,d,rfl,hc,e,f,rfl,he,rfl⟩:=h
 obtain⟨x,rfl,hx⟩:=ty3 ha
 obtain⟨y,rfl,hy⟩:=ty3 hc
 obtain⟨z,rfl,hz⟩:=ty3 he
 exact⟨⟨x,y,z⟩,rfl,hx,hy,hz⟩
def inE(e:Entry):Prop:=inr e.dot.rep∧inr e.dot.num∧e.sku.size≤140737488351232∧inr e.qty
theorem ty67{L n:Nat}{cs:List AV}(h:TyC tab L (n+3) 67 cs):∃ e:Entry,cs=c67 e∧inE e:=by
 obtain⟨a,b,rfl,ha,c,d,rfl,hc,e,f,rfl,he,rfl⟩:=h
 obtain⟨x,rfl,hx⟩:=ty65 ha
 obtain⟨y,rfl,hy⟩:=ty9 hc
 obtain⟨z,rfl,hz⟩:=ty3 he
 exact⟨⟨x,y,z⟩,rfl,hx.1,hx.2,hy,hz⟩
theorem ty22{L n:Nat}{cs:List AV}(h:TyC tab L (n+4) 22 cs):∃ xs:List Entry,cs=[.sl (xs.map c67)]∧((∀ x∈xs,inE x)∧xs.length*40≤140737488351232)∧xs.length≤L:=by
 obtain⟨rows,rfl,h1,h2,hL,h3⟩:=h
 obtain⟨xs,rfl,hx⟩:=P9 (fun r hr=>ty67 hr) rows h3
 exact⟨xs,rfl,⟨hx,by rw[List.length_map]at h2;exact h2⟩,by rw[List.length_map]at hL;exact hL⟩
mutual
theorem bulk_eq {H : Type} : ∀ d : DataW H, Rows.uptoBulk d = bulkD d
  | .lit l => by cases l <;> simp [Rows.uptoBulk, bulkD]
  | .nil => by simp [Rows.uptoBulk, bulkD]
  | .ptr d => by simp only [Rows.uptoBulk, bulkD, bulk_eq d]
  | .slice elems spare => by simp only [Rows.uptoBulk, bulkD, bulks_eq elems, bulks_eq spare]
  | .agg parts => by simp only [Rows.uptoBulk, bulkD, bulks_eq parts]
  | .iface _ d => by simp only [Rows.uptoBulk, bulkD, bulk_eq d]
  | .map entries => by simp only [Rows.uptoBulk, bulkD, bulkm_eq entries]
  | .held _ => by simp [Rows.uptoBulk, bulkD]
theorem bulks_eq {H : Type} : ∀ l : List (DataW H), Rows.uptoBulkAll l = bulkDs l
  | [] => by simp [Rows.uptoBulkAll, bulkDs]
  | d :: r => by simp only [Rows.uptoBulkAll, bulkDs, bulk_eq d, bulks_eq r]
theorem bulkm_eq {H : Type} : ∀ l : List (Lit × DataW H), Rows.uptoBulkEntries l = bulkDm l
  | [] => by simp [Rows.uptoBulkEntries, bulkDm]
  | x :: r => by simp only [Rows.uptoBulkEntries, bulkDm, bulke_eq x, bulkm_eq r]
theorem bulke_eq {H : Type} : ∀ x : Lit × DataW H, Rows.uptoBulkEntry x = bulkDe x
  | (l, d) => by cases l <;> simp only [Rows.uptoBulkEntry, bulkDe, bulk_eq d]
end
theorem B1n{H:Type}(ds:List (DataW H))(h:Rows.uptoSmall H ds=true):bulkDs ds≤1048576:=by
 rw[← bulks_eq]
 exact of_decide_eq_true h
end Go.Proofs.YtokhjapfekbobaaGreat
namespace Go.Proofs.YtokhjapfekbobaaGreat
open Go.E
set_option maxRecDepth 100000
set_option maxHeartbeats 4000000
def inPL(L:Nat)(p:Past):Prop:=szP p∧p.cloud.length≤L∧p.vec.length≤L
theorem ly23{L n:Nat}{cs:List AV}(h:TyC tab L (n+2) 23 cs):∃ xs:List Int,cs=c23 xs∧xs.length*8≤140737488351232∧xs.length≤L:=by
 obtain⟨rows,rfl,h1,h2,hL,h3⟩:=h
 obtain⟨xs,rfl,hx⟩:=P9 (fun r hr=>ty3 hr) rows h3
 exact⟨xs,rfl,by rw[List.length_map]at h2;exact h2,by rw[List.length_map]at hL;exact hL⟩
theorem ly24{L n:Nat}{cs:List AV}(h:TyC tab L (n+3) 24 cs):∃ xs:List Span,cs=[.sl (xs.map B5)]∧xs.length*24≤140737488351232∧xs.length≤L:=by
 obtain⟨rows,rfl,h1,h2,hL,h3⟩:=h
 obtain⟨xs,rfl,hx⟩:=P9 (fun r hr=>ty109 hr) rows h3
 exact⟨xs,rfl,by rw[List.length_map]at h2;exact h2,by rw[List.length_map]at hL;exact hL⟩
theorem ly26{L n:Nat}{cs:List AV}(h:TyC tab L (n+4) 26 cs):∃ p:Past,cs=c26 p∧inPL L p:=by
 obtain⟨a,b,rfl,ha,c,d,rfl,hc,rfl⟩:=h
 obtain⟨x,rfl,hx⟩:=ly23 (L:=L) (n:=n+1) ha
 obtain⟨y,rfl,hy⟩:=ly24 hc
 exact⟨⟨x,y⟩,rfl,⟨by simp only;omega,by simp only;omega⟩,hy.2,hx.2⟩
theorem ly83{L n:Nat}{cs:List AV}(h:TyC tab L (n+5) 83 cs):∃ r:Record,cs=c83 r∧inPL L r.past:=by
 obtain⟨a,b,rfl,ha,c,d,rfl,hc,rfl⟩:=h
 obtain⟨x,rfl,hx⟩:=ty9 (L:=L) (n:=n+3) ha
 obtain⟨y,rfl,hy⟩:=ly26 hc
 exact⟨⟨x,y⟩,rfl,hy⟩
def inRL(L:Nat)(rs:List Record):Prop:=(∀ r∈rs,inPL L r.past)∧rs.length*64≤140737488351232∧rs.length≤L
theorem ly27{L n:Nat}{cs:List AV}(h:TyC tab L (n+6) 27 cs):∃ rs:List Record,cs=[.sl (rs.map c83)]∧inRL L rs:=by
 obtain⟨rows,rfl,h1,h2,hL,h3⟩:=h
 obtain⟨xs,rfl,hx⟩:=P9 (fun r hr=>ly83 hr) rows h3
 exact⟨xs,rfl,hx,by rw[List.length_map]at h2;exact h2,by rw[List.length_map]at hL;exact hL⟩
def Ba8(L:Nat)(f:Facts):Prop:=(f.adds.length*40≤140737488351232∧f.adds.length≤L)∧inPL L f.gone∧inRL L f.recs
theorem ly29{L n:Nat}{cs:List AV}(h:TyC tab L (n+7) 29 cs):∃ f:Facts,cs=c29 f∧Ba8 L f:=by
 obtain⟨a,b,rfl,ha,c,d,rfl,hc,e,g,rfl,he,rfl⟩:=h
 obtain⟨x,rfl,hx⟩:=ty22 (L:=L) (n:=n+2) ha
 obtain⟨y,rfl,hy⟩:=ly26 (L:=L) (n:=n+2) hc
 obtain⟨z,rfl,hz⟩:=ly27 he
 exact⟨⟨x,y,z⟩,rfl,⟨hx.1.2,hx.2⟩,hy,hz⟩
theorem inF_sz{L:Nat}{f:Facts}(h:Ba8 L f):szF f:=⟨h.2.1.1,fun r hr=>(h.2.2.1 r hr).1⟩
end Go.Proofs.YtokhjapfekbobaaGreat
namespace Go.Proofs.YtokhjapfekbobaaGreat
open Go.E
set_option maxRecDepth 100000
set_option maxHeartbeats 4000000
theorem B65{L M:Nat}(hM:M=L+1):∀ {rs:List Record},(∀ r∈rs,r.past.cloud.length≤L)→A39 rs≤rs.length*M
 | [],_=>by simp [A39]
 | r :: rs,h=>by
  have h1:=h r (by simp)
  have h2:=B65 hM (rs:=rs) (fun x hx=>h x (by simp [hx]))
  simp only [A39,List.map_cons,List.sum_cons,List.length_cons,Nat.add_mul]at *
  omega
theorem Bs3{f:Facts}(h1:szF f)(h2:f.recs.length≤1048576)(h3:A39 f.recs≤1099512676352):szB 1 f:=by
 unfold szB
 rw[Nat.one_mul,Nat.one_mul]
 exact⟨h1,h2,h3⟩
theorem Bs4{f:Facts}(h:Ba8 1048576 f):szB 1 f:=by
 have h0:f.recs.length≤1048576:=h.2.2.2.2
 have h1:A39 f.recs≤f.recs.length*1048577:=B65 (L:=1048576) rfl (fun r hr=>(h.2.2.1 r hr).2.1)
 have h2:f.recs.length*1048577≤1048576*1048577:=Nat.mul_le_mul_right _ h0
 exact Bs3 (inF_sz h) h0 (Nat.le_trans h1 (Nat.le_trans h2 (by decide)))
end Go.Proofs.YtokhjapfekbobaaGreat
namespace Go.Proofs.YtokhjapfekbobaaGreat
open Go.E
set_option maxRecDepth 100000
set_option maxHeartbeats 4000000
theorem ly31{L n:Nat}{cs:List AV}(h:TyC tab L (n+7) 31 cs):∃ f:Facts,cs=c31 f∧Ba8 L f:=by
 obtain⟨a,b,rfl,ha,c,d,rfl,hc,e,g,rfl,he,rfl⟩:=h
 obtain⟨x,rfl,hx⟩:=ty22 (L:=L) (n:=n+2) ha
 obtain⟨y,rfl,hy⟩:=ly26 (L:=L) (n:=n+2) hc
 obtain⟨z,rfl,hz⟩:=ly27 he
 exact⟨⟨x,y,z⟩,rfl,⟨hx.1.2,hx.2⟩,hy,hz⟩
theorem Bs5{f:Facts}(h:Ba8 1048576 f):szL f:=⟨h.1.1,by have:=h.2.2.2.2;omega⟩
end Go.Proofs.YtokhjapfekbobaaGreat
namespace Go.Proofs.YtokhjapfekbobaaGreat
open Go.E
set_option maxRecDepth 100000
set_option maxHeartbeats 4000000
theorem ly32{L n:Nat}{cs:List AV}(h:TyC tab L (n+3) 32 cs):∃ xs:List Dot,cs=[.sl (xs.map c65)]∧xs.length≤L:=by
 obtain⟨rows,rfl,h1,h2,hL,h3⟩:=h
 obtain⟨xs,rfl,hx⟩:=P9 (fun r hr=>ty65 hr) rows h3
 exact⟨xs,rfl,by rw[List.length_map]at hL;exact hL⟩
def inKL(L:Nat)(c:KCase):Prop:=Ba8 L c.f∧Ba8 L c.g∧Ba8 L c.h∧Ba8 L c.s∧c.dots.length≤L
theorem ly34{L n:Nat}{cs:List AV}(h:TyC tab L (n+8) 34 cs):∃ c:KCase,cs=c34 c∧inKL L c:=by
 obtain⟨a,b,rfl,ha,a2,b2,rfl,ha2,a3,b3,rfl,ha3,a4,b4,rfl,ha4,a5,b5,rfl,ha5,a6,b6,rfl,ha6,rfl⟩:=h
 obtain⟨x1,rfl,h1⟩:=ly29 ha
 obtain⟨x2,rfl,h2⟩:=ly29 ha2
 obtain⟨x3,rfl,h3⟩:=ly29 ha3
 obtain⟨x4,rfl,h4⟩:=ly31 ha4
 obtain⟨x5,rfl,h5⟩:=ly32 (L:=L) (n:=n+4) ha5
 obtain⟨x6,rfl,h6⟩:=ty9 (L:=L) (n:=n+6) ha6
 exact⟨⟨x1,x2,x3,x4,x5,x6⟩,rfl,h1,h2,h3,h4,h5⟩
theorem ta34{L:Nat}{a:AV}(h:TyA tab L 9 34 a):∃ c:KCase,a=.agg (c34 c)∧inKL L c:=by
 obtain⟨cs,rfl,h2⟩:=(show ∃ cs,a=.agg cs∧TyC tab L 9 34 cs from h)
 obtain⟨d,rfl,k⟩:=ly34 (L:=L) (n:=1) h2
 exact⟨d,rfl,k⟩
end Go.Proofs.YtokhjapfekbobaaGreat
namespace Go.Proofs.YtokhjapfekbobaaGreat
open Go.E
set_option maxRecDepth 100000
set_option maxHeartbeats 4000000
theorem Tryz.rowedM:Go.mapsRowed Tryz.prog=true:=by kernel_rfl
theorem Tryz.stopsH:Tryz.prog.stopsHeard=true:=by kernel_rfl
theorem Tryz.mayE:Tryz.prog.mayEnter=true:=by kernel_rfl
end Go.Proofs.YtokhjapfekbobaaGreat
