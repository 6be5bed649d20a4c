/- R6: TombLives answers true for every input, and the input reads as it did. Conditions: none. (with texts that it needs)  -/
import Derived.Below
import Derived.OwnWalk
import Derived.WalkKit
import Derived.KernelRfl
import Derived.Laws.MakeOwn
import Derived.Laws.OwnMore
import Derived.Laws.Slices
import Derived.Laws.CopyOwn
import Derived.Laws.AppendOwnNone
import Derived.Laws.Rows
import Derived.Orders
import Derived.Test.YtaiepnaokhpmcaaGreatProg
import Derived.DataReads
import Derived.ChangeOld
import Derived.DataElems
import Derived.SizedLaws
import Derived.ChangeKeysEq
import Derived.Sort.LotA
import Derived.Shelf.SlSortFuncK.RowK2
import Derived.Shelf.SlSortCmp.NoneTotal
import Derived.Lib.Walk
import Derived.Shelf.SlLaysE0
import Derived.Shelf.RegionOpenPlain
import Derived.Deep.LoopGhost
import Derived.Lib.SliceRun
import Derived.Lib.Bytealg
import Derived.Shelf.SlSortFuncK.SWK
import Derived.Deep.Cut
import Derived.Deep.CutRange
import Derived.Deep.DeepCutAuto
import Derived.Lib.ReflectliteSwap
import Derived.Laws.Externs
import Derived.Lib.ReflectliteSlice
import Derived.Calls
import Derived.Lib.AppendZeros
import Derived.ProofKit
import Derived.JoinedCond
import Derived.Deep.CondSized
import Derived.Test.YtaiepnaokhpmcaaGreatRows
import Derived.Test.YtaiepnaokhpmcaaGreatZu6
set_option linter.unusedVariables false
set_option linter.unusedSimpArgs false
namespace Go.Proofs.YtaiepnaokhpmcaaGreat
open Go.E Go.ChangeShapes Go.WideShapes Go.ChangeAt Go.RowKit
set_option maxRecDepth 100000
theorem law11  {a1:AV}(h1:TyA tab 1048576 9 29 a1){a2:AV}(h2:TyA tab 1048576 9 29 a2){a3:AV}(h3:TyA tab 1048576 9 29 a3):Con Tryz.prog 11 [a1,a2,a3] (.b true):=by
 obtain⟨x1,rfl,k1⟩:=B8t h1
 obtain⟨x2,rfl,k2⟩:=B8t h2
 obtain⟨x3,rfl,k3⟩:=B8t h3
 exact con11 x1 x2 x3 (A9c k1) (A9c k2) (A9c k3)
theorem TombUnion_lifted(os:Os)(started:os.Started)(H:Type)(enc:TypeId×Value→H)(F:Stop.Interp) :
  ReturnsInHanded {} Tryz.checked os 11 .any ((Rows.OpenSpec.upto Rows.tombUnionSpec).pre6 enc Tryz.prog Tryz.f11 Rows.tombUnionUptoRow.domain false) (((Rows.OpenSpec.upto Rows.tombUnionSpec).at F).post enc Tryz.prog Tryz.f11 false true false false):=by
 refine M4 (C:=Tryz.checked) (s:=Rows.tombUnionSpec) (k:=Rows.uptoSmall) F [29,29,29] 4 1048576 9 rfl (fun ds=>A0m ds) B1 Tryz.laidOut Tryz.own started (by kernel_rfl) Tryz.func11 rfl rfl (by kernel_rfl) (by kernel_rfl) rfl ?_
  (OpenSpec.witness (enc:=enc) (C:=Tryz.checked) (s:=Rows.OpenSpec.upto Rows.tombUnionSpec) (k:=Rows.uptoSmall) rfl false ⟨#[],#[.agg #[.slice none 0 0,.slice none 0 0,.slice none 0 0,.slice none 0 0],.agg #[.slice none 0 0,.slice none 0 0,.slice none 0 0,.slice none 0 0],.agg #[.slice none 0 0,.slice none 0 0,.slice none 0 0,.slice none 0 0]],[]⟩ 8 (by kernel_rfl) (by kernel_rfl) (by kernel_rfl)
   (x:=([.agg [.nil,.agg [.nil,.nil],.nil],.agg [.nil,.agg [.nil,.nil],.nil],.agg [.nil,.agg [.nil,.nil],.nil]],[],[])) (by kernel_rfl) rfl (by kernel_rfl)) ?_
 ·intro ds hds
  rcases ds with _ | ⟨d1,_ | ⟨d2,_ | ⟨d3,_ | ⟨d4,l⟩⟩⟩⟩
  ·exact absurd hds (by simp)
  ·exact absurd hds (by simp)
  ·exact absurd hds (by simp)
  ·kernel_rfl
  ·exact absurd hds (by simp)
 ·intro avs h
  rcases avs with _ | ⟨a1,_ | ⟨a2,_ | ⟨a3,_ | ⟨a4,l⟩⟩⟩⟩
  ·exact h.elim
  ·exact h.2.elim
  ·exact h.2.2.elim
  ·exact law11 h.1 h.2.1 h.2.2.1
  ·exact h.2.2.2.elim
theorem TombUnion_j1:Rows.tombUnionUptoRow.inPlace=Tryz.prog.inPlace 11:=by kernel_rfl
theorem TombUnion_j2:Rows.tombUnionUptoRow.unfollowed=Tryz.prog.unfollowed 11:=by kernel_rfl
theorem TombUnion_j3:Rows.tombUnionUptoRow.recurses=Tryz.prog.recurses 11:=by kernel_rfl
theorem TombUnion_j4:Rows.tombUnionUptoRow.named=Tryz.prog.varsNamed 11:=by kernel_rfl
theorem TombUnion_j5:Rows.tombUnionUptoRow.plainKeys=Tryz.prog.plainKeys:=by kernel_rfl
theorem TombUnion_j6:Rows.tombUnionUptoRow.lifted=Tryz.prog.liftsFinal:=by kernel_rfl
theorem TombUnion_j7:Tryz.prog.funcNamed Rows.tombUnionUptoRow.func=some 11:=by kernel_rfl
theorem TombUnion_joined:Go.joinedFacts Tryz.prog 11 Tryz.f11 (Rows.OpenSpec.upto Rows.tombUnionSpec).bare Rows.tombUnionUptoRow=true:=by
 unfold Go.joinedFacts
 rw[Tryz.laidOut,Tryz.rowedM,Tryz.stopsH,Tryz.mayE,← TombUnion_j1,← TombUnion_j2,← TombUnion_j3,← TombUnion_j4,← TombUnion_j5,← TombUnion_j6]
 kernel_rfl
theorem TombUnion_holds:Rows.TombUnionUptoSaid :=
 OpenClaim.holds_of_cond 11 Tryz.f11 rfl rfl rfl rfl rfl rfl rfl ⟨rfl,rfl,rfl,rfl,rfl⟩ rfl rfl rfl rfl rfl TombUnion_j7 Tryz.func11 TombUnion_joined
  (of_decide_eq_true (by kernel_rfl)) (by unfold Func.isWrapper;first | (rw[if_pos (by decide +kernel)];kernel_rfl) | (rw[if_neg (by decide +kernel)];exact⟨rfl,rfl⟩))
  (fun os started H enc _ F=>TombUnion_lifted os started H enc F)
end Go.Proofs.YtaiepnaokhpmcaaGreat
namespace Go.Proofs.YtaiepnaokhpmcaaGreat
open Go.E
set_option maxRecDepth 100000
set_option maxHeartbeats 4000000
def B0s(a b:Facts)(i:Int)(x1:List Entry)(x2:List Int)(x3:List Span)(x4:List Record)(p1:List Int)(p2:List Span)(r1:List Int)(r2:List Span):Prop :=
 x1=a.adds∧x2=a.gone.vec∧x3=a.gone.cloud∧x4=a.recs∧p1=(A9 a).1.vec∧p2=(A9 a).1.cloud∧r1=(A9 (A0 a b).1).1.vec∧r2=(A9 (A0 a b).1).1.cloud∧0≤i∧i≤(A7 (A0 a b).1).1.length
noncomputable def decHe(a b:Facts)(i:Int)(x1:List Entry)(x2:List Int)(x3:List Span)(x4:List Record)(p1:List Int)(p2:List Span)(r1:List Int)(r2:List Span):Nat:=((A7 (A0 a b).1).1.length-i).toNat
theorem Ah0{a b:Facts}(h:agF a b)(d:Dot):C5 (A9 (I6 a b)).1 d=(C5 (A9 a).1 d || C5 (A9 b).1 d):=by
 obtain⟨_,o1,p1,q1,r1⟩:=E0 h
 rw[Bool.eq_iff_iff,Bool.or_eq_true,A0l o1,A0l h.1,A0l h.2.1,q1,Bool.or_eq_true]
 constructor
 ·rintro(⟨e,he,k⟩ | k | k)
  ·exact((p1 e).1 he).elim (fun m=>.inl (.inl ⟨e,m,k⟩)) (fun m=>.inr (.inl ⟨e,m,k⟩))
  ·exact .inl (.inr k)
  ·exact .inr (.inr k)
 ·rintro((⟨e,he,k⟩ | k) | (⟨e,he,k⟩ | k))
  ·exact .inl ⟨e,(p1 e).2 (.inl he),k⟩
  ·exact .inr (.inl k)
  ·exact .inl ⟨e,(p1 e).2 (.inr he),k⟩
  ·exact .inr (.inr k)
theorem B4t:¬(¬(A9 B9).2=0∨¬C5 (A9 B9).1 ⟨0,2⟩=true∨C5 (A9 B9).1 ⟨0,3⟩=true):=by
 rintro(h | h | h)
 ·exact h (by rw[R5 A2w])
 ·exact h ((A0l A2w _).2 (.inl ⟨⟨⟨0,2⟩,⟨#[66]⟩,2⟩,by simp [B9],rfl⟩))
 ·rcases(A0l A2w _).1 h with⟨e,he,k⟩ | k
  ·revert e;decide
  ·exact absurd k (by decide)
theorem Ah1{a:Facts}(h:okF a=true):A9 ⟨a.adds,a.gone,[]⟩=A9 a:=by
 rw[R5 h,R5 (f:=⟨a.adds,a.gone,[]⟩) (E6.2 ⟨(E6.1 h).1,(E6.1 h).2.1,(P7 _).2 ⟨fun r hr=>(by cases hr),List.Pairwise.nil⟩⟩)]
theorem A9d{a b:Facts}(h:agF a b):(A7 (I6 a b)).1.length≤16000000000:=by
 have o:=(E0 h).2.1
 rw[Y2 o]
 exact R1 (L8 ((Y1 _).2 (Ag5 o)))
theorem Aw4{a b:Facts}(h:agF a b){i:Int}(h0:0≤i)(hi:i <(A7 (I6 a b)).1.length):C5 (A9 (I6 a b)).1 (A7 (I6 a b)).1[i.toNat]!.dot=true:=by
 have o:=(E0 h).2.1
 have m:(A7 (I6 a b)).1[i.toNat]!∈(A7 (I6 a b)).1:=D6 (by omega)
 rw[A0l o]
 refine .inl ⟨_,?_,rfl⟩
 rw[Y2 o]at m ⊢
 exact(Aw1.1 m).1
theorem con10(a b:Facts)(d:Dot)(ha:szB 1 a)(hb:szB 1 b):Con Tryz.prog 10 [.agg (c29 a),.agg (c29 b),.agg (c43 d)] (.b true) :=
 by
 have W:¬¬K3 a b=true→agF a b:=fun h=>A3w.1 (Classical.not_not.1 h)
 have J:∀ h:¬¬K3 a b=true,(A0 a b).1=I6 a b:=fun h=>by rw[(E0 (W h)).1]
 have c16:∀ {f:Facts},szF f→(A9 f).1.vec.length≤9223372036854775807∧(A9 f).1.cloud.length≤9223372036854775807:=fun {f} h=>by have:=Bl7 h;omega
 have sa:=(c16 ha.1).2
 have sj:=(c16 (Y3 ha hb).1).2
 have B:=c16 (f:=⟨a.adds,a.gone,[]⟩) ⟨ha.1.1,fun r hr=>(by cases hr)⟩
 refine sC B1 [.tmp 6] 126 Tryz.func10 ?_
 intro e0 cx
 refine sq<|rG cx [3,4,5] [3,4,5] z0<|sn<|sq<|rG cx [3,4,5,7,8] [3,4,5,7] (fT (con16 ) (fT (B0n (B9) (by exact A2x.1)) (oA 0 (.agg [.sl (List.map c45 B9.adds),.sl (List.map c3 B9.gone.vec),.sl (List.map B7 B9.gone.cloud),.sl (List.map c81 B9.recs)]) (oA 1 (.tup [.agg [.sl (List.map c3 (A9 B9).1.vec),.sl (List.map B7 (A9 B9).1.cloud)],.i .i64 ((A9 B9).2)]) z0)))) ?_
 refine sn<|sq<|sq<|B4 (σ':=⟨[(3,.ptr (3) (0) (0) (0)),(4,.ptr (4) (0) (0) (0)),(5,.ptr (5) (0) (0) (0)),(7,.ptr (7) (0) (0) (0)),(39,.b (decide (¬(A9 B9).2=0∨¬C5 (A9 B9).1 { rep:=(0:Int),num:=(2:Int):Dot }=true∨C5 (A9 B9).1 { rep:=(0:Int),num:=(3:Int):Dot }=true)))],[(3,⟨0,29,.var [.sl (List.map c45 a.adds),.sl (List.map c3 a.gone.vec),.sl (List.map B7 a.gone.cloud),.sl (List.map c81 a.recs)]⟩),(4,⟨0,29,.var [.sl (List.map c45 b.adds),.sl (List.map c3 b.gone.vec),.sl (List.map B7 b.gone.cloud),.sl (List.map c81 b.recs)]⟩),(5,⟨0,43,.var [.i .i64 (d.rep),.i .i64 (d.num)]⟩),(7,⟨0,26,.var [.sl (List.map c3 (A9 B9).1.vec),.sl (List.map B7 (A9 B9).1.cloud)]⟩)]⟩) ?_ ?_
 refine A4 (¬(A9 B9).2=0) (fun h1=>?_) (fun h1=>?_)
 refine rG cx [3,4,5,7,39] [3,4,5,7] (tT 1 (C4 h1:AV.b ((A9 B9).2 !=0)=AV.b true) (tD 12 true (¬(A9 B9).2=0∨¬C5 (A9 B9).1 { rep:=(0:Int),num:=(2:Int):Dot }=true∨C5 (A9 B9).1 { rep:=(0:Int),num:=(3:Int):Dot }=true) (by simp only [eq_false h1,tsl]) z0)) ?_
 exact⟨rfl,by kernel_rfl⟩
 refine A4 (¬C5 (A9 B9).1 { rep:=(0:Int),num:=(2:Int):Dot }=true) (fun h2=>?_) (fun h2=>?_)
 refine rg (A:=(AV.b ((A9 B9).2 !=0)=AV.b (decide ¬(A9 B9).2=0))∧_∧(AV.b (C5 (A9 B9).1 { rep:=(0:Int),num:=(2:Int):Dot })=AV.b false)∧_∧(AV.b true=AV.b (decide (¬(A9 B9).2=0∨¬C5 (A9 B9).1 { rep:=(0:Int),num:=(2:Int):Dot }=true∨C5 (A9 B9).1 { rep:=(0:Int),num:=(3:Int):Dot }=true)))) cx [(1,{ tell:=some (.b (decide ¬(A9 B9).2=0)) }),(2,{ tell:=some (.b (false)) }),(5,{ val:=some (.b (C5 (A9 B9).1 { rep:=(0:Int),num:=(2:Int):Dot })),tell:=some (.b (false)) }),(12,{ tell:=some (.b (decide (¬(A9 B9).2=0∨¬C5 (A9 B9).1 { rep:=(0:Int),num:=(2:Int):Dot }=true∨C5 (A9 B9).1 { rep:=(0:Int),num:=(3:Int):Dot }=true))) })] [3,4,5,7,39] [3,4,5,7] ⟨(N4),(A3 h1),(F4 h2),(A20 ((A9 B9).1) ({ rep:=(0:Int),num:=(2:Int):Dot }) (by exact(c16 A2x.1).2)),(by first | (simp only [eq_false h1,eq_false h2,tsl];done) | simp_all)⟩ ?_
 exact⟨rfl,by kernel_rfl⟩
 refine rG cx [3,4,5,7,39] [3,4,5,7] (tN 1 ((A9 B9).2) (0:Int) (tT 2 (A3 h1) (fT (A20 ((A9 B9).1) ({ rep:=(0:Int),num:=(2:Int):Dot }) (by exact(c16 A2x.1).2)) (tT 6 (D0:(AV.b !C5 (A9 B9).1 { rep:=(0:Int),num:=(2:Int):Dot })=AV.b (decide ¬C5 (A9 B9).1 { rep:=(0:Int),num:=(2:Int):Dot }=true)) (tT 7 (A3 h2) (fT (A20 ((A9 B9).1) ({ rep:=(0:Int),num:=(3:Int):Dot }) (by exact(c16 A2x.1).2)) (tT 12 (by first | (simp only [eq_false h1,eq_false h2,tsl];done) | simp_all:AV.b (C5 (A9 B9).1 { rep:=(0:Int),num:=(3:Int):Dot })=AV.b (decide (¬(A9 B9).2=0∨¬C5 (A9 B9).1 { rep:=(0:Int),num:=(2:Int):Dot }=true∨C5 (A9 B9).1 { rep:=(0:Int),num:=(3:Int):Dot }=true))) (oA 5 (.b (C5 (A9 B9).1 { rep:=(0:Int),num:=(2:Int):Dot })) (oA 11 (.b (C5 (A9 B9).1 { rep:=(0:Int),num:=(3:Int):Dot })) z0))))))))) ?_
 exact⟨rfl,by kernel_rfl⟩
 refine sn<|dC (¬(A9 B9).2=0∨¬C5 (A9 B9).1 { rep:=(0:Int),num:=(2:Int):Dot }=true∨C5 (A9 B9).1 { rep:=(0:Int),num:=(3:Int):Dot }=true) (fun h3=>?_) fun h3=>?_
 refine sq<|rG cx [6] [] z0<|sn<|rT<|nR<|qR (.b (false)) (.eq (by exact absurd h3 B4t))
 refine sK<|sn<|sq<|sq<|rG cx [3,4,5,7,43] [3,4,5,7] (fT (B8o (a) (b) (by exact ha.1) (by exact hb.1)) (tT 3 (D0:(AV.b !K3 a b)=AV.b (decide ¬K3 a b=true)) (oA 2 (.b (K3 a b)) z0))) ?_
 refine sn<|dC (¬K3 a b=true) (fun h4=>?_) fun h4=>?_
 refine sq<|rG cx [6] [] z0<|sn<|rT<|nR ?_
 exact A3f (r:=.b (true)) (obl:=[]) (by kernel_rfl) trivial (B8.refl _)
 refine sK<|sn<|sq<|rG cx [3,4,5,7,9,8] [3,4,5,7,9] (fT (Ag2 (a) (b) (by exact G1 ha (by decide)) (by exact G1 hb (by decide))) (oA 2 (.tup [.agg [.sl (List.map c45 (A0 a b).1.adds),.sl (List.map c3 (A0 a b).1.gone.vec),.sl (List.map B7 (A0 a b).1.gone.cloud),.sl (List.map c81 (A0 a b).1.recs)],.i .i64 ((A0 a b).2)]) z0)) ?_
 refine sn<|sq<|rG cx [3,4,5,7,9,8,10] [3,4,5,7,9] (fT (B0n (a) (by exact ha.1)) (oA 1 (.tup [.agg [.sl (List.map c3 (A9 a).1.vec),.sl (List.map B7 (A9 a).1.cloud)],.i .i64 ((A9 a).2)]) z0)) ?_
 refine sn<|sq<|rG cx [3,5,7,9,8,10,11,12] [3,5,7,9,11] (fT (B0n (b) (by exact hb.1)) (oA 1 (.tup [.agg [.sl (List.map c3 (A9 b).1.vec),.sl (List.map B7 (A9 b).1.cloud)],.i .i64 ((A9 b).2)]) z0)) ?_
 refine sn<|sq<|rG cx [3,5,7,9,8,10,11,12,13,14] [3,5,7,9,11,13] (fT (B0n ((A0 a b).1) (by exact(Y3 ha hb).1)) (oA 1 (.tup [.agg [.sl (List.map c3 (A9 (A0 a b).1).1.vec),.sl (List.map B7 (A9 (A0 a b).1).1.cloud)],.i .i64 ((A9 (A0 a b).1).2)]) z0)) ?_
 refine sn<|sq<|rG cx [3,5,7,8,10,11,12,13,14,15,16] [3,5,7,11,13] (fT (B4k ((A0 a b).1) (by exact G1 (Y3 ha hb) (by decide))) (oA 1 (.tup [.sl (List.map c45 (A7 (A0 a b).1).1),.i .i64 ((A7 (A0 a b).1).2)]) z0)) ?_
 refine sn<|sq<|sq<|B4 (σ':=⟨[(3,.ptr (3) (0) (0) (0)),(5,.ptr (5) (0) (0) (0)),(7,.ptr (7) (0) (0) (0)),(11,.ptr (11) (0) (0) (0)),(13,.ptr (13) (0) (0) (0)),(15,.sl (List.map c45 (A7 (A0 a b).1).1)),(87,.b (decide (¬(A0 a b).2=0∨¬(A9 a).2=0∨¬(A9 b).2=0∨¬(A9 (A0 a b).1).2=0∨¬(A7 (A0 a b).1).2=0)))],[(3,⟨0,29,.var [.sl (List.map c45 a.adds),.sl (List.map c3 a.gone.vec),.sl (List.map B7 a.gone.cloud),.sl (List.map c81 a.recs)]⟩),(5,⟨0,43,.var [.i .i64 (d.rep),.i .i64 (d.num)]⟩),(7,⟨0,26,.var [.sl (List.map c3 (A9 a).1.vec),.sl (List.map B7 (A9 a).1.cloud)]⟩),(11,⟨0,26,.var [.sl (List.map c3 (A9 b).1.vec),.sl (List.map B7 (A9 b).1.cloud)]⟩),(13,⟨0,26,.var [.sl (List.map c3 (A9 (A0 a b).1).1.vec),.sl (List.map B7 (A9 (A0 a b).1).1.cloud)]⟩)]⟩) ?_ ?_
 refine A4 (¬(A0 a b).2=0) (fun h_6=>?_) (fun h_6=>?_)
 refine rG cx [3,5,7,11,13,15,87] [3,5,7,11,13] (tT 1 (C4 h_6:AV.b ((A0 a b).2 !=0)=AV.b true) (tD 17 true (¬(A0 a b).2=0∨¬(A9 a).2=0∨¬(A9 b).2=0∨¬(A9 (A0 a b).1).2=0∨¬(A7 (A0 a b).1).2=0) (by simp only [eq_false h_6,tsl]) z0)) ?_
 exact⟨rfl,by kernel_rfl⟩
 refine A4 (¬(A9 a).2=0) (fun h_7=>?_) (fun h_7=>?_)
 refine rG cx [3,5,7,11,13,15,87] [3,5,7,11,13] (tN 1 ((A0 a b).2) (0:Int) (tT 2 (A3 h_6) (tT 4 (C4 h_7:AV.b ((A9 a).2 !=0)=AV.b true) (tT 17 (by first | (simp only [eq_false h_6,eq_false h_7,tsl];done) | simp_all:AV.b true=AV.b (decide (¬(A0 a b).2=0∨¬(A9 a).2=0∨¬(A9 b).2=0∨¬(A9 (A0 a b).1).2=0∨¬(A7 (A0 a b).1).2=0))) z0)))) ?_
 exact⟨rfl,by kernel_rfl⟩
 refine A4 (¬(A9 b).2=0) (fun h_8=>?_) (fun h_8=>?_)
 refine rG cx [3,5,7,11,13,15,87] [3,5,7,11,13] (tN 1 ((A0 a b).2) (0:Int) (tT 2 (A3 h_6) (tN 4 ((A9 a).2) (0:Int) (tT 5 (A3 h_7) (tT 8 (C4 h_8:AV.b ((A9 b).2 !=0)=AV.b true) (tT 17 (by first | (simp only [eq_false h_6,eq_false h_7,eq_false h_8,tsl];done) | simp_all:AV.b true=AV.b (decide (¬(A0 a b).2=0∨¬(A9 a).2=0∨¬(A9 b).2=0∨¬(A9 (A0 a b).1).2=0∨¬(A7 (A0 a b).1).2=0))) z0)))))) ?_
 exact⟨rfl,by kernel_rfl⟩
 refine A4 (¬(A9 (A0 a b).1).2=0) (fun h_9=>?_) (fun h_9=>?_)
 refine rG cx [3,5,7,11,13,15,87] [3,5,7,11,13] (tN 1 ((A0 a b).2) (0:Int) (tT 2 (A3 h_6) (tN 4 ((A9 a).2) (0:Int) (tT 5 (A3 h_7) (tN 8 ((A9 b).2) (0:Int) (tT 9 (A3 h_8) (tT 12 (C4 h_9:AV.b ((A9 (A0 a b).1).2 !=0)=AV.b true) (tT 17 (by first | (simp only [eq_false h_6,eq_false h_7,eq_false h_8,eq_false h_9,tsl];done) | simp_all:AV.b true=AV.b (decide (¬(A0 a b).2=0∨¬(A9 a).2=0∨¬(A9 b).2=0∨¬(A9 (A0 a b).1).2=0∨¬(A7 (A0 a b).1).2=0))) z0)))))))) ?_
 exact⟨rfl,by kernel_rfl⟩
 refine rG cx [3,5,7,11,13,15,87] [3,5,7,11,13] (tN 1 ((A0 a b).2) (0:Int) (tT 2 (A3 h_6) (tN 4 ((A9 a).2) (0:Int) (tT 5 (A3 h_7) (tN 8 ((A9 b).2) (0:Int) (tT 9 (A3 h_8) (tN 12 ((A9 (A0 a b).1).2) (0:Int) (tT 13 (A3 h_9) (tN 16 ((A7 (A0 a b).1).2) (0:Int) (tT 17 (by first | (simp only [eq_false h_6,eq_false h_7,eq_false h_8,eq_false h_9,tsl];done) | simp_all:AV.b (decide ¬(A7 (A0 a b).1).2=0)=AV.b (decide (¬(A0 a b).2=0∨¬(A9 a).2=0∨¬(A9 b).2=0∨¬(A9 (A0 a b).1).2=0∨¬(A7 (A0 a b).1).2=0))) z0)))))))))) ?_
 exact⟨rfl,by kernel_rfl⟩
 refine sn<|dC (¬(A0 a b).2=0∨¬(A9 a).2=0∨¬(A9 b).2=0∨¬(A9 (A0 a b).1).2=0∨¬(A7 (A0 a b).1).2=0) (fun h10=>?_) fun h10=>?_
 refine sq<|rG cx [6] [] z0<|sn<|rT<|nR<|qR (.b (false)) (.eq ?g13);rotate_left
 refine sK<|sn<|sq<|sq<|A4 (C5 (A9 a).1 d=true) (fun h12=>?_) (fun h12=>?_)
 refine ra (A:=_∧_∧_∧((AV.b !C5 (A9 (A0 a b).1).1 d == true)=AV.b (decide ¬C5 (A9 (A0 a b).1).1 d=true))) cx [(2,{ val:=some (.b (C5 (A9 (A0 a b).1).1 d)) }),(5,{ val:=some (.b (C5 (A9 a).1 d)),tell:=some (.b (true)) }),(11,{ tell:=some (.b (decide ¬C5 (A9 (A0 a b).1).1 d=true)) })] [3,7,13,15,99] [3,7,13] ⟨(A20 ((A9 (A0 a b).1).1) (d) (by exact sj)),(I7 h12),(A20 ((A9 a).1) (d) (by exact sa)),(A7r)⟩ ?_
 refine sn<|dC (¬C5 (A9 (A0 a b).1).1 d=true) (fun h13=>?_) fun h13=>?_
 refine sq<|rG cx [6] [] z0<|sn<|rT<|nR<|qR (.b (false)) (.eq (by rw[J h4,Ah0 (W h4),h12]at h13;exact absurd rfl h13))
 refine sK<|sn<|sq<|sq<|rG cx [3,7,13,100,101,102] [3,7,13] (tL 1 c45 ((A7 (A0 a b).1).1) z0)<|sn<|bL 0<|sL (X:=Int×List Entry×List Int×List Span×List Record×List Int×List Span×List Int×List Span) (fun x=>⟨[(3,.ptr (3) (0) (0) (0)),(7,.ptr (7) (0) (0) (0)),(13,.ptr (13) (0) (0) (0)),(100,.sl (List.map c45 (A7 (A0 a b).1).1)),(101,.i .i64 ((↑(A7 (A0 a b).1).1.length:Int))),(102,.i .i64 (x.1))],[(3,⟨0,29,.var [.sl (List.map c45 x.2.1),.sl (List.map c3 x.2.2.1),.sl (List.map B7 x.2.2.2.1),.sl (List.map c81 x.2.2.2.2.1)]⟩),(7,⟨0,26,.var [.sl (List.map c3 x.2.2.2.2.2.1),.sl (List.map B7 x.2.2.2.2.2.2.1)]⟩),(13,⟨0,26,.var [.sl (List.map c3 x.2.2.2.2.2.2.2.1),.sl (List.map B7 x.2.2.2.2.2.2.2.2)]⟩)]⟩) (fun x ↦ decHe a b x.1 x.2.1 x.2.2.1 x.2.2.2.1 x.2.2.2.2.1 x.2.2.2.2.2.1 x.2.2.2.2.2.2.1 x.2.2.2.2.2.2.2.1 x.2.2.2.2.2.2.2.2) (fun x ↦ B0s a b x.1 x.2.1 x.2.2.1 x.2.2.2.1 x.2.2.2.2.1 x.2.2.2.2.2.1 x.2.2.2.2.2.2.1 x.2.2.2.2.2.2.2.1 x.2.2.2.2.2.2.2.2) [3,7,13,100,101,102] [3,7,13] (((0:Int),a.adds,a.gone.vec,a.gone.cloud,a.recs,(A9 a).1.vec,(A9 a).1.cloud,(A9 (A0 a b).1).1.vec,(A9 (A0 a b).1).1.cloud)) (show B0s a b (0:Int) a.adds a.gone.vec a.gone.cloud a.recs (A9 a).1.vec (A9 a).1.cloud (A9 (A0 a b).1).1.vec (A9 (A0 a b).1).1.cloud from(by exact⟨rfl,rfl,rfl,rfl,rfl,rfl,rfl,rfl,by omega,by omega⟩)) ?_
 rintro⟨i14,x15,x16,x17,x18,p19,p20,r21,r22⟩ h_23
 obtain⟨h24,h25,h26,h27,h28,h29,h30,h31,h32,h33⟩:x15=a.adds∧x16=a.gone.vec∧x17=a.gone.cloud∧x18=a.recs∧p19=(A9 a).1.vec∧p20=(A9 a).1.cloud∧r21=(A9 (A0 a b).1).1.vec∧r22=(A9 (A0 a b).1).1.cloud∧0≤i14∧i14≤(↑(A7 (A0 a b).1).1.length:Int):=h_23
 refine rE cx [3,7,13,100,101,102,103] [3,7,13] (zB 0 (i14 <(↑(A7 (A0 a b).1).1.length:Int))) (fun h34=>?_) fun h34=>?_
 refine sK<|sn<|sq<|bL 1<|sq<|rG cx [3,7,13,100,101,102,18] [3,7,13,18] (fA (0≤i14) (fG c45 ((A7 (A0 a b).1).1) i14.toNat (fR 4 (fN 4 4 (oR 0 (c45 (A7 (A0 a b).1).1[i14.toNat]!) z0)))))<|sn<|sq<|rG cx [3,7,13,100,101,102,110] [3,7,13] (fT (A20 ({ vec:=r21,cloud:=r22:Past }) ((A7 (A0 a b).1).1[i14.toNat]!.dot) (by subst h31;exact sj)) (tT 4 (D0:(AV.b !C5 { vec:=r21,cloud:=r22:Past } (A7 (A0 a b).1).1[i14.toNat]!.dot)=AV.b (decide ¬C5 { vec:=r21,cloud:=r22:Past } (A7 (A0 a b).1).1[i14.toNat]!.dot=true)) (oA 3 (.b (C5 { vec:=r21,cloud:=r22:Past } (A7 (A0 a b).1).1[i14.toNat]!.dot)) z0))) ?_
 refine sn<|dC (¬C5 { vec:=r21,cloud:=r22:Past } (A7 (A0 a b).1).1[i14.toNat]!.dot=true) (fun h35=>?_) fun h35=>?_
 refine sq<|rG cx [6] [] z0<|sn<|rT<|bR<|nR<|nR<|bR<|nR<|qR (.b (false)) (.eq (by subst h30 h31;rw[J h4]at h34 h35;exact absurd (Aw4 (W h4) h32 h34) h35))
 refine sK<|bN<|sn<|rG cx [3,7,13,100,101,102] [3,7,13] (tT 0 (B6 (by omega) (by have:=A9d (W h4);rw[J h4]at h34;omega):AV.i .i64 (IntKind.i64.wrap (i14+1))=AV.i .i64 (i14+1)) z0) ?_
 refine sn<|nX ((i14+1,x15,x16,x17,x18,p19,p20,r21,r22)) (show((↑(A7 (A0 a b).1).1.length:Int)-(i14+1)).toNat <((↑(A7 (A0 a b).1).1.length:Int)-i14).toNat from(by omega)) (show B0s a b (i14+1) x15 x16 x17 x18 p19 p20 r21 r22 from(by exact⟨h24,h25,h26,h27,h28,h29,h30,h31,by omega,by omega⟩))
 refine eX 0<|nE<|nE<|bH<|sn<|sq<|rG cx [7,19] [7,19] z0<|sn<|sq<|rG cx [7,19] [7,19] z0<|sn<|sq<|rG cx [7,20,21] [7,20] (fP (Con Tryz.prog (45:Nat) [AV.agg [AV.sl (List.map c45 x15),AV.sl (List.map c3 x16),AV.sl (List.map B7 x17),AV.nl]] (AV.tup [AV.agg [AV.sl (List.map c3 (A9 { adds:=x15,gone:={ vec:=x16,cloud:=x17:Past },recs:=[]:Facts }).1.vec),AV.sl (List.map B7 (A9 { adds:=x15,gone:={ vec:=x16,cloud:=x17:Past },recs:=[]:Facts }).1.cloud)],AV.i .i64 (A9 { adds:=x15,gone:={ vec:=x16,cloud:=x17:Past },recs:=[]:Facts }).2])) (Con.le (B0n ({ adds:=x15,gone:={ vec:=x16,cloud:=x17:Past },recs:=[]:Facts }) (by subst h25 h26;exact⟨ha.1.1,fun r hr=>(by cases hr)⟩)) (ZLe.cons (B8.agg (ZLe.cons (B8.refl _) (ZLe.cons (B8.refl _) (ZLe.cons (B8.refl _) (ZLe.cons B8.nl ZLe.nil))))) ZLe.nil)) (oA 1 (.tup [.agg [.sl (List.map c3 (A9 { adds:=x15,gone:={ vec:=x16,cloud:=x17:Past },recs:=[]:Facts }).1.vec),.sl (List.map B7 (A9 { adds:=x15,gone:={ vec:=x16,cloud:=x17:Past },recs:=[]:Facts }).1.cloud)],.i .i64 ((A9 { adds:=x15,gone:={ vec:=x16,cloud:=x17:Past },recs:=[]:Facts }).2)]) z0)) ?_
 refine sn<|sq<|B4 (σ':=⟨[(6,.b (decide ((A9 { adds:=x15,gone:={ vec:=x16,cloud:=x17:Past },recs:=[]:Facts }).2=0∧(A9 { adds:=x15,gone:={ vec:=x16,cloud:=x17:Past },recs:=[]:Facts }).1={ vec:=p19,cloud:=p20:Past })))],[]⟩) ?_ ?_
 refine A4 ((A9 { adds:=x15,gone:={ vec:=x16,cloud:=x17:Past },recs:=[]:Facts }).2=0) (fun h37=>?_) (fun h37=>?_)
 refine rG cx [6] [] (tT 1 (A6 h37) (fT (Az8 ((A9 { adds:=x15,gone:={ vec:=x16,cloud:=x17:Past },recs:=[]:Facts }).1) ({ vec:=p19,cloud:=p20:Past }) (by subst h24 h25 h26;exact B.1) (by subst h24 h25 h26;exact B.2)) (tD 7 (decide ((A9 { adds:=x15,gone:={ vec:=x16,cloud:=x17:Past },recs:=[]:Facts }).1={ vec:=p19,cloud:=p20:Past })) ((A9 { adds:=x15,gone:={ vec:=x16,cloud:=x17:Past },recs:=[]:Facts }).2=0∧(A9 { adds:=x15,gone:={ vec:=x16,cloud:=x17:Past },recs:=[]:Facts }).1={ vec:=p19,cloud:=p20:Past }) (by simp only [eq_true h37,tsl]) (oA 5 (.b (decide ((A9 { adds:=x15,gone:={ vec:=x16,cloud:=x17:Past },recs:=[]:Facts }).1={ vec:=p19,cloud:=p20:Past }))) z0)))) ?_
 exact⟨rfl,by kernel_rfl⟩
 refine rG cx [6] [] (tT 1 (A3 h37) (tD 7 false ((A9 { adds:=x15,gone:={ vec:=x16,cloud:=x17:Past },recs:=[]:Facts }).2=0∧(A9 { adds:=x15,gone:={ vec:=x16,cloud:=x17:Past },recs:=[]:Facts }).1={ vec:=p19,cloud:=p20:Past }) (by simp only [eq_false h37,tsl]) z0)) ?_
 exact⟨rfl,by kernel_rfl⟩
 refine sn<|rT<|qR (.b (decide ((A9 { adds:=x15,gone:={ vec:=x16,cloud:=x17:Past },recs:=[]:Facts }).2=0∧(A9 { adds:=x15,gone:={ vec:=x16,cloud:=x17:Past },recs:=[]:Facts }).1={ vec:=p19,cloud:=p20:Past }))) (.eq (by subst h24 h25 h26 h28 h29;rw[show A9 ⟨a.adds,⟨a.gone.vec,a.gone.cloud⟩,[]⟩=A9 a from Ah1 (W h4).1];exact congrArg AV.b (decide_eq_true ⟨by rw[R5 (W h4).1],rfl⟩)))
 refine ra (A:=_∧(AV.b (C5 (A9 a).1 d)=AV.b false)∧_∧_∧((AV.b !C5 (A9 (A0 a b).1).1 d == C5 (A9 b).1 d)=AV.b (decide ¬C5 (A9 (A0 a b).1).1 d=C5 (A9 b).1 d))) cx [(2,{ val:=some (.b (C5 (A9 (A0 a b).1).1 d)) }),(5,{ val:=some (.b (C5 (A9 a).1 d)),tell:=some (.b (false)) }),(9,{ val:=some (.b (C5 (A9 b).1 d)) }),(11,{ tell:=some (.b (decide ¬C5 (A9 (A0 a b).1).1 d=C5 (A9 b).1 d)) })] [3,7,13,15,99] [3,7,13] ⟨(A20 ((A9 (A0 a b).1).1) (d) (by exact sj)),(F4 h12),(A20 ((A9 a).1) (d) (by exact sa)),(A20 ((A9 b).1) (d) (by exact(c16 hb.1).2)),(A7r)⟩ ?_
 refine sn<|dC (¬C5 (A9 (A0 a b).1).1 d=C5 (A9 b).1 d) (fun h38=>?_) fun h38=>?_
 refine sq<|rG cx [6] [] z0<|sn<|rT<|nR<|qR (.b (false)) (.eq ?g29);rotate_left
 refine sK<|sn<|sq<|sq<|rG cx [3,7,13,100,101,102] [3,7,13] (tL 1 c45 ((A7 (A0 a b).1).1) z0)<|sn<|bL 0<|sL (X:=Int×List Entry×List Int×List Span×List Record×List Int×List Span×List Int×List Span) (fun x=>⟨[(3,.ptr (3) (0) (0) (0)),(7,.ptr (7) (0) (0) (0)),(13,.ptr (13) (0) (0) (0)),(100,.sl (List.map c45 (A7 (A0 a b).1).1)),(101,.i .i64 ((↑(A7 (A0 a b).1).1.length:Int))),(102,.i .i64 (x.1))],[(3,⟨0,29,.var [.sl (List.map c45 x.2.1),.sl (List.map c3 x.2.2.1),.sl (List.map B7 x.2.2.2.1),.sl (List.map c81 x.2.2.2.2.1)]⟩),(7,⟨0,26,.var [.sl (List.map c3 x.2.2.2.2.2.1),.sl (List.map B7 x.2.2.2.2.2.2.1)]⟩),(13,⟨0,26,.var [.sl (List.map c3 x.2.2.2.2.2.2.2.1),.sl (List.map B7 x.2.2.2.2.2.2.2.2)]⟩)]⟩) (fun x ↦ decHe a b x.1 x.2.1 x.2.2.1 x.2.2.2.1 x.2.2.2.2.1 x.2.2.2.2.2.1 x.2.2.2.2.2.2.1 x.2.2.2.2.2.2.2.1 x.2.2.2.2.2.2.2.2) (fun x ↦ B0s a b x.1 x.2.1 x.2.2.1 x.2.2.2.1 x.2.2.2.2.1 x.2.2.2.2.2.1 x.2.2.2.2.2.2.1 x.2.2.2.2.2.2.2.1 x.2.2.2.2.2.2.2.2) [3,7,13,100,101,102] [3,7,13] (((0:Int),a.adds,a.gone.vec,a.gone.cloud,a.recs,(A9 a).1.vec,(A9 a).1.cloud,(A9 (A0 a b).1).1.vec,(A9 (A0 a b).1).1.cloud)) (show B0s a b (0:Int) a.adds a.gone.vec a.gone.cloud a.recs (A9 a).1.vec (A9 a).1.cloud (A9 (A0 a b).1).1.vec (A9 (A0 a b).1).1.cloud from(by exact⟨rfl,rfl,rfl,rfl,rfl,rfl,rfl,rfl,by omega,by omega⟩)) ?_
 rintro⟨i39,x40,x41,x42,x43,p44,p45,r46,r47⟩ h_48
 obtain⟨h49,h50,h51,h52,h53,h54,h55,h56,h57,h58⟩:x40=a.adds∧x41=a.gone.vec∧x42=a.gone.cloud∧x43=a.recs∧p44=(A9 a).1.vec∧p45=(A9 a).1.cloud∧r46=(A9 (A0 a b).1).1.vec∧r47=(A9 (A0 a b).1).1.cloud∧0≤i39∧i39≤(↑(A7 (A0 a b).1).1.length:Int):=h_48
 refine rE cx [3,7,13,100,101,102,103] [3,7,13] (zB 0 (i39 <(↑(A7 (A0 a b).1).1.length:Int))) (fun h59=>?_) fun h59=>?_
 refine sK<|sn<|sq<|bL 1<|sq<|rG cx [3,7,13,100,101,102,18] [3,7,13,18] (fA (0≤i39) (fG c45 ((A7 (A0 a b).1).1) i39.toNat (fR 4 (fN 4 4 (oR 0 (c45 (A7 (A0 a b).1).1[i39.toNat]!) z0)))))<|sn<|sq<|rG cx [3,7,13,100,101,102,110] [3,7,13] (fT (A20 ({ vec:=r46,cloud:=r47:Past }) ((A7 (A0 a b).1).1[i39.toNat]!.dot) (by subst h56;exact sj)) (tT 4 (D0:(AV.b !C5 { vec:=r46,cloud:=r47:Past } (A7 (A0 a b).1).1[i39.toNat]!.dot)=AV.b (decide ¬C5 { vec:=r46,cloud:=r47:Past } (A7 (A0 a b).1).1[i39.toNat]!.dot=true)) (oA 3 (.b (C5 { vec:=r46,cloud:=r47:Past } (A7 (A0 a b).1).1[i39.toNat]!.dot)) z0))) ?_
 refine sn<|dC (¬C5 { vec:=r46,cloud:=r47:Past } (A7 (A0 a b).1).1[i39.toNat]!.dot=true) (fun h60=>?_) fun h60=>?_
 refine sq<|rG cx [6] [] z0<|sn<|rT<|bR<|nR<|nR<|bR<|nR<|qR (.b (false)) (.eq (by subst h55 h56;rw[J h4]at h59 h60;exact absurd (Aw4 (W h4) h57 h59) h60))
 refine sK<|bN<|sn<|rG cx [3,7,13,100,101,102] [3,7,13] (tT 0 (B6 (by omega) (by have:=A9d (W h4);rw[J h4]at h59;omega):AV.i .i64 (IntKind.i64.wrap (i39+1))=AV.i .i64 (i39+1)) z0) ?_
 refine sn<|nX ((i39+1,x40,x41,x42,x43,p44,p45,r46,r47)) (show((↑(A7 (A0 a b).1).1.length:Int)-(i39+1)).toNat <((↑(A7 (A0 a b).1).1.length:Int)-i39).toNat from(by omega)) (show B0s a b (i39+1) x40 x41 x42 x43 p44 p45 r46 r47 from(by exact⟨h49,h50,h51,h52,h53,h54,h55,h56,by omega,by omega⟩))
 refine eX 0<|nE<|nE<|bH<|sn<|sq<|rG cx [7,19] [7,19] z0<|sn<|sq<|rG cx [7,19] [7,19] z0<|sn<|sq<|rG cx [7,20,21] [7,20] (fP (Con Tryz.prog (45:Nat) [AV.agg [AV.sl (List.map c45 x40),AV.sl (List.map c3 x41),AV.sl (List.map B7 x42),AV.nl]] (AV.tup [AV.agg [AV.sl (List.map c3 (A9 { adds:=x40,gone:={ vec:=x41,cloud:=x42:Past },recs:=[]:Facts }).1.vec),AV.sl (List.map B7 (A9 { adds:=x40,gone:={ vec:=x41,cloud:=x42:Past },recs:=[]:Facts }).1.cloud)],AV.i .i64 (A9 { adds:=x40,gone:={ vec:=x41,cloud:=x42:Past },recs:=[]:Facts }).2])) (Con.le (B0n ({ adds:=x40,gone:={ vec:=x41,cloud:=x42:Past },recs:=[]:Facts }) (by subst h50 h51;exact⟨ha.1.1,fun r hr=>(by cases hr)⟩)) (ZLe.cons (B8.agg (ZLe.cons (B8.refl _) (ZLe.cons (B8.refl _) (ZLe.cons (B8.refl _) (ZLe.cons B8.nl ZLe.nil))))) ZLe.nil)) (oA 1 (.tup [.agg [.sl (List.map c3 (A9 { adds:=x40,gone:={ vec:=x41,cloud:=x42:Past },recs:=[]:Facts }).1.vec),.sl (List.map B7 (A9 { adds:=x40,gone:={ vec:=x41,cloud:=x42:Past },recs:=[]:Facts }).1.cloud)],.i .i64 ((A9 { adds:=x40,gone:={ vec:=x41,cloud:=x42:Past },recs:=[]:Facts }).2)]) z0)) ?_
 refine sn<|sq<|B4 (σ':=⟨[(6,.b (decide ((A9 { adds:=x40,gone:={ vec:=x41,cloud:=x42:Past },recs:=[]:Facts }).2=0∧(A9 { adds:=x40,gone:={ vec:=x41,cloud:=x42:Past },recs:=[]:Facts }).1={ vec:=p44,cloud:=p45:Past })))],[]⟩) ?_ ?_
 refine A4 ((A9 { adds:=x40,gone:={ vec:=x41,cloud:=x42:Past },recs:=[]:Facts }).2=0) (fun h62=>?_) (fun h62=>?_)
 refine rG cx [6] [] (tT 1 (A6 h62) (fT (Az8 ((A9 { adds:=x40,gone:={ vec:=x41,cloud:=x42:Past },recs:=[]:Facts }).1) ({ vec:=p44,cloud:=p45:Past }) (by subst h49 h50 h51;exact B.1) (by subst h49 h50 h51;exact B.2)) (tD 7 (decide ((A9 { adds:=x40,gone:={ vec:=x41,cloud:=x42:Past },recs:=[]:Facts }).1={ vec:=p44,cloud:=p45:Past })) ((A9 { adds:=x40,gone:={ vec:=x41,cloud:=x42:Past },recs:=[]:Facts }).2=0∧(A9 { adds:=x40,gone:={ vec:=x41,cloud:=x42:Past },recs:=[]:Facts }).1={ vec:=p44,cloud:=p45:Past }) (by simp only [eq_true h62,tsl]) (oA 5 (.b (decide ((A9 { adds:=x40,gone:={ vec:=x41,cloud:=x42:Past },recs:=[]:Facts }).1={ vec:=p44,cloud:=p45:Past }))) z0)))) ?_
 exact⟨rfl,by kernel_rfl⟩
 refine rG cx [6] [] (tT 1 (A3 h62) (tD 7 false ((A9 { adds:=x40,gone:={ vec:=x41,cloud:=x42:Past },recs:=[]:Facts }).2=0∧(A9 { adds:=x40,gone:={ vec:=x41,cloud:=x42:Past },recs:=[]:Facts }).1={ vec:=p44,cloud:=p45:Past }) (by simp only [eq_false h62,tsl]) z0)) ?_
 exact⟨rfl,by kernel_rfl⟩
 refine sn<|rT<|qR (.b (decide ((A9 { adds:=x40,gone:={ vec:=x41,cloud:=x42:Past },recs:=[]:Facts }).2=0∧(A9 { adds:=x40,gone:={ vec:=x41,cloud:=x42:Past },recs:=[]:Facts }).1={ vec:=p44,cloud:=p45:Past }))) (.eq (by subst h49 h50 h51 h53 h54;rw[show A9 ⟨a.adds,⟨a.gone.vec,a.gone.cloud⟩,[]⟩=A9 a from Ah1 (W h4).1];exact congrArg AV.b (decide_eq_true ⟨by rw[R5 (W h4).1],rfl⟩)))
 case g13 =>
  have o:=(E0 (W h4)).2.1
  rw[J h4,(E0 (W h4)).1,R5 (W h4).1,R5 (W h4).2.1,R5 o,Y2 o]at h10
  rcases h10 with h10 | h10 | h10 | h10 | h10 <;> exact absurd rfl h10
 case g29 =>
  rw[J h4,Ah0 (W h4)]at h38
  have h12:C5 (A9 a).1 d=false:=Bool.eq_false_iff.2 h12
  rw[h12]at h38
  exact absurd rfl h38
end Go.Proofs.YtaiepnaokhpmcaaGreat
namespace Go.Proofs.YtaiepnaokhpmcaaGreat
open Go.E Go.ChangeShapes Go.WideShapes Go.ChangeAt Go.RowKit
set_option maxRecDepth 100000
theorem law10  {a1:AV}(h1:TyA tab 1048576 9 29 a1){a2:AV}(h2:TyA tab 1048576 9 29 a2){a3:AV}(h3:TyA tab 1048576 9 43 a3):Con Tryz.prog 10 [a1,a2,a3] (.b true):=by
 obtain⟨x1,rfl,k1⟩:=B8t h1
 obtain⟨x2,rfl,k2⟩:=B8t h2
 obtain⟨x3,rfl,k3⟩:=ta43 h3
 exact con10 x1 x2 x3 (A9c k1) (A9c k2)
theorem TombHears_lifted(os:Os)(started:os.Started)(H:Type)(enc:TypeId×Value→H)(F:Stop.Interp) :
  ReturnsInHanded {} Tryz.checked os 10 .any ((Rows.OpenSpec.upto Rows.tombHearsSpec).pre6 enc Tryz.prog Tryz.f10 Rows.tombHearsUptoRow.domain false) (((Rows.OpenSpec.upto Rows.tombHearsSpec).at F).post enc Tryz.prog Tryz.f10 false true false false):=by
 refine M4 (C:=Tryz.checked) (s:=Rows.tombHearsSpec) (k:=Rows.uptoSmall) F [29,29,43] 4 1048576 9 rfl (fun ds=>A0m ds) B1 Tryz.laidOut Tryz.own started (by kernel_rfl) Tryz.func10 rfl rfl (by kernel_rfl) (by kernel_rfl) rfl ?_
  (OpenSpec.witness (enc:=enc) (C:=Tryz.checked) (s:=Rows.OpenSpec.upto Rows.tombHearsSpec) (k:=Rows.uptoSmall) rfl false ⟨#[],#[.agg #[.slice none 0 0,.slice none 0 0,.slice none 0 0,.slice none 0 0],.agg #[.slice none 0 0,.slice none 0 0,.slice none 0 0,.slice none 0 0],.agg #[.int .i64 0,.int .i64 0]],[]⟩ 8 (by kernel_rfl) (by kernel_rfl) (by kernel_rfl)
   (x:=([.agg [.nil,.agg [.nil,.nil],.nil],.agg [.nil,.agg [.nil,.nil],.nil],.agg [.lit (.int .i64 0),.lit (.int .i64 0)]],[],[])) (by kernel_rfl) rfl (by kernel_rfl)) ?_
 ·intro ds hds
  rcases ds with _ | ⟨d1,_ | ⟨d2,_ | ⟨d3,_ | ⟨d4,l⟩⟩⟩⟩
  ·exact absurd hds (by simp)
  ·exact absurd hds (by simp)
  ·exact absurd hds (by simp)
  ·kernel_rfl
  ·exact absurd hds (by simp)
 ·intro avs h
  rcases avs with _ | ⟨a1,_ | ⟨a2,_ | ⟨a3,_ | ⟨a4,l⟩⟩⟩⟩
  ·exact h.elim
  ·exact h.2.elim
  ·exact h.2.2.elim
  ·exact law10 h.1 h.2.1 h.2.2.1
  ·exact h.2.2.2.elim
theorem TombHears_j1:Rows.tombHearsUptoRow.inPlace=Tryz.prog.inPlace 10:=by kernel_rfl
theorem TombHears_j2:Rows.tombHearsUptoRow.unfollowed=Tryz.prog.unfollowed 10:=by kernel_rfl
theorem TombHears_j3:Rows.tombHearsUptoRow.recurses=Tryz.prog.recurses 10:=by kernel_rfl
theorem TombHears_j4:Rows.tombHearsUptoRow.named=Tryz.prog.varsNamed 10:=by kernel_rfl
theorem TombHears_j5:Rows.tombHearsUptoRow.plainKeys=Tryz.prog.plainKeys:=by kernel_rfl
theorem TombHears_j6:Rows.tombHearsUptoRow.lifted=Tryz.prog.liftsFinal:=by kernel_rfl
theorem TombHears_j7:Tryz.prog.funcNamed Rows.tombHearsUptoRow.func=some 10:=by kernel_rfl
theorem TombHears_joined:Go.joinedFacts Tryz.prog 10 Tryz.f10 (Rows.OpenSpec.upto Rows.tombHearsSpec).bare Rows.tombHearsUptoRow=true:=by
 unfold Go.joinedFacts
 rw[Tryz.laidOut,Tryz.rowedM,Tryz.stopsH,Tryz.mayE,← TombHears_j1,← TombHears_j2,← TombHears_j3,← TombHears_j4,← TombHears_j5,← TombHears_j6]
 kernel_rfl
theorem TombHears_holds:Rows.TombHearsUptoSaid :=
 OpenClaim.holds_of_cond 10 Tryz.f10 rfl rfl rfl rfl rfl rfl rfl ⟨rfl,rfl,rfl,rfl,rfl⟩ rfl rfl rfl rfl rfl TombHears_j7 Tryz.func10 TombHears_joined
  (of_decide_eq_true (by kernel_rfl)) (by unfold Func.isWrapper;first | (rw[if_pos (by decide +kernel)];kernel_rfl) | (rw[if_neg (by decide +kernel)];exact⟨rfl,rfl⟩))
  (fun os started H enc _ F=>TombHears_lifted os started H enc F)
end Go.Proofs.YtaiepnaokhpmcaaGreat
namespace Go.Proofs.YtaiepnaokhpmcaaGreat
open Go.E
set_option maxRecDepth 100000
set_option maxHeartbeats 4000000
theorem B4u{a b:Facts}(h:agF a b):agF b (D2 a b)∧I6 b (D2 a b)=I6 a b:=by
 have l:=Bl4 (a:=a) (b:=b) h.2.1
 have g:agF b (D2 a b):=⟨h.2.1,Ao0 h.1,fun x hx y hy hd=>h.symm.2.2 x hx y ((l.1 y).1 hy).1 hd⟩
 obtain⟨_,o1,p1,q1,r1⟩:=E0 h
 obtain⟨_,o2,p2,q2,r2⟩:=E0 g
 refine⟨g,B8j o2 o1 (fun e=>?_) (fun d=>?_) (fun r=>?_)⟩
 ·rw[p2,p1,l.1]
  by_cases c:e∈b.adds <;> simp [c]
 ·rw[q2,q1,l.2.1]
  cases C5 a.gone d <;> cases C5 b.gone d <;> rfl
 ·rw[r2,r1,l.2.2]
  by_cases c:r∈b.recs <;> simp [c]
theorem B4v{a b:Facts}(ha:okF a=true)(hb:okF b=true):D7 a b=(D2 a b,0):=by unfold D7;rw[if_pos (G0.2 ⟨ha,hb⟩)]
theorem B4w{a b:Facts}(h:agF a b):D2 a (I6 a b)=zeroF:=(Ag4 (Ao0 h.1)).1 ((Aw0 (E0 h).2.1).2 (A5r h).1)
theorem A01{a b:Facts}(ha:okF a=true)(hb:okF b=true):A8 a b=(I9 (D2 a b),0):=by unfold A8;rw[if_pos (G0.2 ⟨ha,hb⟩)]
theorem Aw5{a b:Facts}(ha:okF a=true)(hb:okF b=true):E7 a b=((if I9 (D2 a b)=true∧I9 (D2 b a)=true then 0 else if I9 (D2 a b)=true then 1 else if I9 (D2 b a)=true then 2 else 3),0):=by
 unfold E7;rw[if_pos (G0.2 ⟨ha,hb⟩)]
theorem B8u(x y:Bool):(x=true∧decide ((if x=true∧y=true then(0:Int)else if x=true then 1 else if y=true then 2 else 3)=0)=y∧decide ((if x=true∧y=true then(0:Int)else if x=true then 1 else if y=true then 2 else 3)=1)=decide (¬ y=true)∧decide ((if x=true∧y=true then(0:Int)else if x=true then 1 else if y=true then 2 else 3)=2)=false) ∨
  (¬ x=true∧decide ((if x=true∧y=true then(0:Int)else if x=true then 1 else if y=true then 2 else 3)=0)=false∧decide ((if x=true∧y=true then(0:Int)else if x=true then 1 else if y=true then 2 else 3)=1)=false∧decide ((if x=true∧y=true then(0:Int)else if x=true then 1 else if y=true then 2 else 3)=2)=y):=by
 cases x <;> cases y <;> decide
theorem con12(a b:Facts)(ha:szB 1 a)(hb:szB 1 b):Con Tryz.prog 12 [.agg (c29 a),.agg (c29 b)] (.b true) :=
 by
 have W:¬¬K3 a b=true→agF a b:=fun h=>A3w.1 (Classical.not_not.1 h)
 have J:¬¬K3 a b=true→A0 a b=(I6 a b,0):=fun h=>(E0 (W h)).1
 have L:¬¬K3 a b=true→D7 a b=(D2 a b,0):=fun h=>B4v (W h).1 (W h).2.1
 have sj:=Y3 ha hb
 have ga:=An3 ha (by decide)
 have gb:=An3 hb (by decide)
 refine sC B1 [.tmp 4] 132 Tryz.func12 ?_
 intro e0 cx
 refine sq<|rG cx [2,3] [2,3] z0<|sn<|sq<|sq<|rG cx [2,3,17] [2,3] (fT (Bl8 ) (oA 0 (.b (true)) z0))<|sn<|W7 (by kernel_rfl) (by kernel_rfl)<|sK<|sn<|sq<|sq<|rG cx [2,3,21] [2,3] (fT (B8o (a) (b) (by exact ha.1) (by exact hb.1)) (tT 3 (D0:(AV.b !K3 a b)=AV.b (decide ¬K3 a b=true)) (oA 2 (.b (K3 a b)) z0))) ?_
 refine sn<|dC (¬K3 a b=true) (fun h0=>?_) fun h0=>?_
 refine sq<|rG cx [4] [] z0<|sn<|rT<|nR ?_
 exact A3f (r:=.b (true)) (obl:=[]) (by kernel_rfl) trivial (B8.refl _)
 refine sK<|sn<|sq<|rG cx [2,3,5,6] [2,3,5] (fT (Ag2 (a) (b) (by exact G1 ha (by decide)) (by exact G1 hb (by decide))) (oA 2 (.tup [.agg [.sl (List.map c45 (A0 a b).1.adds),.sl (List.map c3 (A0 a b).1.gone.vec),.sl (List.map B7 (A0 a b).1.gone.cloud),.sl (List.map c81 (A0 a b).1.recs)],.i .i64 ((A0 a b).2)]) z0)) ?_
 refine sn<|sq<|rG cx [2,3,5,6,7,8] [2,3,5,7] (fT (con23 (a) (b) (by exact ga) (by exact gb)) (oA 2 (.tup [.agg [.sl (List.map c45 (D7 a b).1.adds),.sl (List.map c3 (D7 a b).1.gone.vec),.sl (List.map B7 (D7 a b).1.gone.cloud),.sl (List.map c81 (D7 a b).1.recs)],.i .i64 ((D7 a b).2)]) z0)) ?_
 refine sn<|sq<|rG cx [2,3,5,6,7,8,9,10] [2,3,5,7,9] (fT (Ag2 (b) ((D7 a b).1) (by exact G1 hb (by decide)) (by exact G1 (A9b ha) (by decide))) (oA 2 (.tup [.agg [.sl (List.map c45 (A0 b (D7 a b).1).1.adds),.sl (List.map c3 (A0 b (D7 a b).1).1.gone.vec),.sl (List.map B7 (A0 b (D7 a b).1).1.gone.cloud),.sl (List.map c81 (A0 b (D7 a b).1).1.recs)],.i .i64 ((A0 b (D7 a b).1).2)]) z0)) ?_
 refine sn<|sq<|rG cx ([2,3]++List.range' 5 8) [2,3,5,7,9,11] (fT (con23 (a) ((A0 a b).1) (by exact ga) (by exact An3 sj (by decide))) (oA 2 (.tup [.agg [.sl (List.map c45 (D7 a (A0 a b).1).1.adds),.sl (List.map c3 (D7 a (A0 a b).1).1.gone.vec),.sl (List.map B7 (D7 a (A0 a b).1).1.gone.cloud),.sl (List.map c81 (D7 a (A0 a b).1).1.recs)],.i .i64 ((D7 a (A0 a b).1).2)]) z0)) ?_
 refine sn<|sq<|sq<|B4 (σ':=⟨[(2,.ptr (2) (0) (0) (0)),(3,.ptr (3) (0) (0) (0)),(7,.ptr (7) (0) (0) (0)),(71,.b (decide (¬(A0 a b).2=0∨¬(D7 a b).2=0∨¬(A0 b (D7 a b).1).2=0∨¬(D7 a (A0 a b).1).2=0∨¬(A0 a b).1=(A0 b (D7 a b).1).1∨¬(D7 a (A0 a b).1).1={ adds:=[],gone:={ vec:=[],cloud:=[]:Past },recs:=[]:Facts })))],[(2,⟨0,29,.var [.sl (List.map c45 a.adds),.sl (List.map c3 a.gone.vec),.sl (List.map B7 a.gone.cloud),.sl (List.map c81 a.recs)]⟩),(3,⟨0,29,.var [.sl (List.map c45 b.adds),.sl (List.map c3 b.gone.vec),.sl (List.map B7 b.gone.cloud),.sl (List.map c81 b.recs)]⟩),(7,⟨0,29,.var [.sl (List.map c45 (D7 a b).1.adds),.sl (List.map c3 (D7 a b).1.gone.vec),.sl (List.map B7 (D7 a b).1.gone.cloud),.sl (List.map c81 (D7 a b).1.recs)]⟩)]⟩) ?_ ?_
 refine A4 (¬(A0 a b).2=0) (fun h2=>?_) (fun h2=>?_)
 refine rG cx [2,3,7,71] [2,3,7] (tT 1 (C4 h2:AV.b ((A0 a b).2 !=0)=AV.b true) (tD 25 true (¬(A0 a b).2=0∨¬(D7 a b).2=0∨¬(A0 b (D7 a b).1).2=0∨¬(D7 a (A0 a b).1).2=0∨¬(A0 a b).1=(A0 b (D7 a b).1).1∨¬(D7 a (A0 a b).1).1={ adds:=[],gone:={ vec:=[],cloud:=[]:Past },recs:=[]:Facts }) (by simp only [eq_false h2,tsl]) z0)) ?_
 exact⟨rfl,by kernel_rfl⟩
 refine A4 (¬(D7 a b).2=0) (fun h3=>?_) (fun h3=>?_)
 refine rG cx [2,3,7,71] [2,3,7] (tN 1 ((A0 a b).2) (0:Int) (tT 2 (A3 h2) (tT 4 (C4 h3:AV.b ((D7 a b).2 !=0)=AV.b true) (tT 25 (by first | (simp only [eq_false h2,eq_false h3,tsl];done) | simp_all:AV.b true=AV.b (decide (¬(A0 a b).2=0∨¬(D7 a b).2=0∨¬(A0 b (D7 a b).1).2=0∨¬(D7 a (A0 a b).1).2=0∨¬(A0 a b).1=(A0 b (D7 a b).1).1∨¬(D7 a (A0 a b).1).1={ adds:=[],gone:={ vec:=[],cloud:=[]:Past },recs:=[]:Facts }))) z0)))) ?_
 exact⟨rfl,by kernel_rfl⟩
 refine A4 (¬(A0 b (D7 a b).1).2=0) (fun h4=>?_) (fun h4=>?_)
 refine rG cx [2,3,7,71] [2,3,7] (tN 1 ((A0 a b).2) (0:Int) (tT 2 (A3 h2) (tN 4 ((D7 a b).2) (0:Int) (tT 5 (A3 h3) (tT 8 (C4 h4:AV.b ((A0 b (D7 a b).1).2 !=0)=AV.b true) (tT 25 (by first | (simp only [eq_false h2,eq_false h3,eq_false h4,tsl];done) | simp_all:AV.b true=AV.b (decide (¬(A0 a b).2=0∨¬(D7 a b).2=0∨¬(A0 b (D7 a b).1).2=0∨¬(D7 a (A0 a b).1).2=0∨¬(A0 a b).1=(A0 b (D7 a b).1).1∨¬(D7 a (A0 a b).1).1={ adds:=[],gone:={ vec:=[],cloud:=[]:Past },recs:=[]:Facts }))) z0)))))) ?_
 exact⟨rfl,by kernel_rfl⟩
 refine A4 (¬(D7 a (A0 a b).1).2=0) (fun h5=>?_) (fun h5=>?_)
 refine rG cx [2,3,7,71] [2,3,7] (tN 1 ((A0 a b).2) (0:Int) (tT 2 (A3 h2) (tN 4 ((D7 a b).2) (0:Int) (tT 5 (A3 h3) (tN 8 ((A0 b (D7 a b).1).2) (0:Int) (tT 9 (A3 h4) (tT 12 (C4 h5:AV.b ((D7 a (A0 a b).1).2 !=0)=AV.b true) (tT 25 (by first | (simp only [eq_false h2,eq_false h3,eq_false h4,eq_false h5,tsl];done) | simp_all:AV.b true=AV.b (decide (¬(A0 a b).2=0∨¬(D7 a b).2=0∨¬(A0 b (D7 a b).1).2=0∨¬(D7 a (A0 a b).1).2=0∨¬(A0 a b).1=(A0 b (D7 a b).1).1∨¬(D7 a (A0 a b).1).1={ adds:=[],gone:={ vec:=[],cloud:=[]:Past },recs:=[]:Facts }))) z0)))))))) ?_
 exact⟨rfl,by kernel_rfl⟩
 refine A4 (¬(A0 a b).1=(A0 b (D7 a b).1).1) (fun h6=>?_) (fun h6=>?_)
 refine rg (A:=(AV.b ((A0 a b).2 !=0)=AV.b (decide ¬(A0 a b).2=0))∧_∧(AV.b ((D7 a b).2 !=0)=AV.b (decide ¬(D7 a b).2=0))∧_∧(AV.b ((A0 b (D7 a b).1).2 !=0)=AV.b (decide ¬(A0 b (D7 a b).1).2=0))∧_∧(AV.b ((D7 a (A0 a b).1).2 !=0)=AV.b (decide ¬(D7 a (A0 a b).1).2=0))∧_∧_∧_∧(AV.b true=AV.b (decide (¬(A0 a b).2=0∨¬(D7 a b).2=0∨¬(A0 b (D7 a b).1).2=0∨¬(D7 a (A0 a b).1).2=0∨¬(A0 a b).1=(A0 b (D7 a b).1).1∨¬(D7 a (A0 a b).1).1={ adds:=[],gone:={ vec:=[],cloud:=[]:Past },recs:=[]:Facts })))) cx [(1,{ tell:=some (.b (decide ¬(A0 a b).2=0)) }),(2,{ tell:=some (.b (false)) }),(4,{ tell:=some (.b (decide ¬(D7 a b).2=0)) }),(5,{ tell:=some (.b (false)) }),(8,{ tell:=some (.b (decide ¬(A0 b (D7 a b).1).2=0)) }),(9,{ tell:=some (.b (false)) }),(12,{ tell:=some (.b (decide ¬(D7 a (A0 a b).1).2=0)) }),(13,{ tell:=some (.b (false)) }),(17,{ val:=some (.b (decide ((A0 a b).1=(A0 b (D7 a b).1).1))),tell:=some (.b (false)) }),(25,{ tell:=some (.b (decide (¬(A0 a b).2=0∨¬(D7 a b).2=0∨¬(A0 b (D7 a b).1).2=0∨¬(D7 a (A0 a b).1).2=0∨¬(A0 a b).1=(A0 b (D7 a b).1).1∨¬(D7 a (A0 a b).1).1={ adds:=[],gone:={ vec:=[],cloud:=[]:Past },recs:=[]:Facts }))) })] [2,3,7,71] [2,3,7] ⟨(N4),(A3 h2),(N4),(A3 h3),(N4),(A3 h4),(N4),(A3 h5),(A3 h6),(Am7 ((A0 a b).1) ((A0 b (D7 a b).1).1) (by exact sj.1)),(by first | (simp only [eq_false h2,eq_false h3,eq_false h4,eq_false h5,eq_false h6,tsl];done) | simp_all)⟩ ?_
 exact⟨rfl,by kernel_rfl⟩
 refine rG cx [2,3,7,71] [2,3,7] (tN 1 ((A0 a b).2) (0:Int) (tT 2 (A3 h2) (tN 4 ((D7 a b).2) (0:Int) (tT 5 (A3 h3) (tN 8 ((A0 b (D7 a b).1).2) (0:Int) (tT 9 (A3 h4) (tN 12 ((D7 a (A0 a b).1).2) (0:Int) (tT 13 (A3 h5) (fT (Am7 ((A0 a b).1) ((A0 b (D7 a b).1).1) (by exact sj.1)) (tQ 18 ((A0 a b).1=(A0 b (D7 a b).1).1) (tT 19 (A3 h6) (fP (Con Tryz.prog (24:Nat) [AV.agg [AV.sl (List.map c45 (D7 a (A0 a b).1).1.adds),AV.sl (List.map c3 (D7 a (A0 a b).1).1.gone.vec),AV.sl (List.map B7 (D7 a (A0 a b).1).1.gone.cloud),AV.sl (List.map c81 (D7 a (A0 a b).1).1.recs)],AV.agg [AV.nl,AV.nl,AV.nl,AV.nl]] (AV.b (decide ((D7 a (A0 a b).1).1={ adds:=[],gone:={ vec:=[],cloud:=[]:Past },recs:=[]:Facts })))) (Con.le (Am7 ((D7 a (A0 a b).1).1) ({ adds:=[],gone:={ vec:=[],cloud:=[]:Past },recs:=[]:Facts }) (by exact(A9b ha).1)) (ZLe.cons (B8.refl _) (ZLe.cons (B8.agg (ZLe.cons B8.nl (ZLe.cons B8.nl (ZLe.cons B8.nl (ZLe.cons B8.nl ZLe.nil))))) ZLe.nil))) (tQ 24 ((D7 a (A0 a b).1).1={ adds:=[],gone:={ vec:=[],cloud:=[]:Past },recs:=[]:Facts }) (tT 25 (by first | (simp only [eq_false h2,eq_false h3,eq_false h4,eq_false h5,eq_false h6,tsl];done) | simp_all:AV.b (decide ¬(D7 a (A0 a b).1).1={ adds:=[],gone:={ vec:=[],cloud:=[]:Past },recs:=[]:Facts })=AV.b (decide (¬(A0 a b).2=0∨¬(D7 a b).2=0∨¬(A0 b (D7 a b).1).2=0∨¬(D7 a (A0 a b).1).2=0∨¬(A0 a b).1=(A0 b (D7 a b).1).1∨¬(D7 a (A0 a b).1).1={ adds:=[],gone:={ vec:=[],cloud:=[]:Past },recs:=[]:Facts }))) (oA 17 (.b (decide ((A0 a b).1=(A0 b (D7 a b).1).1))) (oA 23 (.b (decide ((D7 a (A0 a b).1).1={ adds:=[],gone:={ vec:=[],cloud:=[]:Past },recs:=[]:Facts }))) z0)))))))))))))))) ?_
 exact⟨rfl,by kernel_rfl⟩
 refine sn<|dC (¬(A0 a b).2=0∨¬(D7 a b).2=0∨¬(A0 b (D7 a b).1).2=0∨¬(D7 a (A0 a b).1).2=0∨¬(A0 a b).1=(A0 b (D7 a b).1).1∨¬(D7 a (A0 a b).1).1={ adds:=[],gone:={ vec:=[],cloud:=[]:Past },recs:=[]:Facts }) (fun h7=>?_) fun h7=>?_
 refine sq<|rG cx [4] [] z0<|sn<|rT<|nR<|qR (.b (false)) (.eq ?g13);rotate_left
 refine sK<|sn<|sq<|rG cx [2,3,7,13,8] [2,3,7] (fT (Am4 (a) (b) (by exact ga) (by exact gb)) (oA 2 (.tup [.b ((A8 a b).1),.i .i64 ((A8 a b).2)]) z0)) ?_
 refine sn<|sq<|rG cx [2,3,7,13,8,14,10] [2,3,7] (fT (Am4 (b) (a) (by exact gb) (by exact ga)) (oA 2 (.tup [.b ((A8 b a).1),.i .i64 ((A8 b a).2)]) z0)) ?_
 refine sn<|sq<|rG cx [7,13,8,14,10,15,12] [7] (fT (con15 (a) (b) (by exact ga) (by exact gb)) (oA 2 (.tup [.i .i64 ((E7 a b).1),.i .i64 ((E7 a b).2)]) z0)) ?_
 refine sn<|sq<|sq<|B4 (σ':=⟨[(7,.ptr (7) (0) (0) (0)),(13,.b ((A8 a b).1)),(14,.b ((A8 b a).1)),(15,.i .i64 ((E7 a b).1)),(99,.b (decide (¬(A8 a b).2=0∨¬(A8 b a).2=0∨¬(E7 a b).2=0)))],[(7,⟨0,29,.var [.sl (List.map c45 (D7 a b).1.adds),.sl (List.map c3 (D7 a b).1.gone.vec),.sl (List.map B7 (D7 a b).1.gone.cloud),.sl (List.map c81 (D7 a b).1.recs)]⟩)]⟩) ?_ ?_
 refine A4 (¬(A8 a b).2=0) (fun h_9=>?_) (fun h_9=>?_)
 refine rG cx [7,13,14,15,99] [7] (tT 1 (C4 h_9:AV.b ((A8 a b).2 !=0)=AV.b true) (tD 9 true (¬(A8 a b).2=0∨¬(A8 b a).2=0∨¬(E7 a b).2=0) (by simp only [eq_false h_9,tsl]) z0)) ?_
 exact⟨rfl,by kernel_rfl⟩
 refine A4 (¬(A8 b a).2=0) (fun h_10=>?_) (fun h_10=>?_)
 refine rG cx [7,13,14,15,99] [7] (tN 1 ((A8 a b).2) (0:Int) (tT 2 (A3 h_9) (tT 4 (C4 h_10:AV.b ((A8 b a).2 !=0)=AV.b true) (tT 9 (by first | (simp only [eq_false h_9,eq_false h_10,tsl];done) | simp_all:AV.b true=AV.b (decide (¬(A8 a b).2=0∨¬(A8 b a).2=0∨¬(E7 a b).2=0))) z0)))) ?_
 exact⟨rfl,by kernel_rfl⟩
 refine rG cx [7,13,14,15,99] [7] (tN 1 ((A8 a b).2) (0:Int) (tT 2 (A3 h_9) (tN 4 ((A8 b a).2) (0:Int) (tT 5 (A3 h_10) (tN 8 ((E7 a b).2) (0:Int) (tT 9 (by first | (simp only [eq_false h_9,eq_false h_10,tsl];done) | simp_all:AV.b (decide ¬(E7 a b).2=0)=AV.b (decide (¬(A8 a b).2=0∨¬(A8 b a).2=0∨¬(E7 a b).2=0))) z0)))))) ?_
 exact⟨rfl,by kernel_rfl⟩
 refine sn<|dC (¬(A8 a b).2=0∨¬(A8 b a).2=0∨¬(E7 a b).2=0) (fun h11=>?_) fun h11=>?_
 refine sq<|rG cx [4] [] z0<|sn<|rT<|nR<|qR (.b (false)) (.eq ?g20);rotate_left
 refine sK<|sn<|sq<|sq<|rG cx [13,14,15,104] [] (fP (Con Tryz.prog (24:Nat) [AV.agg [AV.sl (List.map c45 (D7 a b).1.adds),AV.sl (List.map c3 (D7 a b).1.gone.vec),AV.sl (List.map B7 (D7 a b).1.gone.cloud),AV.sl (List.map c81 (D7 a b).1.recs)],AV.agg [AV.nl,AV.nl,AV.nl,AV.nl]] (AV.b (decide ((D7 a b).1={ adds:=[],gone:={ vec:=[],cloud:=[]:Past },recs:=[]:Facts })))) (Con.le (Am7 ((D7 a b).1) ({ adds:=[],gone:={ vec:=[],cloud:=[]:Past },recs:=[]:Facts }) (by exact(A9b ha).1)) (ZLe.cons (B8.refl _) (ZLe.cons (B8.agg (ZLe.cons B8.nl (ZLe.cons B8.nl (ZLe.cons B8.nl (ZLe.cons B8.nl ZLe.nil))))) ZLe.nil))) (tT 4 (A7r:(AV.b !(A8 a b).1 == decide ((D7 a b).1={ adds:=[],gone:={ vec:=[],cloud:=[]:Past },recs:=[]:Facts }))=AV.b (decide ¬(A8 a b).1=decide ((D7 a b).1={ adds:=[],gone:={ vec:=[],cloud:=[]:Past },recs:=[]:Facts }))) (oA 3 (.b (decide ((D7 a b).1={ adds:=[],gone:={ vec:=[],cloud:=[]:Past },recs:=[]:Facts }))) z0))) ?_
 refine sn<|dC (¬(A8 a b).1=decide ((D7 a b).1={ adds:=[],gone:={ vec:=[],cloud:=[]:Past },recs:=[]:Facts })) (fun h12=>?_) fun h12=>?_
 refine sq<|rG cx [4] [] z0<|sn<|rT<|nR<|qR (.b (false)) (.eq ?g22);rotate_left
 refine sK<|sn<|sq<|B4 (σ':=⟨[(4,.b (decide ((A8 a b).1=true∧decide ((E7 a b).1=0)=(A8 b a).1∧decide ((E7 a b).1=1)=decide ¬(A8 b a).1=true∧decide ((E7 a b).1=2)=false∨¬(A8 a b).1=true∧decide ((E7 a b).1=0)=false∧decide ((E7 a b).1=1)=false∧decide ((E7 a b).1=2)=(A8 b a).1)))],[]⟩) ?_ ?_
 refine A4 ((A8 a b).1=true) (fun h_14=>?_) (fun h_14=>?_)
 refine A4 (decide ((E7 a b).1=0)=(A8 b a).1) (fun h_15=>?_) (fun h_15=>?_)
 refine A4 (decide ((E7 a b).1=1)=decide ¬(A8 b a).1=true) (fun h_16=>?_) (fun h_16=>?_)
 refine rG cx [4] [] (tB 1 ((E7 a b).1=0) (tT 2 (I7 h_14) (tT 6 (U6 h_15:AV.b (decide ((E7 a b).1=0) ==(A8 b a).1)=AV.b true) (tB 9 ((E7 a b).1=1) (tT 10 (I7 h_14) (tO 13 ((A8 b a).1) (tT 15 (U6 h_16:AV.b (decide ((E7 a b).1=1) == decide ¬(A8 b a).1=true)=AV.b true) (tB 19 ((E7 a b).1=2) (tT 20 (I7 h_14) (tT 25 (A07:AV.b (decide ((E7 a b).1=2) == false)=AV.b (decide (decide ((E7 a b).1=2)=false))) (tD 27 (decide (decide ((E7 a b).1=2)=false)) ((A8 a b).1=true∧decide ((E7 a b).1=0)=(A8 b a).1∧decide ((E7 a b).1=1)=decide ¬(A8 b a).1=true∧decide ((E7 a b).1=2)=false∨¬(A8 a b).1=true∧decide ((E7 a b).1=0)=false∧decide ((E7 a b).1=1)=false∧decide ((E7 a b).1=2)=(A8 b a).1) (by simp only [eq_true h_14,eq_true h_15,eq_true h_16,tsl]) z0))))))))))) ?_
 exact⟨rfl,by kernel_rfl⟩
 refine rG cx [4] [] (tB 1 ((E7 a b).1=0) (tT 2 (I7 h_14) (tT 6 (U6 h_15:AV.b (decide ((E7 a b).1=0) ==(A8 b a).1)=AV.b true) (tB 9 ((E7 a b).1=1) (tT 10 (I7 h_14) (tO 13 ((A8 b a).1) (tT 15 (A1j h_16:AV.b (decide ((E7 a b).1=1) == decide ¬(A8 b a).1=true)=AV.b false) (tD 27 false ((A8 a b).1=true∧decide ((E7 a b).1=0)=(A8 b a).1∧decide ((E7 a b).1=1)=decide ¬(A8 b a).1=true∧decide ((E7 a b).1=2)=false∨¬(A8 a b).1=true∧decide ((E7 a b).1=0)=false∧decide ((E7 a b).1=1)=false∧decide ((E7 a b).1=2)=(A8 b a).1) (by simp only [eq_true h_14,eq_true h_15,eq_false h_16,tsl]) z0)))))))) ?_
 exact⟨rfl,by kernel_rfl⟩
 refine rG cx [4] [] (tB 1 ((E7 a b).1=0) (tT 2 (I7 h_14) (tT 6 (A1j h_15:AV.b (decide ((E7 a b).1=0) ==(A8 b a).1)=AV.b false) (tD 27 false ((A8 a b).1=true∧decide ((E7 a b).1=0)=(A8 b a).1∧decide ((E7 a b).1=1)=decide ¬(A8 b a).1=true∧decide ((E7 a b).1=2)=false∨¬(A8 a b).1=true∧decide ((E7 a b).1=0)=false∧decide ((E7 a b).1=1)=false∧decide ((E7 a b).1=2)=(A8 b a).1) (by simp only [eq_true h_14,eq_false h_15,tsl]) z0)))) ?_
 exact⟨rfl,by kernel_rfl⟩
 refine A4 (decide ((E7 a b).1=0)=false) (fun h_17=>?_) (fun h_17=>?_)
 refine A4 (decide ((E7 a b).1=1)=false) (fun h_18=>?_) (fun h_18=>?_)
 refine rG cx [4] [] (tB 1 ((E7 a b).1=0) (tT 2 (F4 h_14:AV.b (A8 a b).1=AV.b false) (tT 6 (U6 h_17:AV.b (decide ((E7 a b).1=0) == false)=AV.b true) (tB 9 ((E7 a b).1=1) (tT 10 (F4 h_14:AV.b (A8 a b).1=AV.b false) (tT 15 (U6 h_18:AV.b (decide ((E7 a b).1=1) == false)=AV.b true) (tB 19 ((E7 a b).1=2) (tT 20 (F4 h_14:AV.b (A8 a b).1=AV.b false) (tT 25 (A07:AV.b (decide ((E7 a b).1=2) ==(A8 b a).1)=AV.b (decide (decide ((E7 a b).1=2)=(A8 b a).1))) (tD 27 (decide (decide ((E7 a b).1=2)=(A8 b a).1)) ((A8 a b).1=true∧decide ((E7 a b).1=0)=(A8 b a).1∧decide ((E7 a b).1=1)=decide ¬(A8 b a).1=true∧decide ((E7 a b).1=2)=false∨¬(A8 a b).1=true∧decide ((E7 a b).1=0)=false∧decide ((E7 a b).1=1)=false∧decide ((E7 a b).1=2)=(A8 b a).1) (by simp only [eq_false h_14,eq_true h_17,eq_true h_18,tsl]) z0)))))))))) ?_
 exact⟨rfl,by kernel_rfl⟩
 refine rG cx [4] [] (tB 1 ((E7 a b).1=0) (tT 2 (F4 h_14:AV.b (A8 a b).1=AV.b false) (tT 6 (U6 h_17:AV.b (decide ((E7 a b).1=0) == false)=AV.b true) (tB 9 ((E7 a b).1=1) (tT 10 (F4 h_14:AV.b (A8 a b).1=AV.b false) (tT 15 (A1j h_18:AV.b (decide ((E7 a b).1=1) == false)=AV.b false) (tD 27 false ((A8 a b).1=true∧decide ((E7 a b).1=0)=(A8 b a).1∧decide ((E7 a b).1=1)=decide ¬(A8 b a).1=true∧decide ((E7 a b).1=2)=false∨¬(A8 a b).1=true∧decide ((E7 a b).1=0)=false∧decide ((E7 a b).1=1)=false∧decide ((E7 a b).1=2)=(A8 b a).1) (by simp only [eq_false h_14,eq_true h_17,eq_false h_18,tsl]) z0))))))) ?_
 exact⟨rfl,by kernel_rfl⟩
 refine rG cx [4] [] (tB 1 ((E7 a b).1=0) (tT 2 (F4 h_14:AV.b (A8 a b).1=AV.b false) (tT 6 (A1j h_17:AV.b (decide ((E7 a b).1=0) == false)=AV.b false) (tD 27 false ((A8 a b).1=true∧decide ((E7 a b).1=0)=(A8 b a).1∧decide ((E7 a b).1=1)=decide ¬(A8 b a).1=true∧decide ((E7 a b).1=2)=false∨¬(A8 a b).1=true∧decide ((E7 a b).1=0)=false∧decide ((E7 a b).1=1)=false∧decide ((E7 a b).1=2)=(A8 b a).1) (by simp only [eq_false h_14,eq_false h_17,tsl]) z0)))) ?_
 exact⟨rfl,by kernel_rfl⟩
 refine sn<|rT<|qR (.b (decide ((A8 a b).1=true∧decide ((E7 a b).1=0)=(A8 b a).1∧decide ((E7 a b).1=1)=decide ¬(A8 b a).1=true∧decide ((E7 a b).1=2)=false∨¬(A8 a b).1=true∧decide ((E7 a b).1=0)=false∧decide ((E7 a b).1=1)=false∧decide ((E7 a b).1=2)=(A8 b a).1))) (.eq ?g23);rotate_left
 case g13 =>
  have g:=B4u (W h0)
  rw[J h0,L h0,(E0 g.1).1,g.2,B4v (W h0).1 (E0 (W h0)).2.1,B4w (W h0)]at h7
  rcases h7 with h7 | h7 | h7 | h7 | h7 | h7 <;> exact absurd rfl h7
 case g20 =>
  rw[A01 (W h0).1 (W h0).2.1,A01 (W h0).2.1 (W h0).1,Aw5 (W h0).1 (W h0).2.1]at h11
  rcases h11 with h11 | h11 | h11 <;> exact absurd rfl h11
 case g22 =>
  rw[A01 (W h0).1 (W h0).2.1,L h0]at h12
  refine absurd ?_ h12
  show I9 (D2 a b)=decide (D2 a b=zeroF)
  rw[Bool.eq_iff_iff,decide_eq_true_iff]
  exact Ag4 (Ao0 (W h0).1)
 case g23 =>
  rw[A01 (W h0).1 (W h0).2.1,A01 (W h0).2.1 (W h0).1,Aw5 (W h0).1 (W h0).2.1]
  exact congrArg AV.b (decide_eq_true (B8u _ _))
end Go.Proofs.YtaiepnaokhpmcaaGreat
namespace Go.Proofs.YtaiepnaokhpmcaaGreat
open Go.E Go.ChangeShapes Go.WideShapes Go.ChangeAt Go.RowKit
set_option maxRecDepth 100000
theorem law12  {a1:AV}(h1:TyA tab 1048576 9 29 a1){a2:AV}(h2:TyA tab 1048576 9 29 a2):Con Tryz.prog 12 [a1,a2] (.b true):=by
 obtain⟨x1,rfl,k1⟩:=B8t h1
 obtain⟨x2,rfl,k2⟩:=B8t h2
 exact con12 x1 x2 (A9c k1) (A9c k2)
theorem TombRests_lifted(os:Os)(started:os.Started)(H:Type)(enc:TypeId×Value→H)(F:Stop.Interp) :
  ReturnsInHanded {} Tryz.checked os 12 .any ((Rows.OpenSpec.upto Rows.tombRestsSpec).pre6 enc Tryz.prog Tryz.f12 Rows.tombRestsUptoRow.domain false) (((Rows.OpenSpec.upto Rows.tombRestsSpec).at F).post enc Tryz.prog Tryz.f12 false true false false):=by
 refine M4 (C:=Tryz.checked) (s:=Rows.tombRestsSpec) (k:=Rows.uptoSmall) F [29,29] 4 1048576 9 rfl (fun ds=>A0m ds) B1 Tryz.laidOut Tryz.own started (by kernel_rfl) Tryz.func12 rfl rfl (by kernel_rfl) (by kernel_rfl) rfl ?_
  (OpenSpec.witness (enc:=enc) (C:=Tryz.checked) (s:=Rows.OpenSpec.upto Rows.tombRestsSpec) (k:=Rows.uptoSmall) rfl false ⟨#[],#[.agg #[.slice none 0 0,.slice none 0 0,.slice none 0 0,.slice none 0 0],.agg #[.slice none 0 0,.slice none 0 0,.slice none 0 0,.slice none 0 0]],[]⟩ 8 (by kernel_rfl) (by kernel_rfl) (by kernel_rfl)
   (x:=([.agg [.nil,.agg [.nil,.nil],.nil],.agg [.nil,.agg [.nil,.nil],.nil]],[],[])) (by kernel_rfl) rfl (by kernel_rfl)) ?_
 ·intro ds hds
  rcases ds with _ | ⟨d1,_ | ⟨d2,_ | ⟨d3,l⟩⟩⟩
  ·exact absurd hds (by simp)
  ·exact absurd hds (by simp)
  ·kernel_rfl
  ·exact absurd hds (by simp)
 ·intro avs h
  rcases avs with _ | ⟨a1,_ | ⟨a2,_ | ⟨a3,l⟩⟩⟩
  ·exact h.elim
  ·exact h.2.elim
  ·exact law12 h.1 h.2.1
  ·exact h.2.2.elim
theorem TombRests_j1:Rows.tombRestsUptoRow.inPlace=Tryz.prog.inPlace 12:=by kernel_rfl
theorem TombRests_j2:Rows.tombRestsUptoRow.unfollowed=Tryz.prog.unfollowed 12:=by kernel_rfl
theorem TombRests_j3:Rows.tombRestsUptoRow.recurses=Tryz.prog.recurses 12:=by kernel_rfl
theorem TombRests_j4:Rows.tombRestsUptoRow.named=Tryz.prog.varsNamed 12:=by kernel_rfl
theorem TombRests_j5:Rows.tombRestsUptoRow.plainKeys=Tryz.prog.plainKeys:=by kernel_rfl
theorem TombRests_j6:Rows.tombRestsUptoRow.lifted=Tryz.prog.liftsFinal:=by kernel_rfl
theorem TombRests_j7:Tryz.prog.funcNamed Rows.tombRestsUptoRow.func=some 12:=by kernel_rfl
theorem TombRests_joined:Go.joinedFacts Tryz.prog 12 Tryz.f12 (Rows.OpenSpec.upto Rows.tombRestsSpec).bare Rows.tombRestsUptoRow=true:=by
 unfold Go.joinedFacts
 rw[Tryz.laidOut,Tryz.rowedM,Tryz.stopsH,Tryz.mayE,← TombRests_j1,← TombRests_j2,← TombRests_j3,← TombRests_j4,← TombRests_j5,← TombRests_j6]
 kernel_rfl
theorem TombRests_holds:Rows.TombRestsUptoSaid :=
 OpenClaim.holds_of_cond 12 Tryz.f12 rfl rfl rfl rfl rfl rfl rfl ⟨rfl,rfl,rfl,rfl,rfl⟩ rfl rfl rfl rfl rfl TombRests_j7 Tryz.func12 TombRests_joined
  (of_decide_eq_true (by kernel_rfl)) (by unfold Func.isWrapper;first | (rw[if_pos (by decide +kernel)];kernel_rfl) | (rw[if_neg (by decide +kernel)];exact⟨rfl,rfl⟩))
  (fun os started H enc _ F=>TombRests_lifted os started H enc F)
end Go.Proofs.YtaiepnaokhpmcaaGreat
namespace Go.Proofs.YtaiepnaokhpmcaaGreat
open Go.E
set_option maxRecDepth 100000
set_option maxHeartbeats 4000000
def A32(a b:Facts)(x1:List Entry)(x2:List Int)(x3:List Span)(x4:List Record)(y1:List Entry)(y2:List Int)(y3:List Span)(y4:List Record):Prop:=x1=a.adds∧x2=a.gone.vec∧x3=a.gone.cloud∧x4=a.recs∧y1=b.adds∧y2=b.gone.vec∧y3=b.gone.cloud∧y4=b.recs
def Bm3(a b:Facts)(i:Int)(x1:List Entry)(x2:List Int)(x3:List Span)(x4:List Record)(y1:List Entry)(y2:List Int)(y3:List Span)(y4:List Record)(ss:List (List Entry)):Prop:=A32 a b x1 x2 x3 x4 y1 y2 y3 y4∧ss=[a.adds,b.adds]∧0≤i∧i≤2
def decL0(i:Int)(x1:List Entry)(x2:List Int)(x3:List Span)(x4:List Record)(y1:List Entry)(y2:List Int)(y3:List Span)(y4:List Record)(ss:List (List Entry)):Nat:=(2-i).toNat
def A5v(a b:Facts)(i:Int):List Entry:=[a.adds,b.adds][i.toNat]!
def B8v(a b:Facts)(i0 i:Int)(x1:List Entry)(x2:List Int)(x3:List Span)(x4:List Record)(y1:List Entry)(y2:List Int)(y3:List Span)(y4:List Record)(ss:List (List Entry)):Prop:=A32 a b x1 x2 x3 x4 y1 y2 y3 y4∧ss=[a.adds,b.adds]∧0≤i∧i≤(A5v a b i0).length
def decL1(a b:Facts)(i0 i:Int)(x1:List Entry)(x2:List Int)(x3:List Span)(x4:List Record)(y1:List Entry)(y2:List Int)(y3:List Span)(y4:List Record)(ss:List (List Entry)):Nat:=((A5v a b i0).length-i).toNat
def Bm4(a b:Facts)(n i:Int)(x1:List Entry)(x2:List Int)(x3:List Span)(x4:List Record):Prop:=x1=a.adds∧0≤i∧i≤n
def decL2(n i:Int)(x1:List Entry)(x2:List Int)(x3:List Span)(x4:List Record):Nat:=(n-i).toNat
def Bm5(n i:Int):Prop:=0≤i∧i≤n
def decL3(n i:Int):Nat:=(n-i).toNat
theorem Aw6{a b:Facts}{x1:List Entry}{x2:List Int}{x3:List Span}{x4:List Record}{y1:List Entry}{y2:List Int}{y3:List Span}{y4:List Record}(h:A32 a b x1 x2 x3 x4 y1 y2 y3 y4):(⟨x1,⟨x2,x3⟩,x4⟩:Facts)=a:=by
 obtain⟨e1,e2,e3,e4,_⟩:=h
 rw[e1,e2,e3,e4]
theorem Ba9{a b:Facts}{x1:List Entry}{x2:List Int}{x3:List Span}{x4:List Record}{y1:List Entry}{y2:List Int}{y3:List Span}{y4:List Record}(h:A32 a b x1 x2 x3 x4 y1 y2 y3 y4):(⟨y1,⟨y2,y3⟩,y4⟩:Facts)=b:=by
 obtain⟨_,_,_,_,e1,e2,e3,e4⟩:=h
 rw[e1,e2,e3,e4]
theorem A5s{l:List Entry}{e:Entry}:O2 l e=true↔e∈l:=by unfold O2;rw[decide_eq_true_iff]
theorem Aw7{f:Facts}{e:Entry}:¬ A5u f e=true↔C5 f.gone e.dot=false∧G3 f.recs e=0:=by
 unfold A5u
 have hn:0≤G3 f.recs e:=by unfold G3;omega
 rw[Bool.or_eq_true,decide_eq_true_iff]
 constructor
 ·intro h
  exact⟨Bool.eq_false_iff.2 fun k=>h (.inl k),by have:¬ 0 < G3 f.recs e:=fun k=>h (.inr k);omega⟩
 ·rintro⟨h1,h2⟩ (k | k)
  ·rw[h1]at k;cases k
  ·omega
theorem A9e{f:Facts}(h:okF f=true){e:Entry}:e∈(A7 f).1↔e∈f.adds∧¬ A5u f e=true:=by
 rw[Y2 h,Aw7]
 exact Aw1
theorem B8w{a b:Facts}(h:agF a b){e:Entry}:¬ A5u (I6 a b) e=true↔¬ A5u a e=true∧¬ A5u b e=true:=by
 obtain⟨_,o1,p1,q1,r1⟩:=E0 h
 rw[Aw7,Aw7,Aw7,q1,Bool.or_eq_false_iff,Z9,Z9,Z9]
 constructor
 ·rintro⟨⟨k1,k2⟩,k3⟩
  exact⟨⟨k1,fun⟨r,hr,c⟩=>k3 ⟨r,(r1 r).2 (.inl hr),c⟩⟩,⟨k2,fun⟨r,hr,c⟩=>k3 ⟨r,(r1 r).2 (.inr hr),c⟩⟩⟩
 ·rintro⟨⟨k1,k2⟩,k3,k4⟩
  exact⟨⟨k1,k3⟩,fun⟨r,hr,c⟩=>((r1 r).1 hr).elim (fun m=>k2 ⟨r,m,c⟩) (fun m=>k4 ⟨r,m,c⟩)⟩
theorem A2k{a b:Facts}(h:agF a b){e:Entry}:e∈(A7 (I6 a b)).1↔(e∈a.adds∨e∈b.adds)∧¬ A5u a e=true∧¬ A5u b e=true:=by
 obtain⟨_,o1,p1,q1,r1⟩:=E0 h
 rw[A9e o1,p1,B8w h]
theorem B8x{a b:Facts}{i j:Int}(h0:0≤i)(h1:i < 2)(j0:0≤j)(hj:j <(A5v a b i).length):(A5v a b i)[j.toNat]!∈a.adds∨(A5v a b i)[j.toNat]!∈b.adds:=by
 have hm:(A5v a b i)[j.toNat]!∈A5v a b i:=D6 (by omega)
 have e:i=0∨i=1:=by omega
 rcases e with e | e
 ·subst e;exact .inl hm
 ·subst e;exact .inr hm
theorem Aw8{a b:Facts}(h:agF a b){i:Int}(h0:0≤i)(h1:i < 2):(A5v a b i).length≤16000000000:=by
 have e:i=0∨i=1:=by omega
 rcases e with e | e
 ·subst e;exact R1 (L8 (E6.1 h.1).1)
 ·subst e;exact R1 (L8 (E6.1 h.2.1).1)
theorem con6(a b:Facts)(ha:szB 1 a)(hb:szB 1 b):Con Tryz.prog 6 [.agg (c29 a),.agg (c29 b)] (.b true) :=
 by
 have W:¬¬K3 a b=true→agF a b:=fun h=>A3w.1 (Classical.not_not.1 h)
 have J:∀ h:¬¬K3 a b=true,(A0 a b).1=I6 a b:=fun h=>by rw[(E0 (W h)).1]
 have la:∀ h:¬¬K3 a b=true,a.adds.length≤16000000000:=fun h=>R1 (L8 (E6.1 (W h).1).1)
 refine sC B1 [.tmp 4] 129 Tryz.func6 ?_
 intro e0 cx
 refine sq<|rG cx [2,3] [2,3] z0<|sn<|sq<|sq<|rG cx [2,3,22] [2,3] (fT (Bl8 ) (oA 0 (.b (true)) z0))<|sn<|W7 (by kernel_rfl) (by kernel_rfl)<|sK<|sn<|sq<|sq<|rG cx [2,3,26] [2,3] (fT (B8o (a) (b) (by exact ha.1) (by exact hb.1)) (tT 3 (D0:(AV.b !K3 a b)=AV.b (decide ¬K3 a b=true)) (oA 2 (.b (K3 a b)) z0))) ?_
 refine sn<|dC (¬K3 a b=true) (fun h0=>?_) fun h0=>?_
 refine sq<|rG cx [4] [] z0<|sn<|rT<|nR ?_
 exact A3f (r:=.b (true)) (obl:=[]) (by kernel_rfl) trivial (B8.refl _)
 refine sK<|sn<|sq<|rG cx [2,3,5,6] [2,3,5] (fT (Ag2 (a) (b) (by exact G1 ha (by decide)) (by exact G1 hb (by decide))) (oA 2 (.tup [.agg [.sl (List.map c45 (A0 a b).1.adds),.sl (List.map c3 (A0 a b).1.gone.vec),.sl (List.map B7 (A0 a b).1.gone.cloud),.sl (List.map c81 (A0 a b).1.recs)],.i .i64 ((A0 a b).2)]) z0)) ?_
 refine sn<|sq<|rG cx [2,3,6,7,8] [2,3] (fT (B4k ((A0 a b).1) (by exact G1 (Y3 ha hb) (by decide))) (oA 1 (.tup [.sl (List.map c45 (A7 (A0 a b).1).1),.i .i64 ((A7 (A0 a b).1).2)]) z0)) ?_
 refine sn<|sq<|rG cx [2,3,6,7,8,9,10] [2,3] (fT (B4k (a) (by exact G1 ha (by decide))) (oA 1 (.tup [.sl (List.map c45 (A7 a).1),.i .i64 ((A7 a).2)]) z0)) ?_
 refine sn<|sq<|rG cx [2,3,6,7,8,9,10,11,12] [2,3] (fT (B4k (b) (by exact G1 hb (by decide))) (oA 1 (.tup [.sl (List.map c45 (A7 b).1),.i .i64 ((A7 b).2)]) z0)) ?_
 refine sn<|sq<|sq<|B4 (σ':=⟨[(2,.ptr (2) (0) (0) (0)),(3,.ptr (3) (0) (0) (0)),(7,.sl (List.map c45 (A7 (A0 a b).1).1)),(9,.sl (List.map c45 (A7 a).1)),(11,.sl (List.map c45 (A7 b).1)),(61,.b (decide (¬(A0 a b).2=0∨¬(A7 (A0 a b).1).2=0∨¬(A7 a).2=0∨¬(A7 b).2=0)))],[(2,⟨0,29,.var [.sl (List.map c45 a.adds),.sl (List.map c3 a.gone.vec),.sl (List.map B7 a.gone.cloud),.sl (List.map c81 a.recs)]⟩),(3,⟨0,29,.var [.sl (List.map c45 b.adds),.sl (List.map c3 b.gone.vec),.sl (List.map B7 b.gone.cloud),.sl (List.map c81 b.recs)]⟩)]⟩) ?_ ?_
 refine A4 (¬(A0 a b).2=0) (fun h_2=>?_) (fun h_2=>?_)
 refine rG cx [2,3,7,9,11,61] [2,3] (tT 1 (C4 h_2:AV.b ((A0 a b).2 !=0)=AV.b true) (tD 13 true (¬(A0 a b).2=0∨¬(A7 (A0 a b).1).2=0∨¬(A7 a).2=0∨¬(A7 b).2=0) (by simp only [eq_false h_2,tsl]) z0)) ?_
 exact⟨rfl,by kernel_rfl⟩
 refine A4 (¬(A7 (A0 a b).1).2=0) (fun h_3=>?_) (fun h_3=>?_)
 refine rG cx [2,3,7,9,11,61] [2,3] (tN 1 ((A0 a b).2) (0:Int) (tT 2 (A3 h_2) (tT 4 (C4 h_3:AV.b ((A7 (A0 a b).1).2 !=0)=AV.b true) (tT 13 (by first | (simp only [eq_false h_2,eq_false h_3,tsl];done) | simp_all:AV.b true=AV.b (decide (¬(A0 a b).2=0∨¬(A7 (A0 a b).1).2=0∨¬(A7 a).2=0∨¬(A7 b).2=0))) z0)))) ?_
 exact⟨rfl,by kernel_rfl⟩
 refine A4 (¬(A7 a).2=0) (fun h_4=>?_) (fun h_4=>?_)
 refine rG cx [2,3,7,9,11,61] [2,3] (tN 1 ((A0 a b).2) (0:Int) (tT 2 (A3 h_2) (tN 4 ((A7 (A0 a b).1).2) (0:Int) (tT 5 (A3 h_3) (tT 8 (C4 h_4:AV.b ((A7 a).2 !=0)=AV.b true) (tT 13 (by first | (simp only [eq_false h_2,eq_false h_3,eq_false h_4,tsl];done) | simp_all:AV.b true=AV.b (decide (¬(A0 a b).2=0∨¬(A7 (A0 a b).1).2=0∨¬(A7 a).2=0∨¬(A7 b).2=0))) z0)))))) ?_
 exact⟨rfl,by kernel_rfl⟩
 refine rG cx [2,3,7,9,11,61] [2,3] (tN 1 ((A0 a b).2) (0:Int) (tT 2 (A3 h_2) (tN 4 ((A7 (A0 a b).1).2) (0:Int) (tT 5 (A3 h_3) (tN 8 ((A7 a).2) (0:Int) (tT 9 (A3 h_4) (tN 12 ((A7 b).2) (0:Int) (tT 13 (by first | (simp only [eq_false h_2,eq_false h_3,eq_false h_4,tsl];done) | simp_all:AV.b (decide ¬(A7 b).2=0)=AV.b (decide (¬(A0 a b).2=0∨¬(A7 (A0 a b).1).2=0∨¬(A7 a).2=0∨¬(A7 b).2=0))) z0)))))))) ?_
 exact⟨rfl,by kernel_rfl⟩
 refine sn<|dC (¬(A0 a b).2=0∨¬(A7 (A0 a b).1).2=0∨¬(A7 a).2=0∨¬(A7 b).2=0) (fun h5=>?_) fun h5=>?_
 refine sq<|rG cx [4] [] z0<|sn<|rT<|nR<|qR (.b (false)) (.eq ?g7);rotate_left
 refine sK<|sn<|sq<|sq<|rG cx [2,3,7,9,11,66,67,68] [2,3,66] z0<|sn<|bL 0<|sL (X:=Int×List Entry×List Int×List Span×List Record×List Entry×List Int×List Span×List Record×List (List Entry)) (fun x=>⟨[(2,.ptr (2) (0) (0) (0)),(3,.ptr (3) (0) (0) (0)),(7,.sl (List.map c45 (A7 (A0 a b).1).1)),(9,.sl (List.map c45 (A7 a).1)),(11,.sl (List.map c45 (A7 b).1)),(66,.own 66 0),(67,.i .i64 ((2:Int))),(68,.i .i64 (x.1))],[(2,⟨0,29,.var [.sl (List.map c45 x.2.1),.sl (List.map c3 x.2.2.1),.sl (List.map B7 x.2.2.2.1),.sl (List.map c81 x.2.2.2.2.1)]⟩),(3,⟨0,29,.var [.sl (List.map c45 x.2.2.2.2.2.1),.sl (List.map c3 x.2.2.2.2.2.2.1),.sl (List.map B7 x.2.2.2.2.2.2.2.1),.sl (List.map c81 x.2.2.2.2.2.2.2.2.1)]⟩),(66,⟨0,22,.row 1 (List.map c22 x.2.2.2.2.2.2.2.2.2)⟩)]⟩) (fun x ↦ decL0 x.1 x.2.1 x.2.2.1 x.2.2.2.1 x.2.2.2.2.1 x.2.2.2.2.2.1 x.2.2.2.2.2.2.1 x.2.2.2.2.2.2.2.1 x.2.2.2.2.2.2.2.2.1 x.2.2.2.2.2.2.2.2.2) (fun x ↦ Bm3 a b x.1 x.2.1 x.2.2.1 x.2.2.2.1 x.2.2.2.2.1 x.2.2.2.2.2.1 x.2.2.2.2.2.2.1 x.2.2.2.2.2.2.2.1 x.2.2.2.2.2.2.2.2.1 x.2.2.2.2.2.2.2.2.2) [2,3,7,9,11,66,67,68] [2,3,66] (((0:Int),a.adds,a.gone.vec,a.gone.cloud,a.recs,b.adds,b.gone.vec,b.gone.cloud,b.recs,[a.adds,b.adds])) (show Bm3 a b (0:Int) a.adds a.gone.vec a.gone.cloud a.recs b.adds b.gone.vec b.gone.cloud b.recs [a.adds,b.adds]from(by exact⟨⟨rfl,rfl,rfl,rfl,rfl,rfl,rfl,rfl⟩,rfl,by omega,by omega⟩)) ?_
 rintro⟨i6,x7,x8,x9,x10,y11,y12,y13,y14,s15⟩ h_16
 obtain⟨h17,h18,h19,h20⟩:A32 a b x7 x8 x9 x10 y11 y12 y13 y14∧s15=[a.adds,b.adds]∧0≤i6∧i6≤2:=h_16
 refine rE cx [2,3,7,9,11,66,67,68,69] [2,3,66] (zB 0 (i6 <(2:Int))) (fun h21=>?_) fun h21=>?_
 refine sK<|sn<|sq<|bL 1<|sq<|rG cx [2,3,7,9,11,66,67,68,14] [2,3,66] (fA (0≤i6) (fP (i6.toNat <(List.map c22 s15).length) (by rw[h18,List.length_map];show i6.toNat < 2;omega) (fR 1 (fP (E.rowAt { ver:=0,ty:=22,k:=BK.row (1) (List.map c22 s15):Blk } i6.toNat (c22 s15[i6.toNat]!)) (by subst h18;exact F7 (by show i6.toNat < 2;omega)) (oR 1 (c22 s15[i6.toNat]!) z0))))) ?_
 refine sn<|sq<|rG cx [2,3,7,9,11,66,67,68,72,73,74] [2,3,66] (tL 1 c45 s15[i6.toNat]! z0)<|sn<|bL 2<|sL (X:=Int×List Entry×List Int×List Span×List Record×List Entry×List Int×List Span×List Record×List (List Entry)) (fun x=>⟨[(2,.ptr (2) (0) (0) (0)),(3,.ptr (3) (0) (0) (0)),(7,.sl (List.map c45 (A7 (A0 a b).1).1)),(9,.sl (List.map c45 (A7 a).1)),(11,.sl (List.map c45 (A7 b).1)),(66,.own 66 0),(67,.i .i64 ((2:Int))),(68,.i .i64 (i6)),(72,.sl (List.map c45 s15[i6.toNat]!)),(73,.i .i64 ((↑s15[i6.toNat]!.length:Int))),(74,.i .i64 (x.1))],[(2,⟨0,29,.var [.sl (List.map c45 x.2.1),.sl (List.map c3 x.2.2.1),.sl (List.map B7 x.2.2.2.1),.sl (List.map c81 x.2.2.2.2.1)]⟩),(3,⟨0,29,.var [.sl (List.map c45 x.2.2.2.2.2.1),.sl (List.map c3 x.2.2.2.2.2.2.1),.sl (List.map B7 x.2.2.2.2.2.2.2.1),.sl (List.map c81 x.2.2.2.2.2.2.2.2.1)]⟩),(66,⟨0,22,.row 1 (List.map c22 x.2.2.2.2.2.2.2.2.2)⟩)]⟩) (fun x ↦ decL1 a b i6 x.1 x.2.1 x.2.2.1 x.2.2.2.1 x.2.2.2.2.1 x.2.2.2.2.2.1 x.2.2.2.2.2.2.1 x.2.2.2.2.2.2.2.1 x.2.2.2.2.2.2.2.2.1 x.2.2.2.2.2.2.2.2.2) (fun x ↦ B8v a b i6 x.1 x.2.1 x.2.2.1 x.2.2.2.1 x.2.2.2.2.1 x.2.2.2.2.2.1 x.2.2.2.2.2.2.1 x.2.2.2.2.2.2.2.1 x.2.2.2.2.2.2.2.2.1 x.2.2.2.2.2.2.2.2.2) [2,3,7,9,11,66,67,68,72,73,74] [2,3,66] (((0:Int),x7,x8,x9,x10,y11,y12,y13,y14,s15)) (show B8v a b i6 (0:Int) x7 x8 x9 x10 y11 y12 y13 y14 s15 from(by exact⟨h17,h18,by omega,by omega⟩)) ?_
 rintro⟨i22,x23,x24,x25,x26,y27,y28,y29,y30,s31⟩ h_32
 obtain⟨h33,h34,h35,h36⟩:A32 a b x23 x24 x25 x26 y27 y28 y29 y30∧s31=[a.adds,b.adds]∧0≤i22∧i22≤(↑(A5v a b i6).length:Int):=h_32
 refine rE cx [2,3,7,9,11,66,67,68,72,73,74,75] [2,3,66] (zB 0 (i22 <(↑s15[i6.toNat]!.length:Int))) (fun h37=>?_) fun h37=>?_
 refine sK<|sn<|sq<|bL 3<|sq<|rG cx [2,3,7,9,11,66,67,68,72,73,74,16] [2,3,66,16] (fA (0≤i22) (fG c45 s15[i6.toNat]! i22.toNat (fR 4 (fN 4 4 (oR 0 (c45 s15[i6.toNat]![i22.toNat]!) z0)))))<|sn<|sq<|A4 (A5u { adds:=x23,gone:={ vec:=x24,cloud:=x25:Past },recs:=x26:Facts } s15[i6.toNat]![i22.toNat]! = true) (fun h39=>?_) (fun h39=>?_)
 refine ra (A:=_∧_∧_∧(AV.b (O2 (A7 (A0 a b).1).1 s15[i6.toNat]![i22.toNat]! == true)=AV.b (decide (O2 (A7 (A0 a b).1).1 s15[i6.toNat]![i22.toNat]! = true)))) cx [(2,{ val:=some (.b (O2 (A7 (A0 a b).1).1 s15[i6.toNat]![i22.toNat]!)) }),(5,{ val:=some (.b (A5u { adds:=x23,gone:={ vec:=x24,cloud:=x25:Past },recs:=x26:Facts } s15[i6.toNat]![i22.toNat]!)),tell:=some (.b (true)) }),(11,{ tell:=some (.b (decide (O2 (A7 (A0 a b).1).1 s15[i6.toNat]![i22.toNat]! = true))) })] [2,3,7,9,11,66,67,68,72,73,74,89] [2,3,66] ⟨(Ag7 ((A7 (A0 a b).1).1) (s15[i6.toNat]![i22.toNat]!)),(I7 h39),(Bl9 ({ adds:=x23,gone:={ vec:=x24,cloud:=x25:Past },recs:=x26:Facts }) (s15[i6.toNat]![i22.toNat]!) (by rw[Aw6 h33];exact ha.1)),(A07)⟩ ?_
 refine sn<|dC (O2 (A7 (A0 a b).1).1 s15[i6.toNat]![i22.toNat]! = true) (fun h40=>?_) fun h40=>?_
 refine sq<|rG cx [4] [] z0<|sn<|rT<|bR<|nR<|nR<|bR<|bR<|nR<|nR<|bR<|nR<|qR (.b (false)) (.eq (by subst h18;rw[Aw6 h33]at h39;rw[J h0]at h40;exact absurd h39 ((A2k (W h0)).1 (A5s.1 h40)).2.1))
 refine sK<|bN<|sn<|rG cx [2,3,7,9,11,66,67,68,72,73,74] [2,3,66] (tT 0 (B6 (by omega) (by have:=Aw8 (W h0) h19 h21;omega):AV.i .i64 (IntKind.i64.wrap (i22+1))=AV.i .i64 (i22+1)) z0) ?_
 refine sn<|nX ((i22+1,x23,x24,x25,x26,y27,y28,y29,y30,s31)) (show((↑(A5v a b i6).length:Int)-(i22+1)).toNat <((↑(A5v a b i6).length:Int)-i22).toNat from(by subst h18;have h37:i22 <(A5v a b i6).length:=h37;omega)) (show B8v a b i6 (i22+1) x23 x24 x25 x26 y27 y28 y29 y30 s31 from(by subst h18;have h37:i22 <(A5v a b i6).length:=h37;exact⟨h33,h34,by omega,by omega⟩))
 refine ra (A:=_∧(AV.b (A5u { adds:=x23,gone:={ vec:=x24,cloud:=x25:Past },recs:=x26:Facts } s15[i6.toNat]![i22.toNat]!)=AV.b false)∧_∧_∧(AV.b (O2 (A7 (A0 a b).1).1 s15[i6.toNat]![i22.toNat]! == A5u { adds:=y27,gone:={ vec:=y28,cloud:=y29:Past },recs:=y30:Facts } s15[i6.toNat]![i22.toNat]!)=AV.b (decide (O2 (A7 (A0 a b).1).1 s15[i6.toNat]![i22.toNat]! = A5u { adds:=y27,gone:={ vec:=y28,cloud:=y29:Past },recs:=y30:Facts } s15[i6.toNat]![i22.toNat]!)))) cx [(2,{ val:=some (.b (O2 (A7 (A0 a b).1).1 s15[i6.toNat]![i22.toNat]!)) }),(5,{ val:=some (.b (A5u { adds:=x23,gone:={ vec:=x24,cloud:=x25:Past },recs:=x26:Facts } s15[i6.toNat]![i22.toNat]!)),tell:=some (.b (false)) }),(9,{ val:=some (.b (A5u { adds:=y27,gone:={ vec:=y28,cloud:=y29:Past },recs:=y30:Facts } s15[i6.toNat]![i22.toNat]!)) }),(11,{ tell:=some (.b (decide (O2 (A7 (A0 a b).1).1 s15[i6.toNat]![i22.toNat]! = A5u { adds:=y27,gone:={ vec:=y28,cloud:=y29:Past },recs:=y30:Facts } s15[i6.toNat]![i22.toNat]!))) })] [2,3,7,9,11,66,67,68,72,73,74,89] [2,3,66] ⟨(Ag7 ((A7 (A0 a b).1).1) (s15[i6.toNat]![i22.toNat]!)),(F4 h39),(Bl9 ({ adds:=x23,gone:={ vec:=x24,cloud:=x25:Past },recs:=x26:Facts }) (s15[i6.toNat]![i22.toNat]!) (by rw[Aw6 h33];exact ha.1)),(Bl9 ({ adds:=y27,gone:={ vec:=y28,cloud:=y29:Past },recs:=y30:Facts }) (s15[i6.toNat]![i22.toNat]!) (by rw[Ba9 h33];exact hb.1)),(A07)⟩ ?_
 refine sn<|dC (O2 (A7 (A0 a b).1).1 s15[i6.toNat]![i22.toNat]! = A5u { adds:=y27,gone:={ vec:=y28,cloud:=y29:Past },recs:=y30:Facts } s15[i6.toNat]![i22.toNat]!) (fun h41=>?_) fun h41=>?_
 refine sq<|rG cx [4] [] z0<|sn<|rT<|bR<|nR<|nR<|bR<|bR<|nR<|nR<|bR<|nR<|qR (.b (false)) (.eq ?g19);rotate_left
 refine sK<|bN<|sn<|rG cx [2,3,7,9,11,66,67,68,72,73,74] [2,3,66] (tT 0 (B6 (by omega) (by have:=Aw8 (W h0) h19 h21;omega):AV.i .i64 (IntKind.i64.wrap (i22+1))=AV.i .i64 (i22+1)) z0) ?_
 refine sn<|nX ((i22+1,x23,x24,x25,x26,y27,y28,y29,y30,s31)) (show((↑(A5v a b i6).length:Int)-(i22+1)).toNat <((↑(A5v a b i6).length:Int)-i22).toNat from(by subst h18;have h37:i22 <(A5v a b i6).length:=h37;omega)) (show B8v a b i6 (i22+1) x23 x24 x25 x26 y27 y28 y29 y30 s31 from(by subst h18;have h37:i22 <(A5v a b i6).length:=h37;exact⟨h33,h34,by omega,by omega⟩))
 refine eX 2<|nE<|nE<|bH<|bN<|sn<|rG cx [2,3,7,9,11,66,67,68] [2,3,66] (tW 0 (i6+1) z0)<|sn<|nX ((i6+1,x23,x24,x25,x26,y27,y28,y29,y30,s31)) (show(2-(i6+1)).toNat <(2-i6).toNat from(by omega)) (show Bm3 a b (i6+1) x23 x24 x25 x26 y27 y28 y29 y30 s31 from(by exact⟨h33,h34,by omega,by omega⟩))
 refine eX 0<|nE<|nE<|bH<|sn<|sq<|sq<|rG cx [2,7,9,11,92,93,94] [2] (tL 1 c45 ((A7 (A0 a b).1).1) z0)<|sn<|bL 4<|sL (X:=Int×List Entry×List Int×List Span×List Record) (fun x=>⟨[(2,.ptr (2) (0) (0) (0)),(7,.sl (List.map c45 (A7 (A0 a b).1).1)),(9,.sl (List.map c45 (A7 a).1)),(11,.sl (List.map c45 (A7 b).1)),(92,.sl (List.map c45 (A7 (A0 a b).1).1)),(93,.i .i64 ((↑(A7 (A0 a b).1).1.length:Int))),(94,.i .i64 (x.1))],[(2,⟨0,29,.var [.sl (List.map c45 x.2.1),.sl (List.map c3 x.2.2.1),.sl (List.map B7 x.2.2.2.1),.sl (List.map c81 x.2.2.2.2)]⟩)]⟩) (fun x ↦ decL2 (↑(A7 (A0 a b).1).1.length:Int) x.1 x.2.1 x.2.2.1 x.2.2.2.1 x.2.2.2.2) (fun x ↦ Bm4 a b (↑(A7 (A0 a b).1).1.length:Int) x.1 x.2.1 x.2.2.1 x.2.2.2.1 x.2.2.2.2) [2,7,9,11,92,93,94] [2] (((0:Int),x7,x8,x9,x10)) (show Bm4 a b (↑(A7 (A0 a b).1).1.length:Int) (0:Int) x7 x8 x9 x10 from(by exact⟨h17.1,by omega,by omega⟩)) ?_
 rintro⟨i42,x43,x44,x45,x46⟩ h_47
 obtain⟨h48,h49,h50⟩:x43=a.adds∧0≤i42∧i42≤(↑(A7 (A0 a b).1).1.length:Int):=h_47
 refine rE cx [2,7,9,11,92,93,94,95] [2] (zB 0 (i42 <(↑(A7 (A0 a b).1).1.length:Int))) (fun h51=>?_) fun h51=>?_
 refine sK<|sn<|sq<|bL 5<|sq<|rG cx [2,7,9,11,92,93,94,18] [2,18] (fA (0≤i42) (fG c45 ((A7 (A0 a b).1).1) i42.toNat (fR 4 (fN 4 4 (oR 0 (c45 (A7 (A0 a b).1).1[i42.toNat]!) z0)))))<|sn<|sq<|B4 (σ':=⟨[(2,.ptr (2) (0) (0) (0)),(7,.sl (List.map c45 (A7 (A0 a b).1).1)),(9,.sl (List.map c45 (A7 a).1)),(11,.sl (List.map c45 (A7 b).1)),(92,.sl (List.map c45 (A7 (A0 a b).1).1)),(93,.i .i64 ((↑(A7 (A0 a b).1).1.length:Int))),(94,.i .i64 (i42)),(107,.b (decide (¬O2 (A7 a).1 (A7 (A0 a b).1).1[i42.toNat]! = true∧¬O2 (A7 b).1 (A7 (A0 a b).1).1[i42.toNat]! = true)))],[(2,⟨0,29,.var [.sl (List.map c45 x43),.sl (List.map c3 x44),.sl (List.map B7 x45),.sl (List.map c81 x46)]⟩)]⟩) ?_ ?_
 refine A4 (¬O2 (A7 a).1 (A7 (A0 a b).1).1[i42.toNat]! = true) (fun h_53=>?_) (fun h_53=>?_)
 refine rg (A:=_∧_∧_∧((AV.b !O2 (A7 b).1 (A7 (A0 a b).1).1[i42.toNat]!)=AV.b (decide ¬O2 (A7 b).1 (A7 (A0 a b).1).1[i42.toNat]! = true))∧(AV.b (decide ¬O2 (A7 b).1 (A7 (A0 a b).1).1[i42.toNat]! = true)=AV.b (decide (¬O2 (A7 a).1 (A7 (A0 a b).1).1[i42.toNat]! = true∧¬O2 (A7 b).1 (A7 (A0 a b).1).1[i42.toNat]! = true)))) cx [(2,{ val:=some (.b (O2 (A7 a).1 (A7 (A0 a b).1).1[i42.toNat]!)),tell:=some (.b (false)) }),(7,{ val:=some (.b (O2 (A7 b).1 (A7 (A0 a b).1).1[i42.toNat]!)) }),(8,{ tell:=some (.b (decide ¬O2 (A7 b).1 (A7 (A0 a b).1).1[i42.toNat]! = true)) }),(9,{ tell:=some (.b (decide (¬O2 (A7 a).1 (A7 (A0 a b).1).1[i42.toNat]! = true∧¬O2 (A7 b).1 (A7 (A0 a b).1).1[i42.toNat]! = true))) })] [2,7,9,11,92,93,94,107] [2] ⟨(F4 h_53),(Ag7 ((A7 a).1) ((A7 (A0 a b).1).1[i42.toNat]!)),(Ag7 ((A7 b).1) ((A7 (A0 a b).1).1[i42.toNat]!)),(D0),(by simp only [eq_false h_53,tsl])⟩ ?_
 exact⟨rfl,by kernel_rfl⟩
 refine rG cx [2,7,9,11,92,93,94,107] [2] (fT (Ag7 ((A7 a).1) ((A7 (A0 a b).1).1[i42.toNat]!)) (tT 3 (D0:(AV.b !O2 (A7 a).1 (A7 (A0 a b).1).1[i42.toNat]!)=AV.b (decide ¬O2 (A7 a).1 (A7 (A0 a b).1).1[i42.toNat]! = true)) (tT 4 (A3 h_53) (tT 9 (by first | (simp only [eq_false h_53,tsl];done) | simp_all:AV.b false=AV.b (decide (¬O2 (A7 a).1 (A7 (A0 a b).1).1[i42.toNat]! = true∧¬O2 (A7 b).1 (A7 (A0 a b).1).1[i42.toNat]! = true))) (oA 2 (.b (O2 (A7 a).1 (A7 (A0 a b).1).1[i42.toNat]!)) z0))))) ?_
 exact⟨rfl,by kernel_rfl⟩
 refine sn<|dC (¬O2 (A7 a).1 (A7 (A0 a b).1).1[i42.toNat]! = true∧¬O2 (A7 b).1 (A7 (A0 a b).1).1[i42.toNat]! = true) (fun h54=>?_) fun h54=>?_
 refine sq<|rG cx [4] [] z0<|sn<|rT<|bR<|nR<|nR<|bR<|nR<|qR (.b (false)) (.eq ?g25);rotate_left
 refine sK<|bN<|sn<|rG cx [2,7,9,11,92,93,94] [2] (tT 0 (B6 (by omega) (by have:=A9d (W h0);rw[J h0]at h51;omega):AV.i .i64 (IntKind.i64.wrap (i42+1))=AV.i .i64 (i42+1)) z0) ?_
 refine sn<|nX ((i42+1,x43,x44,x45,x46)) (show((↑(A7 (A0 a b).1).1.length:Int)-(i42+1)).toNat <((↑(A7 (A0 a b).1).1.length:Int)-i42).toNat from(by omega)) (show Bm4 a b (↑(A7 (A0 a b).1).1.length:Int) (i42+1) x43 x44 x45 x46 from(by exact⟨h48,by omega,by omega⟩))
 refine eX 4<|nE<|nE<|bH<|sn<|sq<|sq<|rG cx [7,9,110,111,112] [] (tL 2 c45 x43 z0)<|sn<|bL 6<|sL (X:=Int) (fun x=>⟨[(7,.sl (List.map c45 (A7 (A0 a b).1).1)),(9,.sl (List.map c45 (A7 a).1)),(110,.sl (List.map c45 x43)),(111,.i .i64 ((↑x43.length:Int))),(112,.i .i64 (x))],[]⟩) (fun x ↦ decL3 (↑a.adds.length:Int) x) (fun x ↦ Bm5 (↑a.adds.length:Int) x) [7,9,110,111,112] [] ((0:Int)) (show Bm5 (↑a.adds.length:Int) (0:Int)from(by exact⟨by omega,by omega⟩)) ?_
 intro i55 h_56
 obtain⟨h57,h58⟩:0≤i55∧i55≤(↑a.adds.length:Int):=h_56
 refine rE cx [7,9,110,111,112,113] [] (zB 0 (i55 <(↑x43.length:Int))) (fun h59=>?_) fun h59=>?_
 refine sK<|sn<|sq<|bL 7<|sq<|rG cx [7,9,110,111,112,20] [20] (fA (0≤i55) (fG c45 x43 i55.toNat (fR 4 (fN 4 4 (oR 0 (c45 x43[i55.toNat]!) z0)))))<|sn<|sq<|B4 (σ':=⟨[(7,.sl (List.map c45 (A7 (A0 a b).1).1)),(9,.sl (List.map c45 (A7 a).1)),(110,.sl (List.map c45 x43)),(111,.i .i64 ((↑x43.length:Int))),(112,.i .i64 (i55)),(124,.b (decide (¬O2 (A7 a).1 x43[i55.toNat]! = true∧O2 (A7 (A0 a b).1).1 x43[i55.toNat]! = true)))],[]⟩) ?_ ?_
 refine A4 (¬O2 (A7 a).1 x43[i55.toNat]! = true) (fun h_61=>?_) (fun h_61=>?_)
 refine rg (A:=_∧_∧_∧(AV.b (O2 (A7 (A0 a b).1).1 x43[i55.toNat]!)=AV.b (decide (¬O2 (A7 a).1 x43[i55.toNat]! = true∧O2 (A7 (A0 a b).1).1 x43[i55.toNat]! = true)))) cx [(2,{ val:=some (.b (O2 (A7 a).1 x43[i55.toNat]!)),tell:=some (.b (false)) }),(7,{ val:=some (.b (O2 (A7 (A0 a b).1).1 x43[i55.toNat]!)) }),(8,{ tell:=some (.b (decide (¬O2 (A7 a).1 x43[i55.toNat]! = true∧O2 (A7 (A0 a b).1).1 x43[i55.toNat]! = true))) })] [7,9,110,111,112,124] [] ⟨(F4 h_61),(Ag7 ((A7 a).1) (x43[i55.toNat]!)),(Ag7 ((A7 (A0 a b).1).1) (x43[i55.toNat]!)),(by simp only [eq_false h_61,tsl])⟩ ?_
 exact⟨rfl,by kernel_rfl⟩
 refine rG cx [7,9,110,111,112,124] [] (fT (Ag7 ((A7 a).1) (x43[i55.toNat]!)) (tT 3 (D0:(AV.b !O2 (A7 a).1 x43[i55.toNat]!)=AV.b (decide ¬O2 (A7 a).1 x43[i55.toNat]! = true)) (tT 4 (A3 h_61) (tT 8 (by first | (simp only [eq_false h_61,tsl];done) | simp_all:AV.b false=AV.b (decide (¬O2 (A7 a).1 x43[i55.toNat]! = true∧O2 (A7 (A0 a b).1).1 x43[i55.toNat]! = true))) (oA 2 (.b (O2 (A7 a).1 x43[i55.toNat]!)) z0))))) ?_
 exact⟨rfl,by kernel_rfl⟩
 refine sn<|dC (¬O2 (A7 a).1 x43[i55.toNat]! = true∧O2 (A7 (A0 a b).1).1 x43[i55.toNat]! = true) (fun h62=>?_) fun h62=>?_
 refine sq<|rG cx [4] [] z0<|sn<|rT<|bR<|nR<|nR<|bR<|nR<|qR (.b (false)) (.eq ?g29);rotate_left
 refine sK<|bN<|sn<|rG cx [7,9,110,111,112] [] (tT 0 (B6 (by omega) (by have:=la h0;omega):AV.i .i64 (IntKind.i64.wrap (i55+1))=AV.i .i64 (i55+1)) z0) ?_
 refine sn<|nX (i55+1) (show((↑a.adds.length:Int)-(i55+1)).toNat <((↑a.adds.length:Int)-i55).toNat from(by subst h48;omega)) (show Bm5 (↑a.adds.length:Int) (i55+1)from(by subst h48;exact⟨by omega,by omega⟩))
 refine eX 6<|nE<|nE<|bH<|sn<|sq<|rG cx [4] [] (fT (B7b ((A7 (A0 a b).1).1)) (tB 2 (E5 (A7 (A0 a b).1).1=0) (oA 1 (.i .i64 (E5 (A7 (A0 a b).1).1)) z0)))<|sn<|rT<|qR (.b (decide (E5 (A7 (A0 a b).1).1=0))) (.eq ?g33);rotate_left
 case g7 =>
  rw[J h0,(E0 (W h0)).1,Y2 (E0 (W h0)).2.1,Y2 (W h0).1,Y2 (W h0).2.1]at h5
  rcases h5 with h5 | h5 | h5 | h5 <;> exact absurd rfl h5
 case g19 =>
  subst h18
  rw[Aw6 h33]at h39
  rw[Ba9 h33,J h0]at h41
  have h37:i22 <(A5v a b i6).length:=h37
  have hm:=B8x (a:=a) (b:=b) h19 h21 h35 h37
  have h39:¬ A5u a (A5v a b i6)[i22.toNat]! = true:=h39
  have h41:O2 (A7 (I6 a b)).1 (A5v a b i6)[i22.toNat]! = A5u b (A5v a b i6)[i22.toNat]!:=h41
  by_cases c:A5u b (A5v a b i6)[i22.toNat]! = true
  ·rw[c]at h41
   exact absurd c ((A2k (W h0)).1 (A5s.1 h41)).2.2
  ·have:=A5s.2 ((A2k (W h0)).2 ⟨hm,h39,c⟩)
   rw[h41]at this
   exact absurd this c
 case g25 =>
  rw[J h0]at h51 h54
  have hm:(A7 (I6 a b)).1[i42.toNat]!∈(A7 (I6 a b)).1:=D6 (by omega)
  obtain⟨q1,q2,q3⟩:=(A2k (W h0)).1 hm
  rcases q1 with q1 | q1
  ·exact absurd (A5s.2 ((A9e (W h0).1).2 ⟨q1,q2⟩)) h54.1
  ·exact absurd (A5s.2 ((A9e (W h0).2.1).2 ⟨q1,q3⟩)) h54.2
 case g29 =>
  subst h48
  rw[J h0]at h62
  have hm:a.adds[i55.toNat]!∈a.adds:=D6 (by omega)
  exact absurd (A5s.2 ((A9e (W h0).1).2 ⟨hm,((A2k (W h0)).1 (A5s.1 h62.2)).2.1⟩)) h62.1
 case g33 =>
  have o:=(E0 (W h0)).2.1
  rw[J h0,Y2 o,(Y1 _).2 (Ag5 o)]
  rfl
end Go.Proofs.YtaiepnaokhpmcaaGreat
namespace Go.Proofs.YtaiepnaokhpmcaaGreat
open Go.E Go.ChangeShapes Go.WideShapes Go.ChangeAt Go.RowKit
set_option maxRecDepth 100000
theorem law6  {a1:AV}(h1:TyA tab 1048576 9 29 a1){a2:AV}(h2:TyA tab 1048576 9 29 a2):Con Tryz.prog 6 [a1,a2] (.b true):=by
 obtain⟨x1,rfl,k1⟩:=B8t h1
 obtain⟨x2,rfl,k2⟩:=B8t h2
 exact con6 x1 x2 (A9c k1) (A9c k2)
theorem TombLives_lifted(os:Os)(started:os.Started)(H:Type)(enc:TypeId×Value→H)(F:Stop.Interp) :
  ReturnsInHanded {} Tryz.checked os 6 .any ((Rows.OpenSpec.upto Rows.tombLivesSpec).pre6 enc Tryz.prog Tryz.f6 Rows.tombLivesUptoRow.domain false) (((Rows.OpenSpec.upto Rows.tombLivesSpec).at F).post enc Tryz.prog Tryz.f6 false true false false):=by
 refine M4 (C:=Tryz.checked) (s:=Rows.tombLivesSpec) (k:=Rows.uptoSmall) F [29,29] 4 1048576 9 rfl (fun ds=>A0m ds) B1 Tryz.laidOut Tryz.own started (by kernel_rfl) Tryz.func6 rfl rfl (by kernel_rfl) (by kernel_rfl) rfl ?_
  (OpenSpec.witness (enc:=enc) (C:=Tryz.checked) (s:=Rows.OpenSpec.upto Rows.tombLivesSpec) (k:=Rows.uptoSmall) rfl false ⟨#[],#[.agg #[.slice none 0 0,.slice none 0 0,.slice none 0 0,.slice none 0 0],.agg #[.slice none 0 0,.slice none 0 0,.slice none 0 0,.slice none 0 0]],[]⟩ 8 (by kernel_rfl) (by kernel_rfl) (by kernel_rfl)
   (x:=([.agg [.nil,.agg [.nil,.nil],.nil],.agg [.nil,.agg [.nil,.nil],.nil]],[],[])) (by kernel_rfl) rfl (by kernel_rfl)) ?_
 ·intro ds hds
  rcases ds with _ | ⟨d1,_ | ⟨d2,_ | ⟨d3,l⟩⟩⟩
  ·exact absurd hds (by simp)
  ·exact absurd hds (by simp)
  ·kernel_rfl
  ·exact absurd hds (by simp)
 ·intro avs h
  rcases avs with _ | ⟨a1,_ | ⟨a2,_ | ⟨a3,l⟩⟩⟩
  ·exact h.elim
  ·exact h.2.elim
  ·exact law6 h.1 h.2.1
  ·exact h.2.2.elim
theorem TombLives_j1:Rows.tombLivesUptoRow.inPlace=Tryz.prog.inPlace 6:=by kernel_rfl
theorem TombLives_j2:Rows.tombLivesUptoRow.unfollowed=Tryz.prog.unfollowed 6:=by kernel_rfl
theorem TombLives_j3:Rows.tombLivesUptoRow.recurses=Tryz.prog.recurses 6:=by kernel_rfl
theorem TombLives_j4:Rows.tombLivesUptoRow.named=Tryz.prog.varsNamed 6:=by kernel_rfl
theorem TombLives_j5:Rows.tombLivesUptoRow.plainKeys=Tryz.prog.plainKeys:=by kernel_rfl
theorem TombLives_j6:Rows.tombLivesUptoRow.lifted=Tryz.prog.liftsFinal:=by kernel_rfl
theorem TombLives_j7:Tryz.prog.funcNamed Rows.tombLivesUptoRow.func=some 6:=by kernel_rfl
theorem TombLives_joined:Go.joinedFacts Tryz.prog 6 Tryz.f6 (Rows.OpenSpec.upto Rows.tombLivesSpec).bare Rows.tombLivesUptoRow=true:=by
 unfold Go.joinedFacts
 rw[Tryz.laidOut,Tryz.rowedM,Tryz.stopsH,Tryz.mayE,← TombLives_j1,← TombLives_j2,← TombLives_j3,← TombLives_j4,← TombLives_j5,← TombLives_j6]
 kernel_rfl
theorem TombLives_holds:Rows.TombLivesUptoSaid :=
 OpenClaim.holds_of_cond 6 Tryz.f6 rfl rfl rfl rfl rfl rfl rfl ⟨rfl,rfl,rfl,rfl,rfl⟩ rfl rfl rfl rfl rfl TombLives_j7 Tryz.func6 TombLives_joined
  (of_decide_eq_true (by kernel_rfl)) (by unfold Func.isWrapper;first | (rw[if_pos (by decide +kernel)];kernel_rfl) | (rw[if_neg (by decide +kernel)];exact⟨rfl,rfl⟩))
  (fun os started H enc _ F=>TombLives_lifted os started H enc F)
end Go.Proofs.YtaiepnaokhpmcaaGreat
