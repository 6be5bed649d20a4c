/- R5: ActReads answers true for every input, and the input reads as it did. Conditions: none. (with texts that it needs)  -/
import Derived.Below
import Derived.OwnWalk
import Derived.WalkKit
import Derived.KernelRfl
import Derived.Laws.MakeOwn
import Derived.Laws.OwnMore
import Derived.Laws.Slices
import Derived.Laws.CopyOwn
import Derived.Laws.AppendOwnNone
import Derived.Laws.Rows
import Derived.Orders
import Derived.Test.YtphcaholhacnpaaGreatProg
import Derived.DataReads
import Derived.ChangeOld
import Derived.DataElems
import Derived.SizedLaws
import Derived.ChangeKeysEq
import Derived.Sort.LotA
import Derived.Shelf.SlSortFuncK.RowK2
import Derived.Shelf.SlSortCmp.NoneTotal
import Derived.Lib.Walk
import Derived.Shelf.SlLaysE0
import Derived.Shelf.RegionOpenPlain
import Derived.Deep.LoopGhost
import Derived.Lib.SliceRun
import Derived.Lib.Bytealg
import Derived.BigQuiet
import Derived.Shelf.SlSortFuncK.WholeK
import Derived.Shelf.GgSortFunc.Tiny
import Derived.Maps.RangeRun
import Derived.Shelf.SlSortFuncK.SWK
import Derived.Deep.Cut
import Derived.Deep.CutRange
import Derived.Deep.DeepCutAuto
import Derived.Lib.ReflectliteSwap
import Derived.Laws.Externs
import Derived.Lib.ReflectliteSlice
import Derived.Lib.AppendZeros
import Derived.ProofKit
import Derived.JoinedCond
import Derived.Deep.CondSized
import Derived.Test.YtphcaholhacnpaaGreatRows
import Derived.Test.YtphcaholhacnpaaGreatZr6
set_option linter.unusedVariables false
set_option linter.unusedSimpArgs false
namespace Go.Proofs.YtphcaholhacnpaaGreat
open Go.E Go.ChangeShapes Go.WideShapes Go.ChangeAt Go.RowKit
set_option maxRecDepth 100000
theorem law5{L:Nat}{a1:AV}(h1:TyA tab L 9 32 a1):Con Tryz.prog 5 [a1] (.b true):=by
 obtain⟨x1,rfl,k1⟩:=ta32 h1
 exact con5 x1 k1.1.1 k1.2.1.1 k1.2.2.2.2.1.1
theorem ActReads_lifted(os:Os)(started:os.Started)(H:Type)(enc:TypeId×Value→H) :
  ReturnsInHanded {} Tryz.checked os 5 .any (Rows.actReadsSpec.pre6 enc Tryz.prog Tryz.f5 Rows.actReadsRow.domain false) (Rows.actReadsSpec.post enc Tryz.prog Tryz.f5 false true false false):=by
 refine Ao9 (C:=Tryz.checked) [32] 4 9 A6 Tryz.laidOut Tryz.own started (by kernel_rfl) Tryz.func5 rfl rfl (by kernel_rfl) (by kernel_rfl) rfl ?_
  (ChangeSpec.witness6 (enc:=enc) (C:=Tryz.checked) false ⟨#[],#[.agg #[.slice none 0 0,.slice none 0 0,.slice none 0 0,.int .i64 0,.int .i64 0,.int .i64 0,.int .i64 0,.string ⟨#[]⟩,.int .i64 0,.slice none 0 0,.slice none 0 0]],[]⟩ 8 (by kernel_rfl) (by kernel_rfl) (by kernel_rfl) (by kernel_rfl)) ?_
 ·intro ds hds
  rcases ds with _ | ⟨d1,_ | ⟨d2,l⟩⟩
  ·exact absurd hds (by simp)
  ·kernel_rfl
  ·exact absurd hds (by simp)
 ·intro L avs h
  rcases avs with _ | ⟨a1,_ | ⟨a2,l⟩⟩
  ·exact h.elim
  ·exact law5 h.1
  ·exact h.2.elim
theorem ActReads_j1:Rows.actReadsRow.inPlace=Tryz.prog.inPlace 5:=by kernel_rfl
theorem ActReads_j2:Rows.actReadsRow.unfollowed=Tryz.prog.unfollowed 5:=by kernel_rfl
theorem ActReads_j3:Rows.actReadsRow.recurses=Tryz.prog.recurses 5:=by kernel_rfl
theorem ActReads_j4:Rows.actReadsRow.named=Tryz.prog.varsNamed 5:=by kernel_rfl
theorem ActReads_j5:Rows.actReadsRow.plainKeys=Tryz.prog.plainKeys:=by kernel_rfl
theorem ActReads_j6:Rows.actReadsRow.lifted=Tryz.prog.liftsFinal:=by kernel_rfl
theorem ActReads_j7:Tryz.prog.funcNamed Rows.actReadsRow.func=some 5:=by kernel_rfl
theorem ActReads_joined:Go.joinedFacts Tryz.prog 5 Tryz.f5 Rows.actReadsSpec Rows.actReadsRow=true:=by
 unfold Go.joinedFacts
 rw[Tryz.laidOut,Tryz.rowedM,Tryz.stopsH,Tryz.mayE,← ActReads_j1,← ActReads_j2,← ActReads_j3,← ActReads_j4,← ActReads_j5,← ActReads_j6]
 kernel_rfl
theorem ActReads_holds:Rows.ActReadsSaid :=
 OpenClaim.holds_of_wide 5 Tryz.f5 rfl rfl rfl rfl rfl rfl rfl ⟨rfl,rfl,rfl,rfl,rfl⟩ rfl rfl rfl rfl rfl ActReads_j7 Tryz.func5 ActReads_joined
  (of_decide_eq_true (by kernel_rfl)) (by unfold Func.isWrapper;first | (rw[if_pos (by decide +kernel)];kernel_rfl) | (rw[if_neg (by decide +kernel)];exact⟨rfl,rfl⟩))
  (fun os started H enc _=>ActReads_lifted os started H enc)
end Go.Proofs.YtphcaholhacnpaaGreat
