/- R3: ActDecides answers true for every input, and the input reads as it did. Conditions: none. (with texts that it needs)  -/
import Derived.Below
import Derived.OwnWalk
import Derived.WalkKit
import Derived.KernelRfl
import Derived.Laws.MakeOwn
import Derived.Laws.OwnMore
import Derived.Laws.Slices
import Derived.Laws.CopyOwn
import Derived.Laws.AppendOwnNone
import Derived.Laws.Rows
import Derived.Orders
import Derived.Test.YtphcaholhacnpaaGreatProg
import Derived.DataReads
import Derived.ChangeOld
import Derived.DataElems
import Derived.SizedLaws
import Derived.ChangeKeysEq
import Derived.Sort.LotA
import Derived.Shelf.SlSortFuncK.RowK2
import Derived.Shelf.SlSortCmp.NoneTotal
import Derived.Lib.Walk
import Derived.Shelf.SlLaysE0
import Derived.Shelf.RegionOpenPlain
import Derived.Deep.LoopGhost
import Derived.Lib.SliceRun
import Derived.Lib.Bytealg
import Derived.BigQuiet
import Derived.Shelf.SlSortFuncK.WholeK
import Derived.Shelf.GgSortFunc.Tiny
import Derived.Maps.RangeRun
import Derived.Shelf.SlSortFuncK.SWK
import Derived.Deep.Cut
import Derived.Deep.CutRange
import Derived.Deep.DeepCutAuto
import Derived.Lib.ReflectliteSwap
import Derived.Laws.Externs
import Derived.Lib.ReflectliteSlice
import Derived.Lib.AppendZeros
import Derived.ProofKit
import Derived.JoinedCond
import Derived.Deep.CondSized
import Derived.Test.YtphcaholhacnpaaGreatRows
import Derived.Test.YtphcaholhacnpaaGreatZv6
set_option linter.unusedVariables false
set_option linter.unusedSimpArgs false
namespace Go.Proofs.YtphcaholhacnpaaGreat
open Go.E Go.ChangeShapes Go.WideShapes Go.ChangeAt Go.RowKit
set_option maxRecDepth 100000
theorem law3{L:Nat}{a1:AV}(h1:TyA tab L 9 32 a1):Con Tryz.prog 3 [a1] (.b true):=by
 obtain⟨x1,rfl,k1⟩:=ta32 h1
 exact con3 x1 k1.1.1 k1.2.1.1 k1.2.2.2.2.1.1
theorem ActDecides_lifted(os:Os)(started:os.Started)(H:Type)(enc:TypeId×Value→H) :
  ReturnsInHanded {} Tryz.checked os 3 .any (Rows.actDecidesSpec.pre6 enc Tryz.prog Tryz.f3 Rows.actDecidesRow.domain false) (Rows.actDecidesSpec.post enc Tryz.prog Tryz.f3 false true false false):=by
 refine Al4 (C:=Tryz.checked) [32] 4 9 B3 Tryz.laidOut Tryz.own started (by kernel_rfl) Tryz.func3 rfl rfl (by kernel_rfl) (by kernel_rfl) rfl ?_
  (ChangeSpec.witness6 (enc:=enc) (C:=Tryz.checked) false ⟨#[],#[.agg #[.slice none 0 0,.slice none 0 0,.slice none 0 0,.int .i64 0,.int .i64 0,.int .i64 0,.int .i64 0,.string ⟨#[]⟩,.int .i64 0,.slice none 0 0,.slice none 0 0]],[]⟩ 8 (by kernel_rfl) (by kernel_rfl) (by kernel_rfl) (by kernel_rfl)) ?_
 ·intro ds hds
  rcases ds with _ | ⟨d1,_ | ⟨d2,l⟩⟩
  ·exact absurd hds (by simp)
  ·kernel_rfl
  ·exact absurd hds (by simp)
 ·intro L avs h
  rcases avs with _ | ⟨a1,_ | ⟨a2,l⟩⟩
  ·exact h.elim
  ·exact law3 h.1
  ·exact h.2.elim
theorem ActDecides_j1:Rows.actDecidesRow.inPlace=Tryz.prog.inPlace 3:=by kernel_rfl
theorem ActDecides_j2:Rows.actDecidesRow.unfollowed=Tryz.prog.unfollowed 3:=by kernel_rfl
theorem ActDecides_j3:Rows.actDecidesRow.recurses=Tryz.prog.recurses 3:=by kernel_rfl
theorem ActDecides_j4:Rows.actDecidesRow.named=Tryz.prog.varsNamed 3:=by kernel_rfl
theorem ActDecides_j5:Rows.actDecidesRow.plainKeys=Tryz.prog.plainKeys:=by kernel_rfl
theorem ActDecides_j6:Rows.actDecidesRow.lifted=Tryz.prog.liftsFinal:=by kernel_rfl
theorem ActDecides_j7:Tryz.prog.funcNamed Rows.actDecidesRow.func=some 3:=by kernel_rfl
theorem ActDecides_joined:Go.joinedFacts Tryz.prog 3 Tryz.f3 Rows.actDecidesSpec Rows.actDecidesRow=true:=by
 unfold Go.joinedFacts
 rw[Tryz.laidOut,Tryz.rowedM,Tryz.stopsH,Tryz.mayE,← ActDecides_j1,← ActDecides_j2,← ActDecides_j3,← ActDecides_j4,← ActDecides_j5,← ActDecides_j6]
 kernel_rfl
theorem ActDecides_holds:Rows.ActDecidesSaid :=
 OpenClaim.holds_of_wide 3 Tryz.f3 rfl rfl rfl rfl rfl rfl rfl ⟨rfl,rfl,rfl,rfl,rfl⟩ rfl rfl rfl rfl rfl ActDecides_j7 Tryz.func3 ActDecides_joined
  (of_decide_eq_true (by kernel_rfl)) (by unfold Func.isWrapper;first | (rw[if_pos (by decide +kernel)];kernel_rfl) | (rw[if_neg (by decide +kernel)];exact⟨rfl,rfl⟩))
  (fun os started H enc _=>ActDecides_lifted os started H enc)
end Go.Proofs.YtphcaholhacnpaaGreat
