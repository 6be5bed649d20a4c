/- R4: ActMakes answers true for every input, and the input reads as it did. Conditions: none. (with texts that it needs)  -/
import Derived.Below
import Derived.OwnWalk
import Derived.WalkKit
import Derived.KernelRfl
import Derived.Laws.MakeOwn
import Derived.Laws.OwnMore
import Derived.Laws.Slices
import Derived.Laws.CopyOwn
import Derived.Laws.AppendOwnNone
import Derived.Laws.Rows
import Derived.Orders
import Derived.Test.YtphcaholhacnpaaGreatProg
import Derived.DataReads
import Derived.ChangeOld
import Derived.DataElems
import Derived.SizedLaws
import Derived.ChangeKeysEq
import Derived.Sort.LotA
import Derived.Shelf.SlSortFuncK.RowK2
import Derived.Shelf.SlSortCmp.NoneTotal
import Derived.Lib.Walk
import Derived.Shelf.SlLaysE0
import Derived.Shelf.RegionOpenPlain
import Derived.Deep.LoopGhost
import Derived.Lib.SliceRun
import Derived.Lib.Bytealg
import Derived.BigQuiet
import Derived.Shelf.SlSortFuncK.WholeK
import Derived.Shelf.GgSortFunc.Tiny
import Derived.Maps.RangeRun
import Derived.Shelf.SlSortFuncK.SWK
import Derived.Deep.Cut
import Derived.Deep.CutRange
import Derived.Deep.DeepCutAuto
import Derived.Lib.ReflectliteSwap
import Derived.Laws.Externs
import Derived.Lib.ReflectliteSlice
import Derived.Lib.AppendZeros
import Derived.Calls
import Derived.ProofKit
import Derived.JoinedCond
import Derived.Deep.CondSized
import Derived.Test.YtphcaholhacnpaaGreatRows
import Derived.Test.YtphcaholhacnpaaGreatZm6
set_option linter.unusedVariables false
set_option linter.unusedSimpArgs false
namespace Go.Proofs.YtphcaholhacnpaaGreat
open Go.E Go.ChangeShapes Go.WideShapes Go.ChangeAt Go.RowKit
set_option maxRecDepth 100000
theorem law4{L:Nat}{a1:AV}(h1:TyA tab L 9 36 a1){a2:AV}(h2:TyA tab L 9 3 a2):Con Tryz.prog 4 [a1,a2] (.b true):=by
 obtain⟨x1,rfl,k1⟩:=ta36 h1
 obtain⟨x2,rfl,k2⟩:=ta3 h2
 exact con4 x1 x2 (inF_sz k1)
theorem ActMakes_lifted(os:Os)(started:os.Started)(H:Type)(enc:TypeId×Value→H) :
  ReturnsInHanded {} Tryz.checked os 4 .any (Rows.actMakesSpec.pre6 enc Tryz.prog Tryz.f4 Rows.actMakesRow.domain false) (Rows.actMakesSpec.post enc Tryz.prog Tryz.f4 false true false false):=by
 refine Al5 (C:=Tryz.checked) [36,3] 4 9 B3 Tryz.laidOut Tryz.own started (by kernel_rfl) Tryz.func4 rfl rfl (by kernel_rfl) (by kernel_rfl) rfl ?_
  (ChangeSpec.witness6 (enc:=enc) (C:=Tryz.checked) false ⟨#[],#[.agg #[.slice none 0 0,.slice none 0 0,.slice none 0 0,.slice none 0 0],.int .i64 0],[]⟩ 8 (by kernel_rfl) (by kernel_rfl) (by kernel_rfl) (by kernel_rfl)) ?_
 ·intro ds hds
  rcases ds with _ | ⟨d1,_ | ⟨d2,_ | ⟨d3,l⟩⟩⟩
  ·exact absurd hds (by simp)
  ·exact absurd hds (by simp)
  ·kernel_rfl
  ·exact absurd hds (by simp)
 ·intro L avs h
  rcases avs with _ | ⟨a1,_ | ⟨a2,_ | ⟨a3,l⟩⟩⟩
  ·exact h.elim
  ·exact h.2.elim
  ·exact law4 h.1 h.2.1
  ·exact h.2.2.elim
theorem ActMakes_j1:Rows.actMakesRow.inPlace=Tryz.prog.inPlace 4:=by kernel_rfl
theorem ActMakes_j2:Rows.actMakesRow.unfollowed=Tryz.prog.unfollowed 4:=by kernel_rfl
theorem ActMakes_j3:Rows.actMakesRow.recurses=Tryz.prog.recurses 4:=by kernel_rfl
theorem ActMakes_j4:Rows.actMakesRow.named=Tryz.prog.varsNamed 4:=by kernel_rfl
theorem ActMakes_j5:Rows.actMakesRow.plainKeys=Tryz.prog.plainKeys:=by kernel_rfl
theorem ActMakes_j6:Rows.actMakesRow.lifted=Tryz.prog.liftsFinal:=by kernel_rfl
theorem ActMakes_j7:Tryz.prog.funcNamed Rows.actMakesRow.func=some 4:=by kernel_rfl
theorem ActMakes_joined:Go.joinedFacts Tryz.prog 4 Tryz.f4 Rows.actMakesSpec Rows.actMakesRow=true:=by
 unfold Go.joinedFacts
 rw[Tryz.laidOut,Tryz.rowedM,Tryz.stopsH,Tryz.mayE,← ActMakes_j1,← ActMakes_j2,← ActMakes_j3,← ActMakes_j4,← ActMakes_j5,← ActMakes_j6]
 kernel_rfl
theorem ActMakes_holds:Rows.ActMakesSaid :=
 OpenClaim.holds_of_wide 4 Tryz.f4 rfl rfl rfl rfl rfl rfl rfl ⟨rfl,rfl,rfl,rfl,rfl⟩ rfl rfl rfl rfl rfl ActMakes_j7 Tryz.func4 ActMakes_joined
  (of_decide_eq_true (by kernel_rfl)) (by unfold Func.isWrapper;first | (rw[if_pos (by decide +kernel)];kernel_rfl) | (rw[if_neg (by decide +kernel)];exact⟨rfl,rfl⟩))
  (fun os started H enc _=>ActMakes_lifted os started H enc)
end Go.Proofs.YtphcaholhacnpaaGreat
