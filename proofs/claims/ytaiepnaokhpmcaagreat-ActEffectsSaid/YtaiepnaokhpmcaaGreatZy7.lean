/- R4: ActEffects answers true for every input, and the input reads as it did. Conditions: none. (with texts that it needs)  -/
import Derived.Below
import Derived.OwnWalk
import Derived.WalkKit
import Derived.KernelRfl
import Derived.Laws.MakeOwn
import Derived.Laws.OwnMore
import Derived.Laws.Slices
import Derived.Laws.CopyOwn
import Derived.Laws.AppendOwnNone
import Derived.Laws.Rows
import Derived.Orders
import Derived.Test.YtaiepnaokhpmcaaGreatProg
import Derived.DataReads
import Derived.ChangeOld
import Derived.DataElems
import Derived.SizedLaws
import Derived.ChangeKeysEq
import Derived.Sort.LotA
import Derived.Shelf.SlSortFuncK.RowK2
import Derived.Shelf.SlSortCmp.NoneTotal
import Derived.Lib.Walk
import Derived.Shelf.SlLaysE0
import Derived.Shelf.RegionOpenPlain
import Derived.Deep.LoopGhost
import Derived.Lib.SliceRun
import Derived.Lib.Bytealg
import Derived.Shelf.SlSortFuncK.SWK
import Derived.Deep.Cut
import Derived.Deep.CutRange
import Derived.Deep.DeepCutAuto
import Derived.Lib.ReflectliteSwap
import Derived.Laws.Externs
import Derived.Lib.ReflectliteSlice
import Derived.Lib.AppendZeros
import Derived.ProofKit
import Derived.JoinedCond
import Derived.Deep.CondSized
import Derived.Test.YtaiepnaokhpmcaaGreatRows
import Derived.Test.YtaiepnaokhpmcaaGreatZy6
set_option linter.unusedVariables false
set_option linter.unusedSimpArgs false
namespace Go.Proofs.YtaiepnaokhpmcaaGreat
open Go.E Go.ChangeShapes Go.WideShapes Go.ChangeAt Go.RowKit
set_option maxRecDepth 100000
theorem law4 {L:Nat} {a1:AV} (h1:TyA tab L 9 22 a1) {a2:AV} (h2:TyA tab L 9 29 a2):Con Tryz.prog 4 [a1,a2] (.b true):=by
 obtain ⟨x1,rfl,k1⟩:=ta22 h1
 obtain ⟨x2,rfl,k2⟩:=ta29 h2
 exact con4 x1 x2 (inF_sz k2)
theorem ActEffects_lifted (os:Os) (started:os.Started) (H:Type) (enc:TypeId×Value→H) :
  ReturnsInHanded {} Tryz.checked os 4 .any (Rows.actEffectsSpec.pre6 enc Tryz.prog Tryz.f4 Rows.actEffectsRow.domain false) (Rows.actEffectsSpec.post enc Tryz.prog Tryz.f4 false true false false):=by
 refine law_lifted (C:=Tryz.checked) [22,29] 4 9 tab_ok Tryz.laidOut Tryz.own started (by kernel_rfl) Tryz.func4 rfl rfl (by kernel_rfl) (by kernel_rfl) rfl ?_
  (ChangeSpec.witness6 (enc:=enc) (C:=Tryz.checked) false ⟨#[],#[.slice none 0 0,.agg #[.slice none 0 0,.slice none 0 0,.slice none 0 0,.slice none 0 0]],[]⟩ 8 (by kernel_rfl) (by kernel_rfl) (by kernel_rfl) (by kernel_rfl)) ?_
 ·intro ds hds
  rcases ds with _ | ⟨d1,_ | ⟨d2,_ | ⟨d3,l⟩⟩⟩
  ·exact absurd hds (by simp)
  ·exact absurd hds (by simp)
  ·kernel_rfl
  ·exact absurd hds (by simp)
 ·intro L avs h
  rcases avs with _ | ⟨a1,_ | ⟨a2,_ | ⟨a3,l⟩⟩⟩
  ·exact h.elim
  ·exact h.2.elim
  ·exact law4 h.1 h.2.1
  ·exact h.2.2.elim
theorem ActEffects_j1:Rows.actEffectsRow.inPlace=Tryz.prog.inPlace 4:=by kernel_rfl
theorem ActEffects_j2:Rows.actEffectsRow.unfollowed=Tryz.prog.unfollowed 4:=by kernel_rfl
theorem ActEffects_j3:Rows.actEffectsRow.recurses=Tryz.prog.recurses 4:=by kernel_rfl
theorem ActEffects_j4:Rows.actEffectsRow.named=Tryz.prog.varsNamed 4:=by kernel_rfl
theorem ActEffects_j5:Rows.actEffectsRow.plainKeys=Tryz.prog.plainKeys:=by kernel_rfl
theorem ActEffects_j6:Rows.actEffectsRow.lifted=Tryz.prog.liftsFinal:=by kernel_rfl
theorem ActEffects_j7:Tryz.prog.funcNamed Rows.actEffectsRow.func=some 4:=by kernel_rfl
theorem ActEffects_joined:Go.joinedFacts Tryz.prog 4 Tryz.f4 Rows.actEffectsSpec Rows.actEffectsRow=true:=by
 unfold Go.joinedFacts
 rw [Tryz.laidOut,Tryz.rowedM,Tryz.stopsH,Tryz.mayE,← ActEffects_j1,← ActEffects_j2,← ActEffects_j3,← ActEffects_j4,← ActEffects_j5,← ActEffects_j6]
 kernel_rfl
theorem ActEffects_holds:Rows.ActEffectsSaid :=
 OpenClaim.holds_of_wide 4 Tryz.f4 rfl rfl rfl rfl rfl rfl rfl ⟨rfl,rfl,rfl,rfl,rfl⟩ rfl rfl rfl rfl rfl ActEffects_j7 Tryz.func4 ActEffects_joined
  (of_decide_eq_true (by kernel_rfl)) (by unfold Func.isWrapper;first | (rw [if_pos (by decide +kernel)];kernel_rfl) | (rw [if_neg (by decide +kernel)];exact ⟨rfl,rfl⟩))
  (fun os started H enc _=>ActEffects_lifted os started H enc)
end Go.Proofs.YtaiepnaokhpmcaaGreat
