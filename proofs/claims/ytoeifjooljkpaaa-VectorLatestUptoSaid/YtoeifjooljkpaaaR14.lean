/- R14: VectorLatest answers true for every input, and the input reads as it did. Conditions: none. -/
import Derived.Test.YtoeifjooljkpaaaWl
import Derived.Test.YtoeifjooljkpaaaWx
set_option linter.unusedVariables false
set_option linter.unusedSimpArgs false
namespace Go.Proofs.Ytoeifjooljkpaaa
open Go.E Go.ChangeShapes Go.WideShapes Go.ChangeAt Go.RowKit
set_option maxRecDepth 100000
theorem law14  {a1 : AV} (h1 : TyA tab 1048576 9 38 a1) : Con Try.prog 14 [a1] (.b true) := by
  obtain ⟨x1, rfl, k1⟩ := ta38 h1
  exact con14 x1 k1.1 (by have := k1.2; omega)
theorem VectorLatest_lifted (os : Os) (started : os.Started) (H : Type) (enc : TypeId × Value → H) (F : Stop.Interp) :
    ReturnsInHanded {} Try.checked os 14 .any ((Rows.OpenSpec.upto Rows.vectorLatestSpec).pre6 enc Try.prog Try.f14 Rows.vectorLatestUptoRow.domain false) (((Rows.OpenSpec.upto Rows.vectorLatestSpec).at F).post enc Try.prog Try.f14 false true false false) := by
  refine law_lifted_upto (C := Try.checked) (s := Rows.vectorLatestSpec) (k := Rows.uptoSmall) F [38] 4 1048576 9 rfl (fun ds => bulk_small ds) tab_ok Try.laidOut Try.own started (by kernel_rfl) Try.func14 rfl rfl (by kernel_rfl) (by kernel_rfl) rfl ?_
    (OpenSpec.witness (enc := enc) (C := Try.checked) (s := Rows.OpenSpec.upto Rows.vectorLatestSpec) (k := Rows.uptoSmall) rfl false ⟨#[], #[.slice none 0 0], []⟩ 8 (by kernel_rfl) (by kernel_rfl) (by kernel_rfl)
      (x := ([.nil], [], [])) (by kernel_rfl) rfl (by kernel_rfl)) ?_
  · intro ds hds
    rcases ds with _ | ⟨d1, _ | ⟨d2, l⟩⟩
    · exact absurd hds (by simp)
    · kernel_rfl
    · exact absurd hds (by simp)
  · intro avs h
    rcases avs with _ | ⟨a1, _ | ⟨a2, l⟩⟩
    · exact h.elim
    · exact law14 h.1
    · exact h.2.elim
theorem VectorLatest_holds : Rows.VectorLatestUptoSaid :=
  OpenClaim.holds_of_cond 14 Try.f14 rfl rfl rfl rfl rfl rfl rfl ⟨rfl, rfl, rfl, rfl, rfl⟩ rfl rfl rfl rfl rfl (by kernel_rfl) Try.func14 (by kernel_rfl)
    (of_decide_eq_true (by kernel_rfl)) (by unfold Func.isWrapper; first | (rw [if_pos (by decide +kernel)]; kernel_rfl) | (rw [if_neg (by decide +kernel)]; exact ⟨rfl, rfl⟩))
    (fun os started H enc _ F => VectorLatest_lifted os started H enc F)
end Go.Proofs.Ytoeifjooljkpaaa
