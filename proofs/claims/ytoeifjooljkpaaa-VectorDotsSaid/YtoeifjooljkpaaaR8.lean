/- R8: VectorDots answers true for every input, and the input reads as it did. Conditions: none. -/
import Derived.Test.YtoeifjooljkpaaaWn
import Derived.Test.YtoeifjooljkpaaaWx
set_option linter.unusedVariables false
set_option linter.unusedSimpArgs false
namespace Go.Proofs.Ytoeifjooljkpaaa
open Go.E Go.ChangeShapes Go.WideShapes Go.ChangeAt Go.RowKit
set_option maxRecDepth 100000
theorem law8 {a1 : AV} (h1 : TyA tab 9 22 a1) {a2 : AV} (h2 : TyA tab 9 22 a2) {a3 : AV} (h3 : TyA tab 9 24 a3) : Con Try.prog 8 [a1, a2, a3] (.b true) := by
  obtain ⟨x1, rfl, k1⟩ := ta22 h1
  obtain ⟨x2, rfl, k2⟩ := ta22 h2
  obtain ⟨x3, rfl, k3⟩ := ta24 h3
  exact con8 x1 x2 x3
theorem VectorDots_lifted (os : Os) (started : os.Started) (H : Type) (enc : TypeId × Value → H) :
    ReturnsInHanded {} Try.checked os 8 .any (Rows.vectorDotsSpec.pre6 enc Try.prog Try.f8 Rows.vectorDotsRow.domain false) (Rows.vectorDotsSpec.post enc Try.prog Try.f8 false true false false) := by
  refine law_lifted (C := Try.checked) [22, 22, 24] 4 9 tab_ok Try.laidOut Try.own started (by kernel_rfl) Try.func8 rfl rfl (by kernel_rfl) (by kernel_rfl) rfl ?_
    (ChangeSpec.witness6 (enc := enc) (C := Try.checked) false ⟨#[], #[.slice none 0 0, .slice none 0 0, .agg #[.int .i64 0, .int .i64 0]], []⟩ 8 (by kernel_rfl) (by kernel_rfl) (by kernel_rfl) (by kernel_rfl)) ?_
  · intro ds hds
    rcases ds with _ | ⟨d1, _ | ⟨d2, _ | ⟨d3, _ | ⟨d4, l⟩⟩⟩⟩
    · exact absurd hds (by simp)
    · exact absurd hds (by simp)
    · exact absurd hds (by simp)
    · kernel_rfl
    · exact absurd hds (by simp)
  · intro avs h
    rcases avs with _ | ⟨a1, _ | ⟨a2, _ | ⟨a3, _ | ⟨a4, l⟩⟩⟩⟩
    · exact h.elim
    · exact h.2.elim
    · exact h.2.2.elim
    · exact law8 h.1 h.2.1 h.2.2.1
    · exact h.2.2.2.elim
theorem VectorDots_holds : Rows.VectorDotsSaid :=
  OpenClaim.holds_of_wide 8 Try.f8 rfl rfl rfl rfl rfl rfl rfl ⟨rfl, rfl, rfl, rfl, rfl⟩ rfl rfl rfl rfl rfl (by kernel_rfl) Try.func8 (by kernel_rfl)
    (of_decide_eq_true (by kernel_rfl)) (by unfold Func.isWrapper; first | (rw [if_pos (by decide +kernel)]; kernel_rfl) | (rw [if_neg (by decide +kernel)]; exact ⟨rfl, rfl⟩))
    (fun os started H enc _ => VectorDots_lifted os started H enc)
end Go.Proofs.Ytoeifjooljkpaaa
