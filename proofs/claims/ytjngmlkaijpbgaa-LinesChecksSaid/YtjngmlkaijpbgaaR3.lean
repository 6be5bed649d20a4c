/- R3: LinesChecks answers true for every input, and the input reads as it did. Conditions: none. -/
import Derived.Test.YtjngmlkaijpbgaaLb
import Derived.Test.YtjngmlkaijpbgaaWx
set_option linter.unusedVariables false
set_option linter.unusedSimpArgs false
namespace Go.Proofs.Ytjngmlkaijpbgaa
open Go.E Go.ChangeShapes Go.WideShapes Go.ChangeAt Go.RowKit
set_option maxRecDepth 100000
theorem law3 {a1 : AV} (h1 : TyA tab 9 22 a1) : Con Try.prog 3 [a1] (.b true) := by
  obtain ⟨x1, rfl, k1⟩ := ta22 h1
  exact con3 x1
theorem LinesChecks_lifted (os : Os) (started : os.Started) (H : Type) (enc : TypeId × Value → H) :
    ReturnsInHanded {} Try.checked os 3 .any (Rows.linesChecksSpec.pre6 enc Try.prog Try.f3 Rows.linesChecksRow.domain false) (Rows.linesChecksSpec.post enc Try.prog Try.f3 false true false false) := by
  refine law_lifted (C := Try.checked) [22] 4 9 tab_ok Try.laidOut Try.own started (by kernel_rfl) Try.func3 rfl rfl (by kernel_rfl) (by kernel_rfl) rfl ?_
    (ChangeSpec.witness6 (enc := enc) (C := Try.checked) false ⟨#[], #[.slice none 0 0], []⟩ 8 (by kernel_rfl) (by kernel_rfl) (by kernel_rfl) (by kernel_rfl)) ?_
  · intro ds hds
    rcases ds with _ | ⟨d1, _ | ⟨d2, l⟩⟩
    · exact absurd hds (by simp)
    · kernel_rfl
    · exact absurd hds (by simp)
  · intro avs h
    rcases avs with _ | ⟨a1, _ | ⟨a2, l⟩⟩
    · exact h.elim
    · exact law3 h.1
    · exact h.2.elim
theorem LinesChecks_holds : Rows.LinesChecksSaid :=
  OpenClaim.holds_of_wide 3 Try.f3 rfl rfl rfl rfl rfl rfl rfl ⟨rfl, rfl, rfl, rfl, rfl⟩ rfl rfl rfl rfl rfl (by kernel_rfl) Try.func3 (by kernel_rfl)
    (of_decide_eq_true (by kernel_rfl)) (by unfold Func.isWrapper; first | (rw [if_pos (by decide +kernel)]; kernel_rfl) | (rw [if_neg (by decide +kernel)]; exact ⟨rfl, rfl⟩))
    (fun os started H enc _ => LinesChecks_lifted os started H enc)
end Go.Proofs.Ytjngmlkaijpbgaa
