/- R6: VectorForms answers true for every input, and the input reads as it did. Conditions: none. -/
import Derived.Test.YtoeifjooljkpaaaWi
import Derived.Test.YtoeifjooljkpaaaWx
set_option linter.unusedVariables false
set_option linter.unusedSimpArgs false
namespace Go.Proofs.Ytoeifjooljkpaaa
open Go.E Go.ChangeShapes Go.WideShapes Go.ChangeAt Go.RowKit
set_option maxRecDepth 100000
theorem law6 {a : AV} (ha : TyA tab 6 22 a) : Con Try.prog 6 [a] (.b true) := by
  obtain ⟨xs, hx, _⟩ := ty22 (n := 4) (cs := [a]) ha
  simp only [c22, List.cons.injEq, and_true] at hx
  subst hx
  exact con6 xs
theorem VectorForms_lifted (os : Os) (started : os.Started) (H : Type) (enc : TypeId × Value → H) :
    ReturnsInHanded {} Try.checked os 6 .any (Rows.vectorFormsSpec.pre6 enc Try.prog Try.f6 Rows.vectorFormsRow.domain false) (Rows.vectorFormsSpec.post enc Try.prog Try.f6 false true false false) := by
  refine law_lifted (C := Try.checked) [22] 4 6 tab_ok Try.laidOut Try.own started (by kernel_rfl) Try.func6 rfl rfl (by kernel_rfl) (by kernel_rfl) rfl ?_
    (ChangeSpec.witness6 (enc := enc) (C := Try.checked) false ⟨#[], #[.slice none 0 0], []⟩ 8 (by kernel_rfl) (by kernel_rfl) (by kernel_rfl) (by kernel_rfl)) ?_
  · intro ds hds
    rcases ds with _ | ⟨d1, _ | ⟨d2, l⟩⟩
    · exact absurd hds (by simp)
    · kernel_rfl
    · exact absurd hds (by simp)
  · intro avs h
    rcases avs with _ | ⟨a1, _ | ⟨a2, l⟩⟩
    · exact h.elim
    · exact law6 h.1
    · exact h.2.elim
theorem VectorForms_holds : Rows.VectorFormsSaid :=
  OpenClaim.holds_of_wide 6 Try.f6 rfl rfl rfl rfl rfl rfl rfl ⟨rfl, rfl, rfl, rfl, rfl⟩ rfl rfl rfl rfl rfl (by kernel_rfl) Try.func6 (by kernel_rfl)
    (of_decide_eq_true (by kernel_rfl)) (by unfold Func.isWrapper; first | (rw [if_pos (by decide +kernel)]; kernel_rfl) | (rw [if_neg (by decide +kernel)]; exact ⟨rfl, rfl⟩))
    (fun os started H enc _ => VectorForms_lifted os started H enc)
end Go.Proofs.Ytoeifjooljkpaaa
