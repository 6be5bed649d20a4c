/- R6: LinesSorts answers true for every input, and the input reads as it did. Conditions: none. -/
import Derived.Test.YtjngmlkaijpbgaaLg
import Derived.Test.YtjngmlkaijpbgaaWx
set_option linter.unusedVariables false
set_option linter.unusedSimpArgs false
namespace Go.Proofs.Ytjngmlkaijpbgaa
open Go.E Go.ChangeShapes Go.WideShapes Go.ChangeAt Go.RowKit
set_option maxRecDepth 100000
theorem law6 {L : Nat} {a1 : AV} (h1 : TyA tab L 9 22 a1) {a2 : AV} (h2 : TyA tab L 9 26 a2) : Con Try.prog 6 [a1, a2] (.b true) := by
  obtain ⟨x1, rfl, k1⟩ := ta22 h1
  obtain ⟨x2, rfl, k2⟩ := ta26 h2
  exact con6 x1 x2 k1.1.2
theorem LinesSorts_lifted (os : Os) (started : os.Started) (H : Type) (enc : TypeId × Value → H) :
    ReturnsInHanded {} Try.checked os 6 .any (Rows.linesSortsSpec.pre6 enc Try.prog Try.f6 Rows.linesSortsRow.domain false) (Rows.linesSortsSpec.post enc Try.prog Try.f6 false true false false) := by
  refine law_lifted (C := Try.checked) [22, 26] 4 9 tab_ok Try.laidOut Try.own started (by kernel_rfl) Try.func6 rfl rfl (by kernel_rfl) (by kernel_rfl) rfl ?_
    (ChangeSpec.witness6 (enc := enc) (C := Try.checked) false ⟨#[], #[.slice none 0 0, .agg #[.int .i64 0, .int .i64 0]], []⟩ 8 (by kernel_rfl) (by kernel_rfl) (by kernel_rfl) (by kernel_rfl)) ?_
  · intro ds hds
    rcases ds with _ | ⟨d1, _ | ⟨d2, _ | ⟨d3, l⟩⟩⟩
    · exact absurd hds (by simp)
    · exact absurd hds (by simp)
    · kernel_rfl
    · exact absurd hds (by simp)
  · intro L avs h
    rcases avs with _ | ⟨a1, _ | ⟨a2, _ | ⟨a3, l⟩⟩⟩
    · exact h.elim
    · exact h.2.elim
    · exact law6 h.1 h.2.1
    · exact h.2.2.elim
theorem LinesSorts_holds : Rows.LinesSortsSaid :=
  OpenClaim.holds_of_wide 6 Try.f6 rfl rfl rfl rfl rfl rfl rfl ⟨rfl, rfl, rfl, rfl, rfl⟩ rfl rfl rfl rfl rfl (by kernel_rfl) Try.func6 (by kernel_rfl)
    (of_decide_eq_true (by kernel_rfl)) (by unfold Func.isWrapper; first | (rw [if_pos (by decide +kernel)]; kernel_rfl) | (rw [if_neg (by decide +kernel)]; exact ⟨rfl, rfl⟩))
    (fun os started H enc _ => LinesSorts_lifted os started H enc)
end Go.Proofs.Ytjngmlkaijpbgaa
