/- R7: LinesUnions answers true for every input, and the input reads as it did. Conditions: none. -/
import Derived.Test.YtjngmlkaijpbgaaLh
import Derived.Test.YtjngmlkaijpbgaaWx
set_option linter.unusedVariables false
set_option linter.unusedSimpArgs false
namespace Go.Proofs.Ytjngmlkaijpbgaa
open Go.E Go.ChangeShapes Go.WideShapes Go.ChangeAt Go.RowKit
set_option maxRecDepth 100000
theorem law7 {L : Nat} {a1 : AV} (h1 : TyA tab L 9 38 a1) : Con Try.prog 7 [a1] (.b true) := by
  obtain ⟨x1, rfl, k1⟩ := ta38 h1
  exact con7 x1
theorem LinesUnions_lifted (os : Os) (started : os.Started) (H : Type) (enc : TypeId × Value → H) :
    ReturnsInHanded {} Try.checked os 7 .any (Rows.linesUnionsSpec.pre6 enc Try.prog Try.f7 Rows.linesUnionsRow.domain false) (Rows.linesUnionsSpec.post enc Try.prog Try.f7 false true false false) := by
  refine law_lifted (C := Try.checked) [38] 4 9 tab_ok Try.laidOut Try.own started (by kernel_rfl) Try.func7 rfl rfl (by kernel_rfl) (by kernel_rfl) rfl ?_
    (ChangeSpec.witness6 (enc := enc) (C := Try.checked) false ⟨#[], #[.agg #[.slice none 0 0, .slice none 0 0, .slice none 0 0, .slice none 0 0, .int .i64 0, .int .i64 0, .int .i64 0, .string ⟨#[]⟩]], []⟩ 8 (by kernel_rfl) (by kernel_rfl) (by kernel_rfl) (by kernel_rfl)) ?_
  · intro ds hds
    rcases ds with _ | ⟨d1, _ | ⟨d2, l⟩⟩
    · exact absurd hds (by simp)
    · kernel_rfl
    · exact absurd hds (by simp)
  · intro L avs h
    rcases avs with _ | ⟨a1, _ | ⟨a2, l⟩⟩
    · exact h.elim
    · exact law7 h.1
    · exact h.2.elim
theorem LinesUnions_holds : Rows.LinesUnionsSaid :=
  OpenClaim.holds_of_wide 7 Try.f7 rfl rfl rfl rfl rfl rfl rfl ⟨rfl, rfl, rfl, rfl, rfl⟩ rfl rfl rfl rfl rfl (by kernel_rfl) Try.func7 (by kernel_rfl)
    (of_decide_eq_true (by kernel_rfl)) (by unfold Func.isWrapper; first | (rw [if_pos (by decide +kernel)]; kernel_rfl) | (rw [if_neg (by decide +kernel)]; exact ⟨rfl, rfl⟩))
    (fun os started H enc _ => LinesUnions_lifted os started H enc)
end Go.Proofs.Ytjngmlkaijpbgaa
