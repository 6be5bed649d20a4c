/- Wd: what is handed in, by its types; VectorFinds answers true for every input, and the input reads as it did. Conditions: none. -/
import Derived.Test.YtoeifjooljkpaaaWc
import Derived.Test.YtoeifjooljkpaaaEN
import Derived.Test.YtoeifjooljkpaaaRows
set_option linter.unusedVariables false
set_option linter.unusedSimpArgs false
namespace Go.Proofs.Ytoeifjooljkpaaa
open Go.E Go.ChangeShapes Go.WideShapes Go.ChangeAt Go.RowKit
set_option maxRecDepth 100000
theorem Try.own : ownKnob Try.prog.godebug = none := by kernel_rfl
theorem Try.laidOut : laidOutB Try.prog = true := by kernel_rfl
def inr (n : Int) : Prop := -9223372036854775808 ≤ n ∧ n ≤ 9223372036854775807
theorem ty3 {n : Nat} {cs : List AV} (h : TyC tab (n + 1) 3 cs) : ∃ x, cs = c3 x ∧ inr x := by
  obtain ⟨x, rfl, h1, h2⟩ := h
  exact ⟨x, rfl, h1, h2⟩
theorem ty22 {n : Nat} {cs : List AV} (h : TyC tab (n + 2) 22 cs) : ∃ xs : List Int, cs = c22 xs ∧ (∀ x ∈ xs, inr x) ∧ xs.length * 8 ≤ 140737488351232 := by
  obtain ⟨rows, rfl, h1, h2, h3⟩ := h
  obtain ⟨xs, rfl, hx⟩ := rows_typed (fun r hr => ty3 hr) rows h3
  exact ⟨xs, rfl, hx, by rw [List.length_map] at h2; exact h2⟩
theorem ty24 {n : Nat} {cs : List AV} (h : TyC tab (n + 2) 24 cs) : ∃ d : Dot, cs = c24 d ∧ inr d.rep ∧ inr d.num := by
  obtain ⟨a, b, rfl, ha, c, d, rfl, hc, rfl⟩ := h
  obtain ⟨x, rfl, hx⟩ := ty3 ha
  obtain ⟨y, rfl, hy⟩ := ty3 hc
  exact ⟨⟨x, y⟩, rfl, hx, hy⟩
theorem law3 {a b : AV} (ha : TyA tab 6 22 a) (hb : TyA tab 6 24 b) : Con Try.prog 3 [a, b] (.b true) := by
  obtain ⟨xs, hx, _⟩ := ty22 (n := 4) (cs := [a]) ha
  obtain ⟨cs, rfl, hb2⟩ := (show ∃ cs, b = .agg cs ∧ TyC tab 6 24 cs from hb)
  obtain ⟨d, rfl, _⟩ := ty24 (n := 4) hb2
  simp only [c22, List.cons.injEq, and_true] at hx
  subst hx
  exact con3 xs d
theorem VectorFinds_lifted (os : Os) (started : os.Started) (H : Type) (enc : TypeId × Value → H) :
    ReturnsInHanded {} Try.checked os 3 .any (Rows.vectorFindsSpec.pre6 enc Try.prog Try.f3 Rows.vectorFindsRow.domain false) (Rows.vectorFindsSpec.post enc Try.prog Try.f3 false true false false) := by
  refine law_lifted (C := Try.checked) [22, 24] 4 6 tab_ok Try.laidOut Try.own started (by kernel_rfl) Try.func3 rfl rfl (by kernel_rfl) (by kernel_rfl) rfl ?_
    (ChangeSpec.witness6 (enc := enc) (C := Try.checked) false ⟨#[], #[.slice none 0 0, .agg #[.int .i64 0, .int .i64 0]], []⟩ 8 (by kernel_rfl) (by kernel_rfl) (by kernel_rfl) (by kernel_rfl)) ?_
  · intro ds hds
    rcases ds with _ | ⟨d1, _ | ⟨d2, _ | ⟨d3, l⟩⟩⟩
    · exact absurd hds (by simp)
    · exact absurd hds (by simp)
    · kernel_rfl
    · exact absurd hds (by simp)
  · intro avs h
    rcases avs with _ | ⟨a, _ | ⟨b, _ | ⟨c, l⟩⟩⟩
    · exact h.elim
    · exact h.2.elim
    · obtain ⟨ha, hb, _⟩ := h
      exact law3 ha hb
    · exact h.2.2.elim
theorem VectorFinds_holds : Rows.VectorFindsSaid :=
  OpenClaim.holds_of_wide 3 Try.f3 rfl rfl rfl rfl rfl rfl rfl ⟨rfl, rfl, rfl, rfl, rfl⟩ rfl rfl rfl rfl rfl (by kernel_rfl) Try.func3 (by kernel_rfl)
    (of_decide_eq_true (by kernel_rfl)) (by unfold Func.isWrapper; first | (rw [if_pos (by decide +kernel)]; kernel_rfl) | (rw [if_neg (by decide +kernel)]; exact ⟨rfl, rfl⟩))
    (fun os started H enc _ => VectorFinds_lifted os started H enc)
end Go.Proofs.Ytoeifjooljkpaaa
