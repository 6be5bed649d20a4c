/- Wx: what is handed in, by its types. Conditions: none. -/
import Derived.Test.YtoeifjooljkpaaaWb
import Derived.Test.YtoeifjooljkpaaaEN
import Derived.Test.YtoeifjooljkpaaaRows
set_option linter.unusedVariables false
set_option linter.unusedSimpArgs false
namespace Go.Proofs.Ytoeifjooljkpaaa
open Go.E Go.ChangeShapes Go.WideShapes Go.ChangeAt Go.RowKit
set_option maxRecDepth 100000
theorem Try.own : ownKnob Try.prog.godebug = none := by kernel_rfl
theorem Try.laidOut : laidOutB Try.prog = true := by kernel_rfl
def inr (n : Int) : Prop := -9223372036854775808 ≤ n ∧ n ≤ 9223372036854775807
theorem ty3 {n : Nat} {cs : List AV} (h : TyC tab (n + 1) 3 cs) : ∃ x, cs = c3 x ∧ inr x := by
  obtain ⟨x, rfl, h1, h2⟩ := h
  exact ⟨x, rfl, h1, h2⟩
theorem ty22 {n : Nat} {cs : List AV} (h : TyC tab (n + 2) 22 cs) : ∃ xs : List Int, cs = c22 xs ∧ (∀ x ∈ xs, inr x) ∧ xs.length * 8 ≤ 140737488351232 := by
  obtain ⟨rows, rfl, h1, h2, h3⟩ := h
  obtain ⟨xs, rfl, hx⟩ := rows_typed (fun r hr => ty3 hr) rows h3
  exact ⟨xs, rfl, hx, by rw [List.length_map] at h2; exact h2⟩
theorem ty24 {n : Nat} {cs : List AV} (h : TyC tab (n + 2) 24 cs) : ∃ d : Dot, cs = c24 d ∧ inr d.rep ∧ inr d.num := by
  obtain ⟨a, b, rfl, ha, c, d, rfl, hc, rfl⟩ := h
  obtain ⟨x, rfl, hx⟩ := ty3 ha
  obtain ⟨y, rfl, hy⟩ := ty3 hc
  exact ⟨⟨x, y⟩, rfl, hx, hy⟩
end Go.Proofs.Ytoeifjooljkpaaa
