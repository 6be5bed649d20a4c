/- Wx: what is handed in, by its types. Conditions: none. -/
import Derived.Test.YtoeifjooljkpaaaWb
import Derived.Test.YtoeifjooljkpaaaEN
import Derived.Test.YtoeifjooljkpaaaRows
set_option linter.unusedVariables false
set_option linter.unusedSimpArgs false
namespace Go.Proofs.Ytoeifjooljkpaaa
open Go.E
set_option maxRecDepth 100000
set_option maxHeartbeats 4000000
open Go.ChangeShapes Go.WideShapes Go.ChangeAt Go.RowKit Go
theorem Try.own : Go.ownKnob Try.prog.godebug = none := by kernel_rfl
theorem Try.laidOut : laidOutB Try.prog = true := by kernel_rfl
def inr (n : Int) : Prop := -9223372036854775808 ≤ n ∧ n ≤ 9223372036854775807
theorem ty3 {n : Nat} {cs : List AV} (h : TyC tab (n + 1) 3 cs) : ∃ x, cs = c3 x ∧ inr x := by
  obtain ⟨x, rfl, h1, h2⟩ := h
  exact ⟨x, rfl, h1, h2⟩
theorem ty22 {n : Nat} {cs : List AV} (h : TyC tab (n + 2) 22 cs) : ∃ xs : List Int, cs = c22 xs ∧ sz22 xs := by
  obtain ⟨rows, rfl, h1, h2, h3⟩ := h
  obtain ⟨xs, rfl, hx⟩ := rows_typed (fun r hr => ty3 hr) rows h3
  exact ⟨xs, rfl, by rw [List.length_map] at h2; exact h2⟩
theorem ty38 {n : Nat} {cs : List AV} (h : TyC tab (n + 3) 38 cs) : ∃ xs : List (List Int), cs = c38 xs ∧ sz38 xs := by
  obtain ⟨rows, rfl, h1, h2, h3⟩ := h
  obtain ⟨xs, rfl, hx⟩ := rows_typed (fun r hr => ty22 hr) rows h3
  exact ⟨xs, rfl, by rw [List.length_map] at h2; exact h2, hx⟩
theorem ty24 {n : Nat} {cs : List AV} (h : TyC tab (n + 2) 24 cs) : ∃ d : Dot, cs = c24 d ∧ inr d.rep ∧ inr d.num := by
  obtain ⟨a, b, rfl, ha, c, d, rfl, hc, rfl⟩ := h
  obtain ⟨x, rfl, hx⟩ := ty3 ha
  obtain ⟨y, rfl, hy⟩ := ty3 hc
  exact ⟨⟨x, y⟩, rfl, hx, hy⟩
theorem one_eq {a b : AV} (h : [a] = [b]) : a = b := by simpa using h
theorem ta3 {a : AV} (h : TyA tab 9 3 a) : ∃ x, a = .i .i64 x ∧ inr x := by
  obtain ⟨x, hx, k⟩ := ty3 (n := 8) (cs := [a]) h
  exact ⟨x, one_eq hx, k⟩
theorem ta22 {a : AV} (h : TyA tab 9 22 a) : ∃ x : List Int, a = .sl (x.map c3) ∧ sz22 x := by
  obtain ⟨x, hx, k⟩ := ty22 (n := 7) (cs := [a]) h
  exact ⟨x, one_eq hx, k⟩
theorem ta38 {a : AV} (h : TyA tab 9 38 a) : ∃ x : List (List Int), a = .sl (x.map c22) ∧ sz38 x := by
  obtain ⟨x, hx, k⟩ := ty38 (n := 6) (cs := [a]) h
  exact ⟨x, one_eq hx, k⟩
theorem ta24 {a : AV} (h : TyA tab 9 24 a) : ∃ x : Dot, a = .agg (c24 x) ∧ inr x.rep ∧ inr x.num := by
  obtain ⟨cs, rfl, h2⟩ := (show ∃ cs, a = .agg cs ∧ TyC tab 9 24 cs from h)
  obtain ⟨d, rfl, k⟩ := ty24 (n := 7) h2
  exact ⟨d, rfl, k⟩
end Go.Proofs.Ytoeifjooljkpaaa
