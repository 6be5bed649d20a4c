/- Wx: what is handed in, by its types. Conditions: none. -/
import Derived.Test.YtjngmlkaijpbgaaBa
import Derived.Test.YtjngmlkaijpbgaaEN
import Derived.Test.YtjngmlkaijpbgaaRows
set_option linter.unusedVariables false
set_option linter.unusedSimpArgs false
namespace Go.Proofs.Ytjngmlkaijpbgaa
open Go.E
set_option maxRecDepth 100000
set_option maxHeartbeats 4000000
open Go.ChangeShapes Go.WideShapes Go.ChangeAt Go.RowKit Go
theorem Try.own : Go.ownKnob Try.prog.godebug = none := by kernel_rfl
theorem Try.laidOut : laidOutB Try.prog = true := by kernel_rfl
def inr (n : Int) : Prop := -9223372036854775808 ≤ n ∧ n ≤ 9223372036854775807
theorem ty3 {L n : Nat} {cs : List AV} (h : TyC tab L (n + 1) 3 cs) : ∃ x, cs = c3 x ∧ inr x := by
  obtain ⟨x, rfl, h1, h2⟩ := h
  exact ⟨x, rfl, h1, h2⟩
theorem ty33 {L n : Nat} {cs : List AV} (h : TyC tab L (n + 2) 33 cs) : ∃ xs : List Int, cs = c33 xs ∧ sz22 xs := by
  obtain ⟨rows, rfl, h1, h2, hL, h3⟩ := h
  obtain ⟨xs, rfl, hx⟩ := rows_typed (fun r hr => ty3 hr) rows h3
  exact ⟨xs, rfl, by rw [List.length_map] at h2; exact h2⟩
theorem ty26 {L n : Nat} {cs : List AV} (h : TyC tab L (n + 2) 26 cs) : ∃ d : Dot, cs = c26 d ∧ inr d.rep ∧ inr d.num := by
  obtain ⟨a, b, rfl, ha, c, d, rfl, hc, rfl⟩ := h
  obtain ⟨x, rfl, hx⟩ := ty3 ha
  obtain ⟨y, rfl, hy⟩ := ty3 hc
  exact ⟨⟨x, y⟩, rfl, hx, hy⟩
theorem one_eq {a b : AV} (h : [a] = [b]) : a = b := by simpa using h
theorem ta3 {L : Nat} {a : AV} (h : TyA tab L 9 3 a) : ∃ x, a = .i .i64 x ∧ inr x := by
  obtain ⟨x, hx, k⟩ := ty3 (L := L) (n := 8) (cs := [a]) h
  exact ⟨x, one_eq hx, k⟩
theorem ta33 {L : Nat} {a : AV} (h : TyA tab L 9 33 a) : ∃ x : List Int, a = .sl (x.map c3) ∧ sz22 x := by
  obtain ⟨x, hx, k⟩ := ty33 (L := L) (n := 7) (cs := [a]) h
  exact ⟨x, one_eq hx, k⟩
theorem ta26 {L : Nat} {a : AV} (h : TyA tab L 9 26 a) : ∃ x : Dot, a = .agg (c26 x) ∧ inr x.rep ∧ inr x.num := by
  obtain ⟨cs, rfl, h2⟩ := (show ∃ cs, a = .agg cs ∧ TyC tab L 9 26 cs from h)
  obtain ⟨d, rfl, k⟩ := ty26 (L := L) (n := 7) h2
  exact ⟨d, rfl, k⟩
theorem ty9 {L n : Nat} {cs : List AV} (h : TyC tab L (n + 1) 9 cs) : ∃ s : ByteArray, cs = [.s s] ∧ s.size ≤ 140737488351232 := by
  obtain ⟨s, rfl, _, h2, _⟩ := h
  exact ⟨s, rfl, h2⟩
theorem ta9 {L : Nat} {a : AV} (h : TyA tab L 9 9 a) : ∃ s : ByteArray, a = .s s ∧ s.size ≤ 140737488351232 := by
  obtain ⟨x, hx, k⟩ := ty9 (L := L) (n := 8) (cs := [a]) h
  exact ⟨x, one_eq hx, k⟩
theorem ty81 {L n : Nat} {cs : List AV} (h : TyC tab L (n + 2) 81 cs) : ∃ d : Span, cs = c81 d ∧ inr d.rep ∧ inr d.lo ∧ inr d.hi := by
  obtain ⟨a, b, rfl, ha, c, d, rfl, hc, e, f, rfl, he, rfl⟩ := h
  obtain ⟨x, rfl, hx⟩ := ty3 ha
  obtain ⟨y, rfl, hy⟩ := ty3 hc
  obtain ⟨z, rfl, hz⟩ := ty3 he
  exact ⟨⟨x, y, z⟩, rfl, hx, hy, hz⟩
def inE (e : Entry) : Prop := inr e.dot.rep ∧ inr e.dot.num ∧ e.sku.size ≤ 140737488351232 ∧ inr e.qty
theorem ty28 {L n : Nat} {cs : List AV} (h : TyC tab L (n + 3) 28 cs) : ∃ e : Entry, cs = c28 e ∧ inE e := by
  obtain ⟨a, b, rfl, ha, c, d, rfl, hc, e, f, rfl, he, rfl⟩ := h
  obtain ⟨x, rfl, hx⟩ := ty26 ha
  obtain ⟨y, rfl, hy⟩ := ty9 hc
  obtain ⟨z, rfl, hz⟩ := ty3 he
  exact ⟨⟨x, y, z⟩, rfl, hx.1, hx.2, hy, hz⟩
theorem ty22 {L n : Nat} {cs : List AV} (h : TyC tab L (n + 4) 22 cs) : ∃ xs : List Entry, cs = [.sl (xs.map c28)] ∧ ((∀ x ∈ xs, inE x) ∧ xs.length * 40 ≤ 140737488351232) ∧ xs.length ≤ L := by
  obtain ⟨rows, rfl, h1, h2, hL, h3⟩ := h
  obtain ⟨xs, rfl, hx⟩ := rows_typed (fun r hr => ty28 hr) rows h3
  exact ⟨xs, rfl, ⟨hx, by rw [List.length_map] at h2; exact h2⟩, by rw [List.length_map] at hL; exact hL⟩
theorem ta22 {L : Nat} {a : AV} (h : TyA tab L 9 22 a) : ∃ xs : List Entry, a = .sl (xs.map c28) ∧ ((∀ x ∈ xs, inE x) ∧ xs.length * 40 ≤ 140737488351232) ∧ xs.length ≤ L := by
  obtain ⟨x, hx, k⟩ := ty22 (L := L) (n := 5) (cs := [a]) h
  exact ⟨x, one_eq hx, k⟩
theorem ty34 {L n : Nat} {cs : List AV} (h : TyC tab L (n + 3) 34 cs) : ∃ xs : List Span, cs = [.sl (xs.map c81)] ∧ (∀ x ∈ xs, inr x.rep ∧ inr x.lo ∧ inr x.hi) ∧ xs.length * 24 ≤ 140737488351232 := by
  obtain ⟨rows, rfl, h1, h2, hL, h3⟩ := h
  obtain ⟨xs, rfl, hx⟩ := rows_typed (fun r hr => ty81 hr) rows h3
  exact ⟨xs, rfl, hx, by rw [List.length_map] at h2; exact h2⟩
def inP (p : Past) : Prop := p.vec.length * 8 ≤ 140737488351232 ∧ (∀ x ∈ p.cloud, inr x.rep ∧ inr x.lo ∧ inr x.hi) ∧ p.cloud.length * 24 ≤ 140737488351232
theorem ty36 {L n : Nat} {cs : List AV} (h : TyC tab L (n + 4) 36 cs) : ∃ p : Past, cs = c36 p ∧ inP p := by
  obtain ⟨a, b, rfl, ha, c, d, rfl, hc, rfl⟩ := h
  obtain ⟨x, rfl, hx⟩ := ty33 (L := L) (n := n + 1) ha
  obtain ⟨y, rfl, hy⟩ := ty34 hc
  exact ⟨⟨x, y⟩, rfl, hx, hy⟩
def inC (c : Case) : Prop := ((∀ x ∈ c.a, inE x) ∧ c.a.length * 40 ≤ 140737488351232) ∧ ((∀ x ∈ c.b, inE x) ∧ c.b.length * 40 ≤ 140737488351232) ∧ inP c.p ∧ c.sku.size ≤ 140737488351232
theorem ty38 {L n : Nat} {cs : List AV} (h : TyC tab L (n + 5) 38 cs) : ∃ c : Case, cs = c38 c ∧ inC c ∧ c.a.length ≤ L ∧ c.b.length ≤ L := by
  obtain ⟨a, b, rfl, ha, a2, b2, rfl, ha2, a3, b3, rfl, ha3, a4, b4, rfl, ha4, a5, b5, rfl, ha5, a6, b6, rfl, ha6, rfl⟩ := h
  obtain ⟨x1, rfl, h1⟩ := ty22 ha
  obtain ⟨x2, rfl, h2⟩ := ty22 ha2
  obtain ⟨x3, rfl, h3⟩ := ty36 ha3
  obtain ⟨x4, rfl, h4⟩ := ty26 (L := L) (n := n + 2) ha4
  obtain ⟨x5, rfl, h5⟩ := ty3 (L := L) (n := n + 3) ha5
  obtain ⟨x6, rfl, h6⟩ := ty9 (L := L) (n := n + 3) ha6
  exact ⟨⟨x1, x2, x3, x4, x5, x6⟩, rfl, ⟨h1.1, h2.1, h3, h6⟩, h1.2, h2.2⟩
theorem ta38 {L : Nat} {a : AV} (h : TyA tab L 9 38 a) : ∃ c : Case, a = .agg (c38 c) ∧ inC c ∧ c.a.length ≤ L ∧ c.b.length ≤ L := by
  obtain ⟨cs, rfl, h2⟩ := (show ∃ cs, a = .agg cs ∧ TyC tab L 9 38 cs from h)
  obtain ⟨d, rfl, k⟩ := ty38 (L := L) (n := 4) h2
  exact ⟨d, rfl, k⟩
mutual
theorem bulk_eq {H : Type} : ∀ d : DataW H, Rows.uptoBulk d = bulkD d
  | .lit l => by cases l <;> simp [Rows.uptoBulk, bulkD]
  | .nil => by simp [Rows.uptoBulk, bulkD]
  | .ptr d => by simp only [Rows.uptoBulk, bulkD, bulk_eq d]
  | .slice elems spare => by simp only [Rows.uptoBulk, bulkD, bulks_eq elems, bulks_eq spare]
  | .agg parts => by simp only [Rows.uptoBulk, bulkD, bulks_eq parts]
  | .iface _ d => by simp only [Rows.uptoBulk, bulkD, bulk_eq d]
  | .map entries => by simp only [Rows.uptoBulk, bulkD, bulkm_eq entries]
  | .held _ => by simp [Rows.uptoBulk, bulkD]
theorem bulks_eq {H : Type} : ∀ l : List (DataW H), Rows.uptoBulkAll l = bulkDs l
  | [] => by simp [Rows.uptoBulkAll, bulkDs]
  | d :: r => by simp only [Rows.uptoBulkAll, bulkDs, bulk_eq d, bulks_eq r]
theorem bulkm_eq {H : Type} : ∀ l : List (Lit × DataW H), Rows.uptoBulkEntries l = bulkDm l
  | [] => by simp [Rows.uptoBulkEntries, bulkDm]
  | x :: r => by simp only [Rows.uptoBulkEntries, bulkDm, bulke_eq x, bulkm_eq r]
theorem bulke_eq {H : Type} : ∀ x : Lit × DataW H, Rows.uptoBulkEntry x = bulkDe x
  | (l, d) => by cases l <;> simp only [Rows.uptoBulkEntry, bulkDe, bulk_eq d]
end
theorem bulk_small {H : Type} (ds : List (DataW H)) (h : Rows.uptoSmall H ds = true) : bulkDs ds ≤ 1048576 := by
  rw [← bulks_eq]
  exact of_decide_eq_true h
end Go.Proofs.Ytjngmlkaijpbgaa
