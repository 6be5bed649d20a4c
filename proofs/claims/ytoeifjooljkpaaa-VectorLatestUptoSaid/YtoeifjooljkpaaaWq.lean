/- Wq: plain laws of the sixteen numbers: the forms, the order, the sums. Conditions: none. -/
import Derived.Test.YtoeifjooljkpaaaWm
set_option linter.unusedVariables false
set_option linter.unusedSimpArgs false
namespace Go.Proofs.Ytoeifjooljkpaaa
open Go.E
set_option maxRecDepth 100000
set_option maxHeartbeats 4000000
theorem bang_out (v : List Int) (j : Nat) (h : v.length ≤ j) : v[j]! = 0 := by
  rw [← getD_bang, List.getD_eq_getElem?_getD, List.getElem?_eq_none h]; rfl
theorem of_short {w : Vector Int 16} (h : inRange w) : of (short w) = w := vext fun j hj => by
  rw [of_bang _ j hj]
  by_cases e : j < topN w 16
  · rw [short_get w j e, cap_id (h j hj)]
  · rw [bang_out _ _ (by rw [short_length]; omega), topN_zero w 16 j (by omega) hj]; rfl
theorem short_inj {v w : Vector Int 16} (hv : inRange v) (hw : inRange w) : short v = short w ↔ v = w :=
  ⟨fun h => by rw [← of_short hv, ← of_short hw, h], fun h => by rw [h]⟩
theorem range_zero : inRange (Vector.replicate 16 0) := fun j hj => by simp [hj]
theorem range_merge {v w : Vector Int 16} (hv : inRange v) (hw : inRange w) : inRange (mergeV v w) := fun j hj => by
  rw [get_mergeV _ _ j hj]; have := hv j hj; have := hw j hj; omega
theorem range_meet {v w : Vector Int 16} (hv : inRange v) (hw : inRange w) : inRange (meetV v w) := fun j hj => by
  rw [get_meetV _ _ j hj]; have := hv j hj; have := hw j hj; omega
theorem range_set {v : Vector Int 16} {i : Nat} {x : Int} (hv : inRange v) (h0 : 0 ≤ x) (h1 : x ≤ 1000000000) : inRange (v.setIfInBounds i x) := fun j hj => by
  rw [get_setV hj]; split
  · exact ⟨h0, h1⟩
  · exact hv j hj
theorem range_mergeL {m : Vector Int 16} (hm : inRange m) : ∀ (vs : List (List Int)), inRange (mergeL m vs)
  | [] => hm
  | v :: vs => range_mergeL (range_merge hm (of_range v)) vs
theorem range_meetF : ∀ (vs : List (List Int)) (m : Vector Int 16), inRange m → inRange (vs.foldl (fun m v => meetV m (of v)) m)
  | [], m, hm => hm
  | v :: vs, m, hm => range_meetF vs _ (range_meet hm (of_range v))
theorem range_meetL : ∀ (vs : List (List Int)), inRange (meetL vs)
  | [] => range_zero
  | v :: vs => range_meetF vs _ (of_range v)
theorem merge_zero {v : Vector Int 16} (hv : inRange v) : mergeV (Vector.replicate 16 0) v = v := vext fun j hj => by
  rw [get_mergeV _ _ j hj]; have := hv j hj; simp [hj]; simp [hj] at this; omega
theorem merge2 (a b : List Int) : mergeL (Vector.replicate 16 0) [a, b] = mergeV (of a) (of b) := by
  show mergeV (mergeV (Vector.replicate 16 0) (of a)) (of b) = _
  rw [merge_zero (of_range a)]
theorem merge3 (a b c : List Int) : mergeL (Vector.replicate 16 0) [a, b, c] = mergeV (mergeV (of a) (of b)) (of c) := by
  show mergeV (mergeV (mergeV (Vector.replicate 16 0) (of a)) (of b)) (of c) = _
  rw [merge_zero (of_range a)]
theorem meet2 (a b : List Int) : meetL [a, b] = meetV (of a) (of b) := rfl
theorem of_merge2 (a b : List Int) : of (short (mergeL (Vector.replicate 16 0) [a, b])) = mergeV (of a) (of b) := by
  rw [of_short (range_mergeL range_zero _), merge2]
theorem of_meet2 (a b : List Int) : of (short (meetL [a, b])) = meetV (of a) (of b) := by
  rw [of_short (range_meetL _), meet2]
theorem sgn_cases (b : Bool) : (b = true ∧ sgn b = -1) ∨ (b = false ∧ sgn b = 1) := by cases b <;> simp [sgn]
theorem lexV_range (a b : Vector Int 16) : ∀ n, -1 ≤ lexV a b n ∧ lexV a b n ≤ 1
  | 0 => by simp [lexV]
  | n + 1 => by
    have ih := lexV_range a b n
    unfold lexV
    split
    · exact ih
    · rcases sgn_cases (decide (a[15 - n]! < b[15 - n]!)) with ⟨_, h⟩ | ⟨_, h⟩ <;> omega
theorem lexV_neg (a b : Vector Int 16) : ∀ n, lexV b a n = -lexV a b n
  | 0 => rfl
  | n + 1 => by
    have ih := lexV_neg a b n
    unfold lexV
    by_cases e : a[15 - n]! = b[15 - n]!
    · rw [if_pos e, if_pos e.symm, ih]
    · rw [if_neg e, if_neg (fun h => e h.symm)]
      rcases sgn_cases (decide (a[15 - n]! < b[15 - n]!)) with ⟨h1, h2⟩ | ⟨h1, h2⟩ <;> rcases sgn_cases (decide (b[15 - n]! < a[15 - n]!)) with ⟨h3, h4⟩ | ⟨h3, h4⟩ <;> simp only [decide_eq_true_eq, decide_eq_false_iff_not] at h1 h3 <;> omega
theorem lexV_zero (a b : Vector Int 16) : ∀ n, n ≤ 16 → lexV a b n = 0 → ∀ j, 16 ≤ j + n → j < 16 → a[j]! = b[j]!
  | 0, _, _, j, h1, h2 => by omega
  | n + 1, hn, h, j, h1, h2 => by
    unfold lexV at h
    split at h
    · rename_i e
      by_cases ej : j = 15 - n
      · rw [ej]; exact e
      · exact lexV_zero a b n (by omega) h j (by omega) h2
    · rcases sgn_cases (decide (a[15 - n]! < b[15 - n]!)) with ⟨_, h2⟩ | ⟨_, h2⟩ <;> omega
theorem lexV_trans (a b c : Vector Int 16) : ∀ n, lexV a b n ≤ 0 → lexV b c n ≤ 0 → lexV a c n ≤ 0
  | 0, _, _ => by simp [lexV]
  | n + 1, h1, h2 => by
    have ih := lexV_trans a b c n
    unfold lexV at h1 h2 ⊢
    by_cases e1 : a[15 - n]! = b[15 - n]!
    · rw [if_pos e1] at h1
      by_cases e2 : b[15 - n]! = c[15 - n]!
      · rw [if_pos e2] at h2; rw [if_pos (e1.trans e2)]; exact ih h1 h2
      · rw [if_neg e2] at h2; rw [if_neg (by omega), e1]; exact h2
    · rw [if_neg e1] at h1
      by_cases e2 : b[15 - n]! = c[15 - n]!
      · rw [if_neg (by omega), ← e2]; exact h1
      · rw [if_neg e2] at h2
        rcases sgn_cases (decide (a[15 - n]! < b[15 - n]!)) with ⟨k1, k2⟩ | ⟨k1, k2⟩ <;> rcases sgn_cases (decide (b[15 - n]! < c[15 - n]!)) with ⟨k3, k4⟩ | ⟨k3, k4⟩ <;> simp only [decide_eq_true_eq, decide_eq_false_iff_not] at k1 k3 <;> try omega
        have : ¬ a[15 - n]! = c[15 - n]! := by omega
        rw [if_neg this, decide_eq_true (by omega)]
        simp [sgn]
theorem cmpV_range (a b : Vector Int 16) : -1 ≤ cmpV a b ∧ cmpV a b ≤ 1 := by
  unfold cmpV
  split
  · exact lexV_range a b 16
  · rcases sgn_cases (decide (sumN a 16 < sumN b 16)) with ⟨_, h⟩ | ⟨_, h⟩ <;> omega
theorem cmpV_neg (a b : Vector Int 16) : cmpV b a = -cmpV a b := by
  unfold cmpV
  by_cases e : sumN a 16 = sumN b 16
  · rw [if_pos e, if_pos e.symm, lexV_neg]
  · rw [if_neg e, if_neg (fun h => e h.symm)]
    rcases sgn_cases (decide (sumN a 16 < sumN b 16)) with ⟨h1, h2⟩ | ⟨h1, h2⟩ <;> rcases sgn_cases (decide (sumN b 16 < sumN a 16)) with ⟨h3, h4⟩ | ⟨h3, h4⟩ <;> simp only [decide_eq_true_eq, decide_eq_false_iff_not] at h1 h3 <;> omega
theorem cmpV_zero (a b : Vector Int 16) : cmpV a b = 0 ↔ a = b := by
  constructor
  · intro h
    unfold cmpV at h
    split at h
    · exact vext fun j hj => lexV_zero a b 16 (Nat.le_refl _) h j (by omega) hj
    · rcases sgn_cases (decide (sumN a 16 < sumN b 16)) with ⟨_, h2⟩ | ⟨_, h2⟩ <;> omega
  · rintro rfl
    unfold cmpV
    rw [if_pos rfl, lexV_self]
theorem cmpV_trans (a b c : Vector Int 16) (h1 : cmpV a b ≤ 0) (h2 : cmpV b c ≤ 0) : cmpV a c ≤ 0 := by
  unfold cmpV at h1 h2 ⊢
  by_cases e1 : sumN a 16 = sumN b 16
  · rw [if_pos e1] at h1
    by_cases e2 : sumN b 16 = sumN c 16
    · rw [if_pos e2] at h2; rw [if_pos (e1.trans e2)]; exact lexV_trans a b c 16 h1 h2
    · rw [if_neg e2] at h2; rw [if_neg (by omega), e1]; exact h2
  · rw [if_neg e1] at h1
    by_cases e2 : sumN b 16 = sumN c 16
    · rw [if_neg (by omega), ← e2]; exact h1
    · rw [if_neg e2] at h2
      rcases sgn_cases (decide (sumN a 16 < sumN b 16)) with ⟨k1, k2⟩ | ⟨k1, k2⟩ <;> rcases sgn_cases (decide (sumN b 16 < sumN c 16)) with ⟨k3, k4⟩ | ⟨k3, k4⟩ <;> simp only [decide_eq_true_eq, decide_eq_false_iff_not] at k1 k3 <;> try omega
      have : ¬ sumN a 16 = sumN c 16 := by omega
      rw [if_neg this, decide_eq_true (by omega)]
      simp [sgn]
theorem sumN_le {a b : Vector Int 16} (h : leV a b) : ∀ n, n ≤ 16 → sumN a n ≤ sumN b n
  | 0, _ => Int.le_refl _
  | n + 1, hn => by
    have := sumN_le h n (by omega)
    have := h n (by omega)
    simp only [sumN]; omega
theorem sumN_lt {a b : Vector Int 16} (h : leV a b) : ∀ n, n ≤ 16 → sumN a n = sumN b n → ∀ j, j < n → a[j]! = b[j]!
  | 0, _, _, j, hj => by omega
  | n + 1, hn, e, j, hj => by
    have h1 := sumN_le h n (by omega)
    have h2 := h n (by omega)
    simp only [sumN] at e
    by_cases ej : j = n
    · subst ej; omega
    · exact sumN_lt h n (by omega) (by omega) j (by omega)
theorem cmpV_le {a b : Vector Int 16} (h : leV a b) (hn : ¬ leV b a) : cmpV a b = -1 := by
  have h1 := sumN_le h 16 (Nat.le_refl _)
  have h2 : ¬ sumN a 16 = sumN b 16 := fun e => hn fun j hj => by have := sumN_lt h 16 (Nat.le_refl _) e j hj; omega
  unfold cmpV
  rw [if_neg h2, decide_eq_true (by omega)]
  rfl
theorem sum_mm (a b : Vector Int 16) : ∀ n, n ≤ 16 → sumN (mergeV a b) n + sumN (meetV a b) n = sumN a n + sumN b n
  | 0, _ => rfl
  | n + 1, hn => by
    have := sum_mm a b n (by omega)
    have h1 := get_mergeV a b n (by omega)
    have h2 := get_meetV a b n (by omega)
    simp only [sumN, h1, h2]; omega
theorem le_most (a b : Vector Int 16) : decide (leV a b) = (decide (ordV a b = 0) || decide (ordV a b = 1)) := by
  rcases ordV_cases a b with ⟨c1, c2, e⟩ | ⟨c1, c2, e⟩ | ⟨c1, c2, e⟩ | ⟨c1, c2, e⟩ <;> rw [e] <;> simp [c1]
theorem le_merge_left (a b : Vector Int 16) : leV a (mergeV a b) := fun j hj => by rw [get_mergeV _ _ j hj]; omega
theorem le_merge_right (a b : Vector Int 16) : leV b (mergeV a b) := fun j hj => by rw [get_mergeV _ _ j hj]; omega
theorem meet_le_left (a b : Vector Int 16) : leV (meetV a b) a := fun j hj => by rw [get_meetV _ _ j hj]; omega
theorem meet_le_right (a b : Vector Int 16) : leV (meetV a b) b := fun j hj => by rw [get_meetV _ _ j hj]; omega
theorem merge_le {a b c : Vector Int 16} (h1 : leV a c) (h2 : leV b c) : leV (mergeV a b) c := fun j hj => by rw [get_mergeV _ _ j hj]; have := h1 j hj; have := h2 j hj; omega
theorem le_meet {a b c : Vector Int 16} (h1 : leV c a) (h2 : leV c b) : leV c (meetV a b) := fun j hj => by rw [get_meetV _ _ j hj]; have := h1 j hj; have := h2 j hj; omega
theorem merge_assoc' (a b c : Vector Int 16) : mergeV (mergeV a b) c = mergeV (mergeV a (mergeV b c)) a := vext fun j hj => by
  simp only [get_mergeV _ _ j hj]; omega
def hit (d : Dot) (s : Span) : Bool := decide (s.rep = d.rep ∧ s.lo ≤ d.num ∧ d.num ≤ s.hi)
def inv8 (l : List Span) (d : Dot) (y : Bool) (i r n : Int) : Prop := 0 ≤ i ∧ i ≤ l.length ∧ r = d.rep ∧ n = d.num ∧ y = (l.take i.toNat).any (hit d)
def dec8 (l : List Span) (y : Bool) (i r n : Int) : Nat := (l.length - i).toNat
theorem behN_mem {a b : Vector Int 16} (ha : inRange a) : ∀ n, n ≤ 16 → ∀ s ∈ behN a b n, 1 ≤ s.lo ∧ s.lo ≤ s.hi
  | 0, _, s, h => by simp [behN] at h
  | n + 1, hn, s, h => by
    unfold behN at h
    split at h
    · rcases List.mem_append.1 h with h | h
      · exact behN_mem ha n (by omega) s h
      · rw [List.mem_singleton.1 h]; have := ha n (by omega); exact ⟨by show 1 ≤ a[n]! + 1; omega, by show a[n]! + 1 ≤ b[n]!; omega⟩
    · exact behN_mem ha n (by omega) s h
theorem behN_any (a b : Vector Int 16) (d : Dot) : ∀ n, n ≤ 16 → ((behN a b n).any (hit d) = true ↔ 0 ≤ d.rep ∧ d.rep < n ∧ a[d.rep.toNat]! < d.num ∧ d.num ≤ b[d.rep.toNat]!)
  | 0, _ => by simp [behN]; omega
  | n + 1, hn => by
    have ih := behN_any a b d n (by omega)
    have key : (0 ≤ d.rep ∧ d.rep < (n + 1 : Nat) ∧ a[d.rep.toNat]! < d.num ∧ d.num ≤ b[d.rep.toNat]!) ↔ (0 ≤ d.rep ∧ d.rep < n ∧ a[d.rep.toNat]! < d.num ∧ d.num ≤ b[d.rep.toNat]!) ∨ ((n : Int) = d.rep ∧ a[n]! < d.num ∧ d.num ≤ b[n]!) := by
      constructor
      · rintro ⟨h1, h2, h3, h4⟩
        by_cases e : d.rep = n
        · right; have e2 : d.rep.toNat = n := by omega
          rw [e2] at h3 h4; exact ⟨e.symm, h3, h4⟩
        · left; exact ⟨h1, by omega, h3, h4⟩
      · rintro (⟨h1, h2, h3, h4⟩ | ⟨h1, h2, h3⟩)
        · exact ⟨h1, by omega, h3, h4⟩
        · have e2 : d.rep.toNat = n := by omega
          rw [e2]; exact ⟨by omega, by omega, h2, h3⟩
    rw [key, ← ih, behN]
    split
    · rw [List.any_append, Bool.or_eq_true]
      refine or_congr Iff.rfl ?_
      simp only [List.any_cons, List.any_nil, Bool.or_false, hit, decide_eq_true_eq]
      constructor
      · rintro ⟨h1, h2, h3⟩; exact ⟨h1, by omega, h3⟩
      · rintro ⟨h1, h2, h3⟩; exact ⟨h1, by omega, h3⟩
    · rename_i hab
      constructor
      · intro h; exact .inl h
      · rintro (h | ⟨_, h2, h3⟩)
        · exact h
        · omega
theorem any_step {α : Type} [Inhabited α] (p : α → Bool) {l : List α} {i : Int} (h0 : 0 ≤ i) (h : i < l.length) : (l.take (i + 1).toNat).any p = ((l.take i.toNat).any p || p l[i.toNat]!) := by
  rw [← take_step h0 h, List.any_append]; simp
def spanSum : List Span → Int
  | [] => 0
  | s :: l => (s.hi - s.lo + 1) + spanSum l
theorem spanSum_append : ∀ (l m : List Span), spanSum (l ++ m) = spanSum l + spanSum m
  | [], m => by simp [spanSum]
  | s :: l, m => by simp only [List.cons_append, spanSum, spanSum_append l m]; omega
theorem spanSum_step {l : List Span} {i : Int} (h0 : 0 ≤ i) (h : i < l.length) : spanSum (l.take (i + 1).toNat) = spanSum (l.take i.toNat) + (l[i.toNat]!.hi - l[i.toNat]!.lo + 1) := by
  rw [← take_step h0 h, spanSum_append]; simp [spanSum]
theorem behN_sum {a b : Vector Int 16} (h : leV a b) : ∀ n, n ≤ 16 → spanSum (behN a b n) = sumN b n - sumN a n
  | 0, _ => rfl
  | n + 1, hn => by
    have ih := behN_sum h n (by omega)
    have := h n (by omega)
    unfold behN
    split
    · rw [spanSum_append, ih]; simp only [spanSum, sumN]; omega
    · rw [ih]; simp only [sumN]; omega
theorem behN_hi {a b : Vector Int 16} (ha : inRange a) (hb : inRange b) : ∀ n, n ≤ 16 → ∀ s ∈ behN a b n, 1 ≤ s.lo ∧ s.lo ≤ s.hi ∧ s.hi ≤ 1000000000
  | 0, _, s, h => by simp [behN] at h
  | n + 1, hn, s, h => by
    unfold behN at h
    split at h
    · rcases List.mem_append.1 h with h | h
      · exact behN_hi ha hb n (by omega) s h
      · rw [List.mem_singleton.1 h]; have := ha n (by omega); have := hb n (by omega); exact ⟨by show 1 ≤ a[n]! + 1; omega, by show a[n]! + 1 ≤ b[n]!; omega, by show b[n]! ≤ _; omega⟩
    · exact behN_hi ha hb n (by omega) s h
theorem behN_len (a b : Vector Int 16) : ∀ n, (behN a b n).length ≤ n
  | 0 => by simp [behN]
  | n + 1 => by
    have := behN_len a b n
    unfold behN
    split
    · simp only [List.length_append, List.length_cons, List.length_nil]; omega
    · omega
def inv11 (v reps : List Int) (now : List Int) (given i : Int) : Prop := 0 ≤ i ∧ i ≤ reps.length ∧ 0 ≤ given ∧ now = short (of now) ∧ leV (of v) (of now) ∧ given = sumN (of now) 16 - sumN (of v) 16
def dec11 (reps : List Int) (now : List Int) (given i : Int) : Nat := (reps.length - i).toNat
def inv11b (l : List Span) (n i : Int) : Prop := 0 ≤ i ∧ i ≤ l.length ∧ n = spanSum (l.take i.toNat) ∧ 0 ≤ n ∧ n ≤ i * 1000000000
def dec11b (l : List Span) (n i : Int) : Nat := (l.length - i).toNat
theorem at_short {w : Vector Int 16} (h : inRange w) (r : Int) : at' (short w) r = if 0 ≤ r ∧ r < 16 then w[r.toNat]! else 0 := by
  unfold at'; rw [of_short h]
theorem has_merge2 (a b : List Int) (d : Dot) : has (short (mergeL (Vector.replicate 16 0) [a, b])) d = (has a d || has b d) := by
  unfold has
  rw [at_short (range_mergeL range_zero _), merge2, ← Bool.decide_or, decide_eq_decide]
  unfold at'
  split
  · rename_i h; rw [get_mergeV _ _ _ (by omega)]; omega
  · omega
theorem has_meet2 (a b : List Int) (d : Dot) : has (short (meetL [a, b])) d = (has a d && has b d) := by
  unfold has
  rw [at_short (range_meetL _), meet2, ← Bool.decide_and, decide_eq_decide]
  unfold at'
  split
  · rename_i h; rw [get_meetV _ _ _ (by omega)]; omega
  · omega
theorem has_iff (v : List Int) (d : Dot) : has v d = true ↔ 1 ≤ d.num ∧ d.num ≤ (if 0 ≤ d.rep ∧ d.rep < 16 then (of v)[d.rep.toNat]! else 0) := by
  unfold has at'; rw [decide_eq_true_iff]
theorem hit_has (a b : List Int) (d : Dot) : (behN (of a) (of b) 16).any (hit d) = (has b d && !has a d) := by
  rw [Bool.eq_iff_iff, behN_any _ _ _ 16 (Nat.le_refl _)]
  have ra := of_range a
  have e : (has b d && !has a d) = true ↔ has b d = true ∧ ¬ has a d = true := by cases has a d <;> cases has b d <;> simp
  rw [e, has_iff, has_iff]
  by_cases h : 0 ≤ d.rep ∧ d.rep < 16
  · rw [if_pos h, if_pos h]
    have := ra d.rep.toNat (by omega)
    omega
  · rw [if_neg h, if_neg h]
    omega
theorem sum_set (w : Vector Int 16) (i : Nat) (hi : i < 16) (x : Int) : ∀ n, n ≤ 16 → sumN (w.setIfInBounds i x) n = sumN w n + if i < n then x - w[i]! else 0
  | 0, _ => by simp [sumN]
  | n + 1, hn => by
    have ih := sum_set w i hi x n (by omega)
    simp only [sumN, ih, get_setV (show n < 16 by omega)]
    by_cases e : i = n
    · subst e; rw [if_neg (by omega), if_pos rfl, if_pos (by omega)]; omega
    · rw [if_neg e]
      by_cases e2 : i < n
      · rw [if_pos e2, if_pos (by omega)]; omega
      · rw [if_neg e2, if_neg (by omega)]; omega
theorem bump_facts (w : List Int) (rep limit : Int) :
    ((bumpV w rep limit).2.2 = 0 ∧ has w (bumpV w rep limit).2.1 = false ∧ has (bumpV w rep limit).1 (bumpV w rep limit).2.1 = true ∧ (bumpV w rep limit).2.1.rep = rep ∧ (bumpV w rep limit).2.1.num ≤ limit ∧
      sumN (of (bumpV w rep limit).1) 16 = sumN (of w) 16 + 1 ∧ ordV (of (bumpV w rep limit).1) (of w) = 2 ∧ (bumpV w rep limit).1 = short (of (bumpV w rep limit).1) ∧ leV (of w) (of (bumpV w rep limit).1)) ∨
    (¬ (bumpV w rep limit).2.2 = 0 ∧ (bumpV w rep limit).1 = [] ∧ (bumpV w rep limit).2.1 = ⟨0, 0⟩ ∧ (((bumpV w rep limit).2.2 = 3 ∧ ¬ (0 ≤ rep ∧ rep < 16)) ∨ ((bumpV w rep limit).2.2 = 9 ∧ ¬ (at' w rep < limit ∧ at' w rep < 1000000000)))) := by
  unfold bumpV
  by_cases h : 0 ≤ rep ∧ rep < 16
  · rw [if_pos h]
    by_cases h2 : (of w)[rep.toNat]! < min limit 1000000000
    · rw [if_pos h2]
      left
      have hr := of_range w rep.toNat (by omega)
      have hR : inRange ((of w).setIfInBounds rep.toNat ((of w)[rep.toNat]! + 1)) := range_set (of_range w) (by omega) (by omega)
      dsimp only
      rw [of_short hR]
      have hg : ((of w).setIfInBounds rep.toNat ((of w)[rep.toNat]! + 1))[rep.toNat]! = (of w)[rep.toNat]! + 1 := by rw [get_setV (by omega), if_pos rfl]
      have hle : leV (of w) ((of w).setIfInBounds rep.toNat ((of w)[rep.toNat]! + 1)) := fun j hj => by
        rw [get_setV hj]; split
        · rename_i e; rw [← e]; omega
        · omega
      refine ⟨rfl, ?_, ?_, rfl, by omega, ?_, ?_, rfl, hle⟩
      · rw [← Bool.not_eq_true, has_iff]; dsimp only; rw [if_pos h]; omega
      · rw [has_iff]; dsimp only; rw [if_pos h, of_short hR, hg]; omega
      · rw [sum_set _ _ (by omega) _ 16 (Nat.le_refl _), if_pos (by omega)]; omega
      · have hn : ¬ leV ((of w).setIfInBounds rep.toNat ((of w)[rep.toNat]! + 1)) (of w) := fun k => by
          have := k rep.toNat (by omega); rw [hg] at this; omega
        rcases ordV_cases ((of w).setIfInBounds rep.toNat ((of w)[rep.toNat]! + 1)) (of w) with ⟨c1, c2, e⟩ | ⟨c1, c2, e⟩ | ⟨c1, c2, e⟩ | ⟨c1, c2, e⟩
        · exact absurd c1 hn
        · exact absurd c1 hn
        · exact e
        · exact absurd hle c2
    · rw [if_neg h2]
      right
      refine ⟨by decide, rfl, rfl, .inr ⟨rfl, ?_⟩⟩
      rw [at_in h]; omega
  · rw [if_neg h]
    right
    exact ⟨by decide, rfl, rfl, .inl ⟨rfl, h⟩⟩
end Go.Proofs.Ytoeifjooljkpaaa
