/- Wp: plain laws of the sixteen numbers and of the list in form. Conditions: none. -/
import Derived.Test.YtoeifjooljkpaaaWb
set_option linter.unusedVariables false
set_option linter.unusedSimpArgs false
namespace Go.Proofs.Ytoeifjooljkpaaa
theorem topN_le (w : Vector Int 16) : ∀ n, topN w n ≤ n
  | 0 => Nat.le_refl _
  | n + 1 => by
    unfold topN
    split
    · have := topN_le w n; omega
    · omega
theorem topN_zero (w : Vector Int 16) : ∀ n j, topN w n ≤ j → j < n → w[j]! = 0
  | 0, j, _, h => by omega
  | n + 1, j, h, hj => by
    unfold topN at h
    split at h
    · rename_i hz
      by_cases e : j = n
      · rw [e]; exact hz
      · exact topN_zero w n j h (by omega)
    · omega
theorem topN_last (w : Vector Int 16) : ∀ n, 0 < topN w n → w[topN w n - 1]! ≠ 0
  | 0, h => by simp [topN] at h
  | n + 1, h => by
    unfold topN at h ⊢
    split at h
    · rename_i hz
      rw [if_pos hz]
      exact topN_last w n h
    · rename_i hz
      rw [if_neg hz]
      simpa using hz
theorem topN_eq (w : Vector Int 16) (m : Nat) (hl : m = 0 ∨ w[m - 1]! ≠ 0) : ∀ n, m ≤ n → (∀ j, m ≤ j → j < n → w[j]! = 0) → topN w n = m
  | 0, hm, _ => by have : m = 0 := by omega
                   rw [this]; rfl
  | n + 1, hm, hz => by
    unfold topN
    by_cases e : m = n + 1
    · subst e
      rcases hl with h | h
      · omega
      · rw [if_neg (by simpa using h)]
    · rw [if_pos (hz n (by omega) (by omega))]
      exact topN_eq w m hl n (by omega) fun j h1 h2 => hz j h1 (by omega)
theorem short_length (w : Vector Int 16) : (short w).length = topN w 16 := by
  have := topN_le w 16
  simp [short]
  omega
theorem short_get (w : Vector Int 16) (j : Nat) (hj : j < topN w 16) : (short w)[j]! = w[j]! := by
  have := topN_le w 16
  have hj' : j < 16 := by omega
  have h2 : j < (short w).length := by rw [short_length]; exact hj
  rw [getElem!_pos (short w) j h2]
  simp [short, hj']
theorem bang_ext {a b : List Int} (hl : a.length = b.length) (h : ∀ j, j < a.length → a[j]! = b[j]!) : a = b := by
  apply List.ext_getElem hl
  intro j h1 h2
  have := h j h1
  simpa [h1, h2] using this
theorem of_bang (v : List Int) (j : Nat) (hj : j < 16) : (of v)[j]! = cap v[j]! := by rw [get_of v j hj, getD_bang]
theorem cap_id {n : Int} (h : 0 ≤ n ∧ n ≤ 1000000000) : cap n = n := by unfold cap; omega
theorem cap_range (n : Int) : 0 ≤ cap n ∧ cap n ≤ 1000000000 := by unfold cap; omega
theorem norm_iff (v : List Int) : v = short (of v) ↔ v.length ≤ 16 ∧ (∀ j, j < v.length → 0 ≤ v[j]! ∧ v[j]! ≤ 1000000000) ∧ (v.length = 0 ∨ v[v.length - 1]! ≠ 0) := by
  constructor
  · intro h
    have hl : v.length = topN (of v) 16 := by rw [← short_length, ← h]
    have hle := topN_le (of v) 16
    have hg : ∀ j, j < v.length → v[j]! = (of v)[j]! := fun j hj => by
      have := short_get (of v) j (by omega)
      rw [← h] at this
      exact this
    refine ⟨by omega, fun j hj => ?_, ?_⟩
    · rw [hg j hj, of_bang v j (by omega)]
      exact cap_range _
    · by_cases e : v.length = 0
      · exact .inl e
      · right
        rw [hg _ (by omega), hl]
        exact topN_last (of v) 16 (by omega)
  · rintro ⟨h1, h2, h3⟩
    have hof : ∀ j, j < v.length → (of v)[j]! = v[j]! := fun j hj => by rw [of_bang v j (by omega), cap_id (h2 j hj)]
    have htop : topN (of v) 16 = v.length := by
      refine topN_eq (of v) v.length ?_ 16 h1 fun j hj hj' => ?_
      · rcases h3 with h | h
        · exact .inl h
        · by_cases e : v.length = 0
          · exact .inl e
          · right; rw [hof _ (by omega)]; exact h
      · rw [get_of v j hj', List.getD_eq_getElem?_getD, List.getElem?_eq_none hj]
        rfl
    refine bang_ext (by rw [short_length, htop]) fun j hj => ?_
    rw [short_get _ _ (by omega), hof j hj]
theorem of_range (v : List Int) : inRange (of v) := fun j hj => by rw [of_bang v j hj]; exact cap_range _
theorem sumN_range {v : Vector Int 16} (hv : inRange v) : ∀ n : Nat, n ≤ 16 → 0 ≤ sumN v n ∧ sumN v n ≤ n * 1000000000
  | 0, _ => by simp [sumN]
  | n + 1, h => by
    have := sumN_range hv n (by omega)
    have := hv n (by omega)
    simp only [sumN]
    omega
theorem sumN_step {v : Vector Int 16} {i : Int} (h : 0 ≤ i) : sumN v (i + 1).toNat = sumN v i.toNat + v[i.toNat]! := by
  have : (i + 1).toNat = i.toNat + 1 := by omega
  rw [this, sumN]
theorem get_mergeV (v w : Vector Int 16) (j : Nat) (hj : j < 16) : (mergeV v w)[j]! = max v[j]! w[j]! := by simp [mergeV, hj]
theorem get_meetV (v w : Vector Int 16) (j : Nat) (hj : j < 16) : (meetV v w)[j]! = min v[j]! w[j]! := by simp [meetV, hj]
theorem inv54_step {f : Int → Int → Int} {v w a b c : Vector Int 16} {i x : Int} (h0 : 0 ≤ i) (h2 : b = w) (h3 : ∀ j : Nat, j < 16 → a[j]! = if (j : Int) < i then f v[j]! w[j]! else v[j]!) (h4 : i < 16) (hx : x = f a[i.toNat]! b[i.toNat]!) :
    inv54 f v w (i + 1) (a.setIfInBounds i.toNat x) b c := by
  refine ⟨by omega, by omega, h2, fun j hj => ?_⟩
  have hi := h3 i.toNat (by omega)
  rw [if_neg (by omega)] at hi
  rw [get_setV hj, h3 j hj]
  split
  · rename_i e
    subst e
    rw [if_pos (by omega), hx, hi, h2]
  · by_cases hji : (j : Int) < i
    · rw [if_pos hji, if_pos (by omega)]
    · rw [if_neg hji, if_neg (by omega)]
theorem mergeL_step (m : Vector Int 16) (vs : List (List Int)) (i : Int) (h0 : 0 ≤ i) (h1 : i < vs.length) : mergeV (mergeL m (vs.take i.toNat)) (of vs[i.toNat]!) = mergeL m (vs.take (i + 1).toNat) := by
  have e : (i + 1).toNat = i.toNat + 1 := by omega
  have hl : i.toNat < vs.length := by omega
  rw [e, List.take_succ_eq_append_getElem hl, mergeL, mergeL, List.foldl_append]
  simp [hl]
end Go.Proofs.Ytoeifjooljkpaaa
