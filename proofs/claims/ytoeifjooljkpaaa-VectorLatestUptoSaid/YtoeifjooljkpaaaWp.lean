/- Wp: plain laws of the sixteen numbers and of the list in form. Conditions: none. -/
import Derived.Test.YtoeifjooljkpaaaWb
set_option linter.unusedVariables false
set_option linter.unusedSimpArgs false
namespace Go.Proofs.Ytoeifjooljkpaaa
open Go.E
set_option maxRecDepth 100000
set_option maxHeartbeats 4000000
theorem topN_le (w : Vector Int 16) : ∀ n, topN w n ≤ n
  | 0 => Nat.le_refl _
  | n + 1 => by
    unfold topN
    split
    · have := topN_le w n; omega
    · omega
theorem topN_zero (w : Vector Int 16) : ∀ n j, topN w n ≤ j → j < n → w[j]! = 0
  | 0, j, _, h => by omega
  | n + 1, j, h, hj => by
    unfold topN at h
    split at h
    · rename_i hz
      by_cases e : j = n
      · rw [e]; exact hz
      · exact topN_zero w n j h (by omega)
    · omega
theorem topN_last (w : Vector Int 16) : ∀ n, 0 < topN w n → w[topN w n - 1]! ≠ 0
  | 0, h => by simp [topN] at h
  | n + 1, h => by
    unfold topN at h ⊢
    split at h
    · rename_i hz
      rw [if_pos hz]
      exact topN_last w n h
    · rename_i hz
      rw [if_neg hz]
      simpa using hz
theorem topN_eq (w : Vector Int 16) (m : Nat) (hl : m = 0 ∨ w[m - 1]! ≠ 0) : ∀ n, m ≤ n → (∀ j, m ≤ j → j < n → w[j]! = 0) → topN w n = m
  | 0, hm, _ => by have : m = 0 := by omega
                   rw [this]; rfl
  | n + 1, hm, hz => by
    unfold topN
    by_cases e : m = n + 1
    · subst e
      rcases hl with h | h
      · omega
      · rw [if_neg (by simpa using h)]
    · rw [if_pos (hz n (by omega) (by omega))]
      exact topN_eq w m hl n (by omega) fun j h1 h2 => hz j h1 (by omega)
theorem short_length (w : Vector Int 16) : (short w).length = topN w 16 := by
  have := topN_le w 16
  simp [short]
  omega
theorem short_get (w : Vector Int 16) (j : Nat) (hj : j < topN w 16) : (short w)[j]! = w[j]! := by
  have := topN_le w 16
  have hj' : j < 16 := by omega
  have h2 : j < (short w).length := by rw [short_length]; exact hj
  rw [getElem!_pos (short w) j h2]
  simp [short, hj']
theorem bang_ext {a b : List Int} (hl : a.length = b.length) (h : ∀ j, j < a.length → a[j]! = b[j]!) : a = b := by
  apply List.ext_getElem hl
  intro j h1 h2
  have := h j h1
  simpa [h1, h2] using this
theorem of_bang (v : List Int) (j : Nat) (hj : j < 16) : (of v)[j]! = cap v[j]! := by rw [get_of v j hj, getD_bang]
theorem cap_id {n : Int} (h : 0 ≤ n ∧ n ≤ 1000000000) : cap n = n := by unfold cap; omega
theorem cap_range (n : Int) : 0 ≤ cap n ∧ cap n ≤ 1000000000 := by unfold cap; omega
theorem norm_iff (v : List Int) : v = short (of v) ↔ v.length ≤ 16 ∧ (∀ j, j < v.length → 0 ≤ v[j]! ∧ v[j]! ≤ 1000000000) ∧ (v.length = 0 ∨ v[v.length - 1]! ≠ 0) := by
  constructor
  · intro h
    have hl : v.length = topN (of v) 16 := by rw [← short_length, ← h]
    have hle := topN_le (of v) 16
    have hg : ∀ j, j < v.length → v[j]! = (of v)[j]! := fun j hj => by
      have := short_get (of v) j (by omega)
      rw [← h] at this
      exact this
    refine ⟨by omega, fun j hj => ?_, ?_⟩
    · rw [hg j hj, of_bang v j (by omega)]
      exact cap_range _
    · by_cases e : v.length = 0
      · exact .inl e
      · right
        rw [hg _ (by omega), hl]
        exact topN_last (of v) 16 (by omega)
  · rintro ⟨h1, h2, h3⟩
    have hof : ∀ j, j < v.length → (of v)[j]! = v[j]! := fun j hj => by rw [of_bang v j (by omega), cap_id (h2 j hj)]
    have htop : topN (of v) 16 = v.length := by
      refine topN_eq (of v) v.length ?_ 16 h1 fun j hj hj' => ?_
      · rcases h3 with h | h
        · exact .inl h
        · by_cases e : v.length = 0
          · exact .inl e
          · right; rw [hof _ (by omega)]; exact h
      · rw [get_of v j hj', List.getD_eq_getElem?_getD, List.getElem?_eq_none hj]
        rfl
    refine bang_ext (by rw [short_length, htop]) fun j hj => ?_
    rw [short_get _ _ (by omega), hof j hj]
theorem of_range (v : List Int) : inRange (of v) := fun j hj => by rw [of_bang v j hj]; exact cap_range _
theorem sumN_range {v : Vector Int 16} (hv : inRange v) : ∀ n : Nat, n ≤ 16 → 0 ≤ sumN v n ∧ sumN v n ≤ n * 1000000000
  | 0, _ => by simp [sumN]
  | n + 1, h => by
    have := sumN_range hv n (by omega)
    have := hv n (by omega)
    simp only [sumN]
    omega
theorem sumN_step {v : Vector Int 16} {i : Int} (h : 0 ≤ i) : sumN v (i + 1).toNat = sumN v i.toNat + v[i.toNat]! := by
  have : (i + 1).toNat = i.toNat + 1 := by omega
  rw [this, sumN]
theorem get_mergeV (v w : Vector Int 16) (j : Nat) (hj : j < 16) : (mergeV v w)[j]! = max v[j]! w[j]! := by simp [mergeV, hj]
theorem get_meetV (v w : Vector Int 16) (j : Nat) (hj : j < 16) : (meetV v w)[j]! = min v[j]! w[j]! := by simp [meetV, hj]
theorem inv54_step {f : Int → Int → Int} {v w a b c : Vector Int 16} {i x : Int} (h0 : 0 ≤ i) (h2 : b = w) (h3 : ∀ j : Nat, j < 16 → a[j]! = if (j : Int) < i then f v[j]! w[j]! else v[j]!) (h4 : i < 16) (hx : x = f a[i.toNat]! b[i.toNat]!) :
    inv54 f v w (i + 1) (a.setIfInBounds i.toNat x) b c := by
  refine ⟨by omega, by omega, h2, fun j hj => ?_⟩
  have hi := h3 i.toNat (by omega)
  rw [if_neg (by omega)] at hi
  rw [get_setV hj, h3 j hj]
  split
  · rename_i e
    subst e
    rw [if_pos (by omega), hx, hi, h2]
  · by_cases hji : (j : Int) < i
    · rw [if_pos hji, if_pos (by omega)]
    · rw [if_neg hji, if_neg (by omega)]
theorem mergeL_step (m : Vector Int 16) (vs : List (List Int)) (i : Int) (h0 : 0 ≤ i) (h1 : i < vs.length) : mergeV (mergeL m (vs.take i.toNat)) (of vs[i.toNat]!) = mergeL m (vs.take (i + 1).toNat) := by
  have e : (i + 1).toNat = i.toNat + 1 := by omega
  have hl : i.toNat < vs.length := by omega
  rw [e, List.take_succ_eq_append_getElem hl, mergeL, mergeL, List.foldl_append]
  simp [hl]
theorem all_succ {Q : Nat → Prop} {r : Int} (h0 : 0 ≤ r) : (∀ j : Nat, (j : Int) < r + 1 → Q j) ↔ (∀ j : Nat, (j : Int) < r → Q j) ∧ Q r.toNat := by
  constructor
  · intro h; exact ⟨fun j hj => h j (by omega), h _ (by omega)⟩
  · rintro ⟨h1, h2⟩ j hj
    by_cases e : j = r.toNat
    · subst e; exact h2
    · exact h1 j (by omega)
theorem inv40_step {f g f' g' : Vector Int 16} {more less r m l : Int} (h0 : 0 ≤ r) (hr : r < 16) (hf : f' = f) (hg : g' = g) (a1 : 0 ≤ more) (a2 : more ≤ r) (b1 : 0 ≤ less) (b2 : less ≤ r) (c1 : more = 0 ↔ ∀ j : Nat, (j : Int) < r → f[j]! ≤ g[j]!) (c2 : less = 0 ↔ ∀ j : Nat, (j : Int) < r → g[j]! ≤ f[j]!)
    (hm : m = more + if g'[r.toNat]! < f'[r.toNat]! then 1 else 0) (hl : l = less + if f'[r.toNat]! < g'[r.toNat]! then 1 else 0) : inv40 f g m l (r + 1) f' g' := by
  subst hf hg
  refine ⟨by omega, by omega, rfl, rfl, by split at hm <;> omega, by split at hm <;> omega, by split at hl <;> omega, by split at hl <;> omega, ?_, ?_⟩
  · rw [all_succ h0, ← c1]; split at hm <;> omega
  · rw [all_succ h0, ← c2]; split at hl <;> omega
theorem mergeV_right (a b : Vector Int 16) : mergeV a b = b ↔ leV a b := by
  constructor
  · intro h j hj
    have := get_mergeV a b j hj
    rw [h] at this; omega
  · intro h; exact vext fun j hj => by rw [get_mergeV a b j hj]; have := h j hj; omega
theorem mergeV_left (a b : Vector Int 16) : mergeV a b = a ↔ leV b a := by
  constructor
  · intro h j hj
    have := get_mergeV a b j hj
    rw [h] at this; omega
  · intro h; exact vext fun j hj => by rw [get_mergeV a b j hj]; have := h j hj; omega
theorem leV_antisymm (a b : Vector Int 16) : a = b ↔ leV a b ∧ leV b a := by
  constructor
  · rintro rfl; exact ⟨fun j _ => by omega, fun j _ => by omega⟩
  · rintro ⟨h1, h2⟩; exact vext fun j hj => by have := h1 j hj; have := h2 j hj; omega
theorem ordV_cases (a b : Vector Int 16) : (leV a b ∧ leV b a ∧ ordV a b = 0) ∨ (leV a b ∧ ¬ leV b a ∧ ordV a b = 1) ∨ (¬ leV a b ∧ leV b a ∧ ordV a b = 2) ∨ (¬ leV a b ∧ ¬ leV b a ∧ ordV a b = 3) := by
  have e1 := mergeV_right a b
  have e2 := mergeV_left a b
  have e3 := leV_antisymm a b
  unfold ordV
  by_cases h1 : leV a b <;> by_cases h2 : leV b a
  · left; exact ⟨h1, h2, if_pos (e3.2 ⟨h1, h2⟩)⟩
  · right; left; exact ⟨h1, h2, by rw [if_neg (fun h => h2 (e3.1 h).2), if_pos (e1.2 h1)]⟩
  · right; right; left; exact ⟨h1, h2, by rw [if_neg (fun h => h1 (e3.1 h).1), if_neg (fun h => h1 (e1.1 h)), if_pos (e2.2 h2)]⟩
  · right; right; right; exact ⟨h1, h2, by rw [if_neg (fun h => h1 (e3.1 h).1), if_neg (fun h => h1 (e1.1 h)), if_neg (fun h => h2 (e2.1 h))]⟩
theorem leV_done {f g : Vector Int 16} {r : Int} (h0 : ¬ r < 16) : (∀ j : Nat, (j : Int) < r → f[j]! ≤ g[j]!) → leV f g := fun h j hj => h j (by omega)
theorem leV_iff16 {f g : Vector Int 16} {r : Int} (h : r ≤ 16) (h0 : ¬ r < 16) : (∀ j : Nat, (j : Int) < r → f[j]! ≤ g[j]!) ↔ leV f g := ⟨fun h j hj => h j (by omega), fun h j hj => h j (by omega)⟩
theorem lexV_step {a b : Vector Int 16} {i : Int} (h0 : 0 ≤ i) (h1 : i < 16) : lexV a b (16 - i).toNat = if a[i.toNat]! = b[i.toNat]! then lexV a b (16 - (i + 1)).toNat else sgn (decide (a[i.toNat]! < b[i.toNat]!)) := by
  obtain ⟨n, hn⟩ : ∃ n, (16 - i).toNat = n + 1 := ⟨(16 - i).toNat - 1, by omega⟩
  have e1 : (16 - (i + 1)).toNat = n := by omega
  have e2 : 15 - n = i.toNat := by omega
  rw [hn, e1, lexV, e2]
theorem lexV_self (a : Vector Int 16) : ∀ n, lexV a a n = 0
  | 0 => rfl
  | n + 1 => by rw [lexV, if_pos rfl]; exact lexV_self a n
theorem behN_step {a b : Vector Int 16} {i : Int} (h0 : 0 ≤ i) : behN a b (i + 1).toNat = if a[i.toNat]! < b[i.toNat]! then behN a b i.toNat ++ [⟨i, a[i.toNat]! + 1, b[i.toNat]!⟩] else behN a b i.toNat := by
  have e : (i + 1).toNat = i.toNat + 1 := by omega
  have e2 : ((i.toNat : Nat) : Int) = i := by omega
  rw [e, behN, e2]
theorem ordV_fin {f g : Vector Int 16} {m l r k : Int} (hr : r ≤ 16) (hr' : ¬ r < 16) (h1 : m = 0 ↔ ∀ j : Nat, (j : Int) < r → f[j]! ≤ g[j]!) (h2 : l = 0 ↔ ∀ j : Nat, (j : Int) < r → g[j]! ≤ f[j]!)
    (k1 : m = 0 → l = 0 → k = 0) (k2 : m = 0 → ¬ l = 0 → k = 1) (k3 : ¬ m = 0 → l = 0 → k = 2) (k4 : ¬ m = 0 → ¬ l = 0 → k = 3) : Go.E.AV.i .i64 k = Go.E.AV.i .i64 (ordV f g) := by
  rw [leV_iff16 hr hr'] at h1 h2
  have e : k = ordV f g := by
    rcases ordV_cases f g with ⟨c1, c2, e⟩ | ⟨c1, c2, e⟩ | ⟨c1, c2, e⟩ | ⟨c1, c2, e⟩ <;> rw [e]
    · exact k1 (h1.2 c1) (h2.2 c2)
    · exact k2 (h1.2 c1) (fun h => c2 (h2.1 h))
    · exact k3 (fun h => c1 (h1.1 h)) (h2.2 c2)
    · exact k4 (fun h => c1 (h1.1 h)) (fun h => c2 (h2.1 h))
  rw [e]
end Go.Proofs.Ytoeifjooljkpaaa
