/- ES: the stable sort's pieces in plain words: rows turned round, runs swapped, two sorted runs merged by turning. Conditions: 'lt' a strict weak order. -/
import Derived.Sort.LotA
set_option linter.unusedVariables false
set_option linter.unusedSimpArgs false
namespace Go.E
open Go.Sort
variable {α : Type} [Inhabited α]

/-- Where what lies at k comes from, behind a swap of the runs of n at a and at b. -/
def swIx (a b n k : Nat) : Nat := if a ≤ k ∧ k < a + n then k - a + b else if b ≤ k ∧ k < b + n then k - b + a else k
/-- .. and behind a turn of [a, m) and [m, b). -/
def rotIx (a m b k : Nat) : Nat := if a ≤ k ∧ k < a + (b - m) then k - a + m else if a + (b - m) ≤ k ∧ k < b then k - (b - m) else k

theorem swIx_zero (a b k : Nat) : swIx a b 0 k = k := by unfold swIx; rw [if_neg (by omega), if_neg (by omega)]
theorem sw_step {d dk : Array α} {a b n : Nat} (hab : a + (n + 1) ≤ b) (hb : b + (n + 1) ≤ d.size) (hs : dk.size = d.size) (h : ∀ k, dk[k]! = d[swIx a b n k]!) :
    ∀ k, (swp dk (a + n) (b + n))[k]! = d[swIx a b (n + 1) k]! := by
  intro k
  rw [swp_get dk (by omega) (by omega), h, h, h]
  by_cases e1 : k = b + n
  · rw [if_pos e1]
    congr 1
    unfold swIx
    rw [if_neg (by omega), if_neg (by omega), if_neg (by omega), if_pos (by omega)]; omega
  · rw [if_neg e1]
    by_cases e2 : k = a + n
    · rw [if_pos e2]
      congr 1
      unfold swIx
      rw [if_neg (by omega), if_neg (by omega), if_pos (by omega)]; omega
    · rw [if_neg e2]
      congr 1
      unfold swIx
      by_cases h1 : a ≤ k ∧ k < a + n
      · rw [if_pos h1, if_pos (by omega)]
      · rw [if_neg h1, if_neg (show ¬ (a ≤ k ∧ k < a + (n + 1)) by omega)]
        by_cases h2 : b ≤ k ∧ k < b + n
        · rw [if_pos h2, if_pos (by omega)]
        · rw [if_neg h2, if_neg (by omega)]
/-- The left run is longer: its head and the right run change places. -/
theorem rot_left {m i j k : Nat} (hi : i ≤ m) (hj : 0 < j) (h : j < i) : swIx (m - i) m j (rotIx (m - (i - j)) m (m + j) k) = rotIx (m - i) m (m + j) k := by
  unfold rotIx
  by_cases c1 : m - i ≤ k ∧ k < m - i + j
  · rw [if_neg (by omega), if_neg (by omega), if_pos (by omega)]
    unfold swIx; rw [if_pos (by omega)]
  · by_cases c2 : m - (i - j) ≤ k ∧ k < m - (i - j) + j
    · rw [if_pos (by omega), if_neg (by omega), if_pos (by omega)]
      unfold swIx; rw [if_neg (by omega), if_pos (by omega)]; omega
    · by_cases c3 : m - (i - j) + j ≤ k ∧ k < m + j
      · rw [if_neg (by omega), if_pos (by omega), if_neg (by omega), if_pos (by omega)]
        unfold swIx; rw [if_neg (by omega), if_neg (by omega)]
      · rw [if_neg (by omega), if_neg (by omega), if_neg (by omega), if_neg (by omega)]
        unfold swIx; rw [if_neg (by omega), if_neg (by omega)]
/-- The right run is longer: the left run and its tail change places. -/
theorem rot_right {m i j k : Nat} (hi : i ≤ m) (h0 : 0 < i) (h : i < j) : swIx (m - i) (m + j - i) i (rotIx (m - i) m (m + (j - i)) k) = rotIx (m - i) m (m + j) k := by
  unfold rotIx
  by_cases c1 : m - i ≤ k ∧ k < m - i + (j - i)
  · rw [if_pos (by omega), if_pos (by omega)]
    unfold swIx; rw [if_neg (by omega)]
    by_cases c : m + j - i ≤ k - (m - i) + m
    · omega
    · rw [if_neg (by omega)]
  · by_cases c2 : m - i + (j - i) ≤ k ∧ k < m + (j - i)
    · rw [if_neg (by omega), if_pos (by omega), if_pos (by omega)]
      unfold swIx; rw [if_pos (by omega)]; omega
    · by_cases c3 : m + (j - i) ≤ k ∧ k < m + j
      · rw [if_neg (by omega), if_neg (by omega), if_neg (by omega), if_pos (by omega)]
        unfold swIx; rw [if_neg (by omega), if_pos (by omega)]; omega
      · rw [if_neg (by omega), if_neg (by omega), if_neg (by omega), if_neg (by omega)]
        unfold swIx; rw [if_neg (by omega), if_neg (by omega)]
/-- Runs of one length: the turn is the swap. -/
theorem rot_same {m i k : Nat} (hi : i ≤ m) : swIx (m - i) m i k = rotIx (m - i) m (m + i) k := by
  unfold swIx rotIx
  by_cases c1 : m - i ≤ k ∧ k < m - i + i
  · rw [if_pos c1, if_pos (show m - i ≤ k ∧ k < m - i + (m + i - m) by omega)]
  · rw [if_neg c1]
    by_cases c2 : m ≤ k ∧ k < m + i
    · rw [if_pos c2, if_neg (show ¬ (m - i ≤ k ∧ k < m - i + (m + i - m)) by omega), if_pos (show m - i + (m + i - m) ≤ k ∧ k < m + i by omega)]; omega
    · rw [if_neg c2, if_neg (show ¬ (m - i ≤ k ∧ k < m - i + (m + i - m)) by omega), if_neg (show ¬ (m - i + (m + i - m) ≤ k ∧ k < m + i) by omega)]
theorem rotIx_one (a k : Nat) : rotIx a (a + 1) (a + 1) k = k := by unfold rotIx; rw [if_neg (by omega)]; split <;> omega
/-- The element at a wanders up by one place. -/
theorem up_step {d dk : Array α} {a c : Nat} (hac : a ≤ c) (hb : c + 1 < d.size) (hs : dk.size = d.size) (h : ∀ k, dk[k]! = d[rotIx a (a + 1) (c + 1) k]!) :
    ∀ k, (swp dk c (c + 1))[k]! = d[rotIx a (a + 1) (c + 2) k]! := by
  intro k
  rw [swp_get dk (by omega) (by omega), h, h, h]
  unfold rotIx
  by_cases e1 : k = c + 1
  · rw [if_pos e1]; congr 1
    rw [if_neg (by omega), if_pos (by omega), if_neg (by omega), if_pos (by omega)]; omega
  · rw [if_neg e1]
    by_cases e2 : k = c
    · rw [if_pos e2]; congr 1
      rw [if_neg (by omega), if_neg (by omega), if_pos (by omega)]; omega
    · rw [if_neg e2]; congr 1
      by_cases h1 : a ≤ k ∧ k < a + (c + 1 - (a + 1))
      · rw [if_pos h1, if_pos (by omega)]
      · rw [if_neg h1, if_neg (show ¬ (a ≤ k ∧ k < a + (c + 2 - (a + 1))) by omega), if_neg (by omega), if_neg (by omega)]
/-- The element at m wanders down by one place: it lies at c + 1 and comes to c. -/
theorem down_step {d dk : Array α} {c m : Nat} (hcm : c + 1 ≤ m) (hb : m < d.size) (hs : dk.size = d.size) (h : ∀ k, dk[k]! = d[rotIx (c + 1) m (m + 1) k]!) :
    ∀ k, (swp dk (c + 1) c)[k]! = d[rotIx c m (m + 1) k]! := by
  intro k
  rw [swp_get dk (by omega) (by omega), h, h, h]
  unfold rotIx
  by_cases e1 : k = c
  · rw [if_pos e1]; congr 1
    rw [if_pos (by omega), if_pos (by omega)]; omega
  · rw [if_neg e1]
    by_cases e2 : k = c + 1
    · rw [if_pos e2]; congr 1
      rw [if_neg (by omega), if_neg (by omega), if_neg (by omega), if_pos (by omega)]; omega
    · rw [if_neg e2]; congr 1
      by_cases h1 : c + 1 + (m + 1 - m) ≤ k ∧ k < m + 1
      · rw [if_neg (by omega), if_pos h1, if_neg (by omega), if_pos (by omega)]
      · rw [if_neg (by omega), if_neg h1, if_neg (by omega), if_neg (by omega)]
theorem rotIx_end (m k : Nat) : rotIx m m (m + 1) k = k := by unfold rotIx; split <;> (try split) <;> omega

variable {lt : α → α → Bool}
/-- One element ahead of a sorted run, put where it belongs. -/
theorem merge_one_left (hO : SWO lt) {d d' : Array α} {a i b : Nat} (hs : SortedIn lt (a + 1) b d) (h1 : a + 1 ≤ i) (h2 : i ≤ b) (hl : ∀ h, a + 1 ≤ h → h < i → lt d[h]! d[a]! = true) (hr : ∀ h, i ≤ h → h < b → lt d[h]! d[a]! = false)
    (hd : ∀ k, d'[k]! = d[rotIx a (a + 1) i k]!) : SortedIn lt a b d' := by
  intro p q hp hpq hq
  rw [hd, hd]
  unfold rotIx
  by_cases cq : q < i - 1
  · rw [if_pos (by omega), if_pos (by omega)]
    exact hs _ _ (by omega) (by omega) (by omega)
  · by_cases cq2 : q = i - 1
    · rw [if_neg (by omega), if_pos (by omega), if_pos (by omega)]
      have e : q - (i - (a + 1)) = a := by omega
      rw [e]
      exact hO.asymmA (hl _ (by omega) (by omega))
    · rw [if_neg (by omega), if_neg (show ¬ (a + (i - (a + 1)) ≤ q ∧ q < i) by omega)]
      by_cases cp : p < i - 1
      · rw [if_pos (by omega)]
        exact hs _ _ (by omega) (by omega) (by omega)
      · by_cases cp2 : p = i - 1
        · rw [if_neg (by omega), if_pos (by omega)]
          have e : p - (i - (a + 1)) = a := by omega
          rw [e]
          exact hr _ (by omega) hq
        · rw [if_neg (by omega), if_neg (by omega)]
          exact hs _ _ (by omega) (by omega) (by omega)
/-- One element behind a sorted run. -/
theorem merge_one_right (hO : SWO lt) {d d' : Array α} {a i m : Nat} (hs : SortedIn lt a m d) (h1 : a ≤ i) (h2 : i ≤ m) (hl : ∀ h, a ≤ h → h < i → lt d[m]! d[h]! = false) (hr : ∀ h, i ≤ h → h < m → lt d[m]! d[h]! = true)
    (hd : ∀ k, d'[k]! = d[rotIx i m (m + 1) k]!) : SortedIn lt a (m + 1) d' := by
  intro p q hp hpq hq
  rw [hd, hd]
  unfold rotIx
  by_cases cp : p < i
  · rw [if_neg (show ¬ (i ≤ p ∧ p < i + (m + 1 - m)) by omega), if_neg (show ¬ (i + (m + 1 - m) ≤ p ∧ p < m + 1) by omega)]
    by_cases cq : q < i
    · rw [if_neg (by omega), if_neg (by omega)]; exact hs _ _ hp hpq (by omega)
    · by_cases cq2 : q = i
      · rw [if_pos (by omega)]
        have e : q - i + m = m := by omega
        rw [e]; exact hl _ hp cp
      · rw [if_neg (by omega), if_pos (by omega)]; exact hs _ _ hp (by omega) (by omega)
  · by_cases cp2 : p = i
    · rw [if_pos (show i ≤ p ∧ p < i + (m + 1 - m) by omega), if_neg (show ¬ (i ≤ q ∧ q < i + (m + 1 - m)) by omega), if_pos (show i + (m + 1 - m) ≤ q ∧ q < m + 1 by omega)]
      have e : p - i + m = m := by omega
      rw [e]; exact hO.asymmA (hr _ (by omega) (by omega))
    · rw [if_neg (show ¬ (i ≤ p ∧ p < i + (m + 1 - m)) by omega), if_pos (show i + (m + 1 - m) ≤ p ∧ p < m + 1 by omega), if_neg (show ¬ (i ≤ q ∧ q < i + (m + 1 - m)) by omega), if_pos (show i + (m + 1 - m) ≤ q ∧ q < m + 1 by omega)]
      exact hs _ _ (by omega) (by omega) (by omega)
/-- What symMerge's search finds: 'start': below it the left run stays, from it on it goes over to the right. n = mid + m, p = n - 1. -/
structure Cut (lt : α → α → Bool) (a m b start : Nat) (d : Array α) : Prop where
  lo : a ≤ start
  lo2 : (a + b) / 2 + m - start ≤ b
  hi : start ≤ m
  hi2 : start ≤ (a + b) / 2
  below : ∀ c, a ≤ c → (a + b) / 2 + m ≤ b + c → c < start → lt d[(a + b) / 2 + m - 1 - c]! d[c]! = false
  above : ∀ c, start ≤ c → c < m → c < (a + b) / 2 → lt d[(a + b) / 2 + m - 1 - c]! d[c]! = true
/-- Behind the turn each half is two sorted runs, and nothing in the right half is less than anything in the left. -/
theorem cut_parts (hO : SWO lt) {d d' : Array α} {a m b start : Nat} (h1 : SortedIn lt a m d) (h2 : SortedIn lt m b d) (ham : a < m) (hmb : m < b) (hc : Cut lt a m b start d)
    (hd : ∀ k, d'[k]! = d[rotIx start m ((a + b) / 2 + m - start) k]!) :
    SortedIn lt a start d' ∧ SortedIn lt start ((a + b) / 2) d' ∧ SortedIn lt ((a + b) / 2) ((a + b) / 2 + m - start) d' ∧ SortedIn lt ((a + b) / 2 + m - start) b d' ∧
      ∀ p q, a ≤ p → p < (a + b) / 2 → (a + b) / 2 ≤ q → q < b → lt d'[q]! d'[p]! = false := by
  obtain ⟨c1, c2, c3, c4, c5, c6⟩ := hc
  have hmid : a ≤ (a + b) / 2 ∧ (a + b) / 2 ≤ b ∧ a + b ≤ 2 * ((a + b) / 2) + 1 ∧ 2 * ((a + b) / 2) ≤ a + b := by omega
  generalize (a + b) / 2 = mid at *
  -- where the four pieces come from
  have g1 : ∀ k, k < start → d'[k]! = d[k]! := fun k hk => by rw [hd]; unfold rotIx; rw [if_neg (by omega), if_neg (by omega)]
  have g2 : ∀ k, start ≤ k → k < mid → d'[k]! = d[k - start + m]! := fun k hk hk2 => by rw [hd]; unfold rotIx; rw [if_pos (by omega)]
  have g3 : ∀ k, mid ≤ k → k < mid + m - start → d'[k]! = d[k - (mid - start)]! := fun k hk hk2 => by
    rw [hd]; unfold rotIx; rw [if_neg (by omega), if_pos (by omega)]; congr 1; omega
  have g4 : ∀ k, mid + m - start ≤ k → d'[k]! = d[k]! := fun k hk => by rw [hd]; unfold rotIx; rw [if_neg (by omega), if_neg (by omega)]
  refine ⟨fun p q hp hpq hq => ?_, fun p q hp hpq hq => ?_, fun p q hp hpq hq => ?_, fun p q hp hpq hq => ?_, fun p q hp hpm hqm hq => ?_⟩
  · rw [g1 q hq, g1 p (by omega)]; exact h1 _ _ hp hpq (by omega)
  · rw [g2 q (by omega) hq, g2 p hp (by omega)]; exact h2 _ _ (by omega) (by omega) (by omega)
  · rw [g3 q (by omega) hq, g3 p hp (by omega)]; exact h1 _ _ (by omega) (by omega) (by omega)
  · rw [g4 q (by omega), g4 p hp]; exact h2 _ _ (by omega) hpq hq
  · by_cases cp : p < start
    · rw [g1 p cp]
      by_cases cq : q < mid + m - start
      · rw [g3 q hqm cq]
        by_cases e : p < q - (mid - start)
        · exact h1 _ _ hp e (by omega)
        · omega
      · rw [g4 q (by omega)]
        -- p <= start - 1; d[n - start] not less than d[start - 1]; q from n - start on
        have k1 := c5 (start - 1) (by omega) (by omega) (by omega)
        have e : mid + m - 1 - (start - 1) = mid + m - start := by omega
        rw [e] at k1
        have k2 : lt d[q]! d[start - 1]! = false := by
          by_cases eq : q = mid + m - start
          · rw [eq]; exact k1
          · exact hO.ntrans _ _ _ (h2 _ _ (by omega) (by omega) hq) k1
        by_cases ep : p = start - 1
        · rw [ep]; exact k2
        · exact hO.ntrans _ _ _ k2 (h1 _ _ hp (by omega) (by omega))
    · rw [g2 p (by omega) hpm]
      by_cases cq : q < mid + m - start
      · rw [g3 q hqm cq]
        -- d[p'] <= d[n - start - 1] < d[start] <= d[q']
        have hsm : start < m := by omega
        have k1 := c6 start (Nat.le_refl _) hsm (by omega)
        have e : mid + m - 1 - start = mid - 1 - start + m := by omega
        rw [e] at k1
        have k2 : lt d[mid - 1 - start + m]! d[q - (mid - start)]! = true ∨ lt d[q - (mid - start)]! d[mid - 1 - start + m]! = false := by
          by_cases eq : q - (mid - start) = start
          · rw [eq]; exact .inl k1
          · right
            exact hO.ntrans _ _ _ (h1 start _ c1 (by omega) (by omega)) (hO.asymmA k1)
        have k3 : lt d[q - (mid - start)]! d[mid - 1 - start + m]! = false := k2.elim hO.asymmA id
        by_cases ep : p - start + m = mid - 1 - start + m
        · rw [ep]; exact k3
        · exact hO.ntrans _ _ _ k3 (h2 _ _ (by omega) (by omega) (by omega))
      · rw [g4 q (by omega)]
        exact h2 _ _ (by omega) (by omega) hq
/-- Two sorted halves, nothing in the right less than anything in the left. -/
theorem sorted_halves {d : Array α} {a mid b : Nat} (h1 : SortedIn lt a mid d) (h2 : SortedIn lt mid b d) (h3 : ∀ p q, a ≤ p → p < mid → mid ≤ q → q < b → lt d[q]! d[p]! = false) : SortedIn lt a b d := by
  intro p q hp hpq hq
  by_cases c1 : q < mid
  · exact h1 p q hp hpq c1
  · by_cases c2 : p < mid
    · exact h3 p q hp c2 (by omega) hq
    · exact h2 p q (by omega) hpq hq
theorem sorted_same {d d' : Array α} {a b : Nat} (h : SortedIn lt a b d) (he : ∀ i, a ≤ i → i < b → d'[i]! = d[i]!) : SortedIn lt a b d' := fun p q hp hpq hq => by
  rw [he p hp (by omega), he q (by omega) hq]; exact h p q hp hpq hq
/-- What is said of each of one half and each of the other stays so, where each half is put in another order. -/
theorem cross_perm {d d' : Array α} {a mid b : Nat} (ham : a ≤ mid) (hmb : mid ≤ b) (hb : b ≤ d.size) (h1 : PermIn a mid d d') (h3 : ∀ p q, a ≤ p → p < mid → mid ≤ q → q < b → lt d[q]! d[p]! = false) :
    ∀ p q, a ≤ p → p < mid → mid ≤ q → q < b → lt d'[q]! d'[p]! = false := fun p q hp hpm hmq hq => by
  rw [h1.2.1 q (by omega)]
  exact permIn_all d d' a mid (fun x => lt d[q]! x = false) (by omega) h1 (fun i hi him => h3 i q hi him hmq hq) p hp hpm
theorem cross_perm' {d d' : Array α} {a mid b : Nat} (ham : a ≤ mid) (hmb : mid ≤ b) (hb : b ≤ d.size) (h1 : PermIn mid b d d') (h3 : ∀ p q, a ≤ p → p < mid → mid ≤ q → q < b → lt d[q]! d[p]! = false) :
    ∀ p q, a ≤ p → p < mid → mid ≤ q → q < b → lt d'[q]! d'[p]! = false := fun p q hp hpm hmq hq => by
  rw [h1.2.1 p (by omega)]
  exact permIn_all d d' mid b (fun x => lt x d[p]! = false) hb h1 (fun i hi him => h3 p i hp hpm hi him) q hmq hq
theorem perm_mono {d d' : Array α} {a b a' b' : Nat} (h1 : a' ≤ a) (h2 : b ≤ b') (hb : b' ≤ d.size) (h : PermIn a b d d') : PermIn a' b' d d' := permIn_mono d d' a b a' b' h1 h2 hb h
end Go.E
