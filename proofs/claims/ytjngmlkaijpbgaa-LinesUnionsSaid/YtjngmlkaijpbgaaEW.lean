/- EW: a merge sort from below (ever longer pieces, by pairs), in plain words. Conditions: the order is total and transitive where it is asked that the outcome rises. -/
import Derived.Test.YtjngmlkaijpbgaaE1
set_option linter.unusedVariables false
set_option linter.unusedSimpArgs false
namespace Go.E
set_option linter.unusedSectionVars false
variable {α : Type} {le : α → α → Bool}
def mgP (le : α → α → Bool) (w : Nat) (l : List α) : Nat → List α
  | 0 => []
  | k + 1 => mgP le w l k ++ List.merge ((l.drop (k * (2 * w))).take w) ((l.drop (k * (2 * w) + w)).take w) le
theorem chunkP_split (w : Nat) (l : List α) (n : Nat) : (l.drop n).take (2 * w) = (l.drop n).take w ++ (l.drop (n + w)).take w := by
  rw [Nat.two_mul, List.take_add, List.drop_drop]
theorem mgP_perm (le : α → α → Bool) (w : Nat) (l : List α) : ∀ k, (mgP le w l k).Perm (l.take (k * (2 * w)))
  | 0 => by simp [mgP]
  | k + 1 => by
    rw [mgP, show (k + 1) * (2 * w) = k * (2 * w) + 2 * w from Nat.succ_mul _ _, List.take_add, chunkP_split]
    exact (mgP_perm le w l k).append (List.merge_perm_append _)
theorem mgP_len (le : α → α → Bool) (w : Nat) (l : List α) (k : Nat) : (mgP le w l k).length = min (k * (2 * w)) l.length := by
  rw [(mgP_perm le w l k).length_eq, List.length_take]
theorem mgP_end (le : α → α → Bool) (w : Nat) (l : List α) (k : Nat) (h : l.length ≤ k * (2 * w)) : ∀ j, mgP le w l (k + j) = mgP le w l k
  | 0 => rfl
  | j + 1 => by
    have e : k * (2 * w) ≤ (k + j) * (2 * w) := Nat.mul_le_mul_right _ (by omega)
    rw [← Nat.add_assoc, mgP, mgP_end le w l k h j, List.drop_of_length_le (by omega), List.drop_of_length_le (by omega)]
    simp
def mgA (le : α → α → Bool) (w : Nat) (l : List α) : List α := mgP le w l l.length
theorem mgA_of (le : α → α → Bool) {w : Nat} (hw : 0 < w) {l : List α} {k : Nat} (h : l.length ≤ k * (2 * w)) : mgP le w l k = mgA le w l := by
  have h2 : l.length ≤ l.length * (2 * w) := Nat.le_mul_of_pos_right _ (by omega)
  unfold mgA
  by_cases e : k ≤ l.length
  · obtain ⟨j, hj⟩ : ∃ j, l.length = k + j := ⟨l.length - k, by omega⟩
    have := mgP_end le w l k h j
    rw [← hj] at this
    exact this.symm
  · obtain ⟨j, hj⟩ : ∃ j, k = l.length + j := ⟨k - l.length, by omega⟩
    rw [hj]
    exact mgP_end le w l l.length h2 j
theorem mgA_len (le : α → α → Bool) {w : Nat} (hw : 0 < w) (l : List α) : (mgA le w l).length = l.length := by
  have h2 : l.length ≤ l.length * (2 * w) := Nat.le_mul_of_pos_right _ (by omega)
  unfold mgA
  rw [mgP_len]; omega
/-- Pieces of the length w are merged by pairs, then of twice that length, and so on. -/
def botS (le : α → α → Bool) (w : Nat) (l : List α) : List α := if h : 0 < w ∧ w < l.length then botS le (2 * w) (mgA le w l) else l
termination_by l.length - w
decreasing_by rw [mgA_len le h.1]; omega
theorem botS_step (le : α → α → Bool) {w : Nat} {l : List α} (h0 : 0 < w) (h : w < l.length) : botS le w l = botS le (2 * w) (mgA le w l) := by
  rw [botS, dif_pos ⟨h0, h⟩]
theorem botS_done (le : α → α → Bool) {w : Nat} {l : List α} (h : ¬ w < l.length) : botS le w l = l := by
  rw [botS, dif_neg (fun k => h k.2)]
def chunkyP (le : α → α → Bool) (w : Nat) (l : List α) : Prop := ∀ k, ((l.drop (k * w)).take w).Pairwise (fun x y => le x y = true)
theorem mgP_chunk (ht : ∀ a b c, le a b = true → le b c = true → le a c = true) (hto : ∀ a b, (le a b || le b a) = true) (w : Nat) (l : List α) (h : chunkyP le w l) : ∀ k j, (((mgP le w l k).drop (j * (2 * w))).take (2 * w)).Pairwise (fun x y => le x y = true)
  | 0, j => by simp [mgP]
  | k + 1, j => by
    rw [mgP]
    have hl := mgP_len le w l k
    have hc : (List.merge ((l.drop (k * (2 * w))).take w) ((l.drop (k * (2 * w) + w)).take w) le).Pairwise (fun x y => le x y = true) := by
      refine List.pairwise_merge ht hto _ _ ?_ ?_
      · have := h (2 * k)
        rwa [show 2 * k * w = k * (2 * w) by rw [Nat.mul_comm 2 k, Nat.mul_assoc]] at this
      · have := h (2 * k + 1)
        rwa [show (2 * k + 1) * w = k * (2 * w) + w by rw [Nat.succ_mul, Nat.mul_comm 2 k, Nat.mul_assoc]] at this
    by_cases hfull : (mgP le w l k).length = k * (2 * w)
    · by_cases hj : j < k
      · have : j * (2 * w) + 2 * w ≤ k * (2 * w) := by rw [← Nat.succ_mul]; exact Nat.mul_le_mul_right _ hj
        rw [List.drop_append_of_le_length (by omega), List.take_append_of_le_length (by rw [List.length_drop]; omega)]
        exact mgP_chunk ht hto w l h k j
      · by_cases ej : j = k
        · subst ej
          rw [List.drop_left' hfull]
          exact hc.sublist (List.take_sublist _ _)
        · have : k * (2 * w) + 2 * w ≤ j * (2 * w) := by rw [← Nat.succ_mul]; exact Nat.mul_le_mul_right _ (by omega)
          rw [List.drop_of_length_le (by simp only [List.length_append, List.length_merge, List.length_take, List.length_drop]; omega)]
          simp
    · rw [List.drop_of_length_le (l := l) (i := k * (2 * w)) (by omega), List.drop_of_length_le (l := l) (i := k * (2 * w) + w) (by omega)]
      simp only [List.take_nil, List.merge, List.append_nil]
      exact mgP_chunk ht hto w l h k j
theorem chunkyP_one (l : List α) : chunkyP le 1 l := fun k => by
  cases e : l.drop (k * 1) with
  | nil => simp
  | cons x t => simp
theorem botS_perm (le : α → α → Bool) : ∀ (n w : Nat) (l : List α), l.length - w ≤ n → (botS le w l).Perm l
  | 0, w, l, h => by rw [botS_done le (by omega)]
  | n + 1, w, l, h => by
    by_cases h0 : 0 < w ∧ w < l.length
    · rw [botS_step le h0.1 h0.2]
      refine (botS_perm le n _ _ (by rw [mgA_len le h0.1]; omega)).trans ?_
      have h2 : l.length ≤ l.length * (2 * w) := Nat.le_mul_of_pos_right _ (by omega)
      have := mgP_perm le w l l.length
      rwa [List.take_of_length_le h2] at this
    · rw [botS, dif_neg h0]
theorem botS_rises (ht : ∀ a b c, le a b = true → le b c = true → le a c = true) (hto : ∀ a b, (le a b || le b a) = true) : ∀ (n w : Nat) (l : List α), l.length - w ≤ n → 0 < w → chunkyP le w l → (botS le w l).Pairwise (fun x y => le x y = true)
  | 0, w, l, h, hw, hc => by
    rw [botS_done le (by omega)]
    have := hc 0
    rwa [Nat.zero_mul, List.drop_zero, List.take_of_length_le (by omega)] at this
  | n + 1, w, l, h, hw, hc => by
    by_cases h0 : w < l.length
    · rw [botS_step le hw h0]
      exact botS_rises ht hto n _ _ (by rw [mgA_len le hw]; omega) (by omega) (fun j => mgP_chunk ht hto w l hc _ j)
    · rw [botS_done le h0]
      have := hc 0
      rwa [Nat.zero_mul, List.drop_zero, List.take_of_length_le (by omega)] at this
/-! the three loops -/
variable [Inhabited α]
def subP (l : List α) (i j : Int) : List α := (l.take j.toNat).drop i.toNat
theorem subP_nil {l : List α} {i j : Int} (h : j ≤ i) : subP l i j = [] := List.drop_of_length_le (by rw [List.length_take]; omega)
theorem subP_cons {l : List α} {i j : Int} (h0 : 0 ≤ i) (h1 : i < j) (h2 : j ≤ l.length) : subP l i j = l[i.toNat]! :: subP l (i + 1) j := by
  have e : (i + 1).toNat = i.toNat + 1 := by omega
  have hl : i.toNat < (l.take j.toNat).length := by rw [List.length_take]; omega
  unfold subP
  rw [e, List.drop_eq_getElem_cons hl, List.getElem_take, getElem!_pos l i.toNat (by omega)]
theorem subP_first {l : List α} {f w : Int} (h0 : 0 ≤ f) (hw : 0 ≤ w) : subP l f (min (f + w) l.length) = (l.drop f.toNat).take w.toNat := by
  unfold subP
  rw [List.drop_take]
  by_cases h : f + w ≤ l.length
  · congr 1; omega
  · rw [List.take_of_length_le (by rw [List.length_drop]; omega), List.take_of_length_le (by rw [List.length_drop]; omega)]
theorem subP_second {l : List α} {f w : Int} (h0 : 0 ≤ f) (hw : 0 ≤ w) : subP l (min (f + w) l.length) (min (min (f + w) l.length + w) l.length) = (l.drop (f.toNat + w.toNat)).take w.toNat := by
  by_cases h : f + w ≤ l.length
  · have e : min (f + w) (l.length : Int) = f + w := by omega
    rw [e, subP_first (by omega) hw, show (f + w).toNat = f.toNat + w.toNat by omega]
  · rw [subP_nil (by omega), List.drop_of_length_le (by omega), List.take_nil]
def invB1 (le : α → α → Bool) (es : List α) (n w : Int) (l : List α) : Prop := 1 ≤ w ∧ w ≤ 2 * n + 1 ∧ (l.length : Int) = n ∧ botS le w.toNat l = botS le 1 es
def decB1 (n w : Int) (l : List α) : Nat := (n - w).toNat
def invB2 (le : α → α → Bool) (l : List α) (n w f : Int) (l' m : List α) : Prop := l' = l ∧ 0 ≤ f ∧ f < n + 2 * w ∧ ∃ k : Nat, f.toNat = k * (2 * w.toNat) ∧ m = mgP le w.toNat l k
def decB2 (n f : Int) (l' m : List α) : Nat := (n - f).toNat
def invB3 (le : α → α → Bool) (l : List α) (f mid e : Int) (m0 : List α) (i j : Int) (l' m : List α) : Prop :=
  l' = l ∧ f ≤ i ∧ i ≤ mid ∧ mid ≤ j ∧ j ≤ e ∧ (m.length : Int) = i + (j - mid) ∧ m ++ List.merge (subP l i mid) (subP l j e) le = m0 ++ List.merge (subP l f mid) (subP l mid e) le
def decB3 (mid e i j : Int) (l' m : List α) : Nat := ((mid - i) + (e - j)).toNat
theorem invB3_left {l : List α} {f mid e i j : Int} {m0 l' m : List α} (hf : 0 ≤ f) (hm : mid ≤ l.length) (he : e ≤ l.length) (h0 : l' = l) (h1 : f ≤ i) (h2 : i ≤ mid) (h3 : mid ≤ j) (h4 : j ≤ e) (h5 : (m.length : Int) = i + (j - mid))
    (h6 : m ++ List.merge (subP l i mid) (subP l j e) le = m0 ++ List.merge (subP l f mid) (subP l mid e) le) (hi : i < mid) (hle : e ≤ j ∨ le l'[i.toNat]! l'[j.toNat]! = true) : invB3 le l f mid e m0 (i + 1) j l' (m ++ [l'[i.toNat]!]) := by
  subst h0
  refine ⟨rfl, by omega, by omega, h3, h4, by simp; omega, ?_⟩
  rw [← h6, subP_cons (by omega) hi hm, List.append_assoc]
  congr 1
  by_cases hj : j < e
  · rw [subP_cons (i := j) (by omega) hj he, List.cons_merge_cons, if_pos (by rcases hle with h | h; omega; exact h)]
    rfl
  · rw [subP_nil (i := j) (by omega), List.merge_right, List.merge_right]
    rfl
theorem invB3_right {l : List α} {f mid e i j : Int} {m0 l' m : List α} (hf : 0 ≤ f) (hm : mid ≤ l.length) (he : e ≤ l.length) (h0 : l' = l) (h1 : f ≤ i) (h2 : i ≤ mid) (h3 : mid ≤ j) (h4 : j ≤ e) (h5 : (m.length : Int) = i + (j - mid))
    (h6 : m ++ List.merge (subP l i mid) (subP l j e) le = m0 ++ List.merge (subP l f mid) (subP l mid e) le) (hj : j < e) (hle : ¬ (i < mid ∧ le l'[i.toNat]! l'[j.toNat]! = true)) : invB3 le l f mid e m0 i (j + 1) l' (m ++ [l'[j.toNat]!]) := by
  subst h0
  refine ⟨rfl, h1, h2, by omega, by omega, by simp; omega, ?_⟩
  rw [← h6, subP_cons (i := j) (by omega) hj he, List.append_assoc]
  congr 1
  by_cases hi : i < mid
  · rw [subP_cons (i := i) (by omega) hi hm, List.cons_merge_cons, if_neg (fun k => hle ⟨hi, k⟩)]
    rfl
  · rw [subP_nil (i := i) (by omega), List.nil_merge, List.nil_merge]
    rfl
theorem invB3_done {l : List α} {n w f i j : Int} {l' m0 m : List α} (hk : ∃ k : Nat, f.toNat = k * (2 * w.toNat) ∧ m0 = mgP le w.toNat l k) (hn : n = l.length) (hw : 1 ≤ w) (hf : 0 ≤ f) (hfn : f < n) (h0 : l' = l)
    (h2 : i ≤ min (f + w) n) (h3 : min (f + w) n ≤ j) (h4 : j ≤ min (min (f + w) n + w) n)
    (h6 : m ++ List.merge (subP l i (min (f + w) n)) (subP l j (min (min (f + w) n + w) n)) le = m0 ++ List.merge (subP l f (min (f + w) n)) (subP l (min (f + w) n) (min (min (f + w) n + w) n)) le) (hi : ¬ i < min (f + w) n) (hj : ¬ j < min (min (f + w) n + w) n) :
    invB2 le l n w (f + 2 * w) l' m := by
  subst hn
  obtain ⟨k, k1, k2⟩ := hk
  refine ⟨h0, by omega, by omega, k + 1, ?_, ?_⟩
  · rw [Nat.succ_mul, ← k1]; omega
  · rw [subP_nil (i := i) (by omega), subP_nil (i := j) (by omega), List.nil_merge, List.append_nil, subP_first hf (by omega), subP_second hf (by omega)] at h6
    rw [h6, mgP, k2, k1]
theorem invB1_next {es l m : List α} {n w f : Int} (hk : ∃ k : Nat, f.toNat = k * (2 * w.toNat) ∧ m = mgP le w.toNat l k) (hb : botS le w.toNat l = botS le 1 es) (hn : n = l.length) (hw : 1 ≤ w) (hwn : w < n) (hf : 0 ≤ f) (hfn : ¬ f < n) :
    invB1 le es n (2 * w) m := by
  subst hn
  obtain ⟨k, k1, k2⟩ := hk
  have e : (2 * w).toNat = 2 * w.toNat := by omega
  have hm : m = mgA le w.toNat l := by rw [k2]; exact mgA_of le (by omega) (by omega)
  refine ⟨by omega, by omega, ?_, ?_⟩
  · rw [hm, mgA_len le (by omega)]
  · rw [e, hm, ← botS_step le (by omega) (by omega), hb]
theorem mgP_flen {l m : List α} {w f : Int} (hf : 0 ≤ f) (hfn : f < l.length) (hk : ∃ k : Nat, f.toNat = k * (2 * w.toNat) ∧ m = mgP le w.toNat l k) : (m.length : Int) = f := by
  obtain ⟨k, k1, k2⟩ := hk
  rw [k2, mgP_len, ← k1]
  omega
theorem invB3_init {l m : List α} {w f mid e j : Int} (hk : ∃ k : Nat, f.toNat = k * (2 * w.toNat) ∧ m = mgP le w.toNat l k) (hf : 0 ≤ f) (hfn : f < l.length) (h1 : f ≤ mid) (h2 : mid ≤ e) (hj : j = mid) : invB3 le l f mid e m f j l m := by
  subst hj
  exact ⟨rfl, Int.le_refl _, h1, Int.le_refl _, h2, by rw [mgP_flen hf hfn hk]; omega, rfl⟩
theorem invB2_init {l : List α} {n w : Int} (hn : 0 ≤ n) (hw : 1 ≤ w) : invB2 le l n w 0 l [] := ⟨rfl, Int.le_refl _, by omega, 0, by simp, rfl⟩
theorem invB1_init {es : List α} {n : Int} (hn : (es.length : Int) = n) : invB1 le es n 1 es := ⟨Int.le_refl _, by omega, hn, rfl⟩
end Go.E
