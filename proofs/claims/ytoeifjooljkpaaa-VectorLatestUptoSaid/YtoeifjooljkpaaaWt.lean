/- Wt: the document's Sort, a merge sort from below; Heads. Conditions: sizes. -/
import Derived.Test.YtoeifjooljkpaaaWs
import Derived.Test.YtoeifjooljkpaaaWo
import Derived.Test.YtoeifjooljkpaaaEW
set_option linter.unusedVariables false
set_option linter.unusedSimpArgs false
namespace Go.Proofs.Ytoeifjooljkpaaa
open Go.E
set_option maxRecDepth 100000
set_option maxHeartbeats 4000000
def leL (x y : List Int) : Bool := decide (cmpV (of x) (of y) ≤ 0)
/-- The vectors in order. -/
def srtV (vs : List (List Int)) : List (Vector Int 16) := (vs.map of).mergeSort (fun x y => !ltV y x)
theorem ltV_not (x y : Vector Int 16) : (!ltV y x) = decide (cmpV x y ≤ 0) := by
  have := cmpV_neg x y
  simp only [ltV]
  rw [Bool.eq_iff_iff]
  simp only [Bool.not_eq_true', decide_eq_false_iff_not, decide_eq_true_eq]
  omega
theorem srtV_length (vs : List (List Int)) : (srtV vs).length = vs.length := by simp [srtV]
theorem srtV_mem {vs : List (List Int)} {x : Vector Int 16} : x ∈ srtV vs ↔ ∃ v ∈ vs, of v = x := by simp [srtV]
theorem srtV_range {vs : List (List Int)} {x : Vector Int 16} (h : x ∈ srtV vs) : inRange x := by
  obtain ⟨v, _, rfl⟩ := srtV_mem.1 h
  exact of_range v
theorem srtV_pair (vs : List (List Int)) : (srtV vs).Pairwise (fun x y => cmpV x y ≤ 0) := by
  have h := List.pairwise_mergeSort (le := fun x y => !ltV y x) ?_ ?_ (vs.map of)
  · refine List.Pairwise.imp ?_ h
    intro x y h
    rw [ltV_not] at h
    simpa using h
  · intro a b c h1 h2
    rw [ltV_not] at h1 h2 ⊢
    simp only [decide_eq_true_eq] at *
    exact cmpV_trans a b c h1 h2
  · intro a b
    rw [ltV_not, ltV_not]
    have := cmpV_neg a b
    simp only [Bool.or_eq_true, decide_eq_true_eq]
    omega
/-- Lists in form, that rise, with the same members as often: one list. -/
theorem srt_unique {vs l : List (List Int)} (hp : l.Perm (vs.map fun v => short (of v))) (hs : l.Pairwise (fun x y => leL x y = true)) : l = (srtV vs).map short := by
  have hm : ∀ x ∈ l, x = short (of x) := fun x hx => by
    obtain ⟨v, _, rfl⟩ := List.mem_map.1 (hp.subset hx)
    rw [of_short (of_range v)]
  refine List.Perm.eq_of_pairwise (le := fun x y => leL x y = true) ?_ hs ?_ (hp.trans ?_)
  · intro a b ha hb h1 h2
    obtain ⟨y, hy, rfl⟩ := List.mem_map.1 hb
    have hy' := of_short (srtV_range hy)
    simp only [leL, decide_eq_true_eq, hy'] at h1 h2
    have := cmpV_neg (of a) y
    have := (cmpV_zero (of a) y).1 (by omega)
    rw [hm a ha, this]
  · refine List.pairwise_map.2 (List.Pairwise.imp_of_mem ?_ (srtV_pair vs))
    intro x y hx hy h
    simp only [leL, of_short (srtV_range hx), of_short (srtV_range hy), decide_eq_true_eq]
    exact h
  · have e : (vs.map fun v => short (of v)) = (vs.map of).map short := by rw [List.map_map]; rfl
    rw [e]
    exact ((List.mergeSort_perm (vs.map of) _).map short).symm
theorem leL_trans (a b c : List Int) (h1 : leL a b = true) (h2 : leL b c = true) : leL a c = true := by
  simp only [leL, decide_eq_true_eq] at *
  exact cmpV_trans _ _ _ h1 h2
theorem leL_total (a b : List Int) : (leL a b || leL b a) = true := by
  have := cmpV_neg (of a) (of b)
  simp only [leL, Bool.or_eq_true, decide_eq_true_eq]
  omega
/-! the three loops -/
def isNorm (vs : List (List Int)) (i : Int) (l : List (List Int)) : Prop := l = (vs.take i.toNat).map fun v => short (of v)
def inv42a (vs : List (List Int)) (i : Int) (l : List (List Int)) : Prop := 0 ≤ i ∧ i ≤ vs.length ∧ (l.length : Int) = i ∧ isNorm vs i l
def dec42a (vs : List (List Int)) (i : Int) (l : List (List Int)) : Nat := (vs.length - i).toNat
theorem inv42a_init (vs : List (List Int)) : inv42a vs 0 [] := ⟨by omega, by omega, by simp, by simp [isNorm]⟩
theorem inv42a_step {vs l : List (List Int)} {i : Int} (h0 : 0 ≤ i) (h : i < vs.length) (hl : (l.length : Int) = i) (hn : isNorm vs i l) : inv42a vs (i + 1) (l ++ [short (of vs[i.toNat]!)]) := by
  refine ⟨by omega, by omega, by simp; omega, ?_⟩
  unfold isNorm at *
  rw [hn, ← take_step h0 h, List.map_append]; rfl
theorem inv42a_done {vs l : List (List Int)} {i : Int} (h0 : i ≤ vs.length) (h : ¬ i < vs.length) (hl : (l.length : Int) = i) (hn : isNorm vs i l) : invB1 leL (vs.map fun v => short (of v)) l.length 1 l := by
  have e : l = vs.map fun v => short (of v) := by
    unfold isNorm at hn
    rw [hn, List.take_of_length_le (by omega)]
  rw [← e]
  exact invB1_init rfl
theorem leL_iff (a b : List Int) : leL a b = true ↔ cmpV (of a) (of b) ≤ 0 := by simp [leL]
theorem invB3_leftV {l : List (List Int)} {f mid e i j : Int} {m0 l' m : List (List Int)} (hf : 0 ≤ f) (hm : mid ≤ l.length) (he : e ≤ l.length) (h0 : l' = l) (h1 : f ≤ i) (h2 : i ≤ mid) (h3 : mid ≤ j) (h4 : j ≤ e) (h5 : (m.length : Int) = i + (j - mid))
    (h6 : m ++ List.merge (subP l i mid) (subP l j e) leL = m0 ++ List.merge (subP l f mid) (subP l mid e) leL) (hi : i < mid) (hle : e ≤ j ∨ cmpV (of l'[i.toNat]!) (of l'[j.toNat]!) ≤ 0) : invB3 leL l f mid e m0 (i + 1) j l' (m ++ [l'[i.toNat]!]) :=
  invB3_left hf hm he h0 h1 h2 h3 h4 h5 h6 hi (by rw [leL_iff]; exact hle)
theorem invB3_rightV {l : List (List Int)} {f mid e i j : Int} {m0 l' m : List (List Int)} (hf : 0 ≤ f) (hm : mid ≤ l.length) (he : e ≤ l.length) (h0 : l' = l) (h1 : f ≤ i) (h2 : i ≤ mid) (h3 : mid ≤ j) (h4 : j ≤ e) (h5 : (m.length : Int) = i + (j - mid))
    (h6 : m ++ List.merge (subP l i mid) (subP l j e) leL = m0 ++ List.merge (subP l f mid) (subP l mid e) leL) (hj : j < e) (hle : ¬ (i < mid ∧ cmpV (of l'[i.toNat]!) (of l'[j.toNat]!) ≤ 0)) : invB3 leL l f mid e m0 i (j + 1) l' (m ++ [l'[j.toNat]!]) :=
  invB3_right hf hm he h0 h1 h2 h3 h4 h5 h6 hj (by rw [leL_iff]; exact hle)
theorem bot_srt (vs : List (List Int)) : botS leL 1 (vs.map fun v => short (of v)) = (srtV vs).map short :=
  srt_unique (botS_perm leL _ 1 _ (Nat.le_refl _)) (botS_rises leL_trans leL_total _ 1 _ (Nat.le_refl _) (by omega) (chunkyP_one _))
/-! heads -/
def lateV (vs : List (List Int)) (a : Vector Int 16) : Bool := vs.all fun v => !decide (ordV a (of v) = 1)
def invLate (a : Vector Int 16) (vs : List (List Int)) (i : Int) (b : Vector Int 16) : Prop := 0 ≤ i ∧ i ≤ vs.length ∧ b = a ∧ ∀ j : Nat, (j : Int) < i → ¬ ordV a (of vs[j]!) = 1
def decLate (vs : List (List Int)) (i : Int) (b : Vector Int 16) : Nat := (vs.length - i).toNat
theorem lateV_iff (a : Vector Int 16) (vs : List (List Int)) : lateV vs a = true ↔ ∀ v ∈ vs, ¬ ordV a (of v) = 1 := by
  simp [lateV]
theorem lateV_no {a : Vector Int 16} {vs : List (List Int)} {i : Int} (h0 : 0 ≤ i) (h1 : i < vs.length) (h : ordV a (of vs[i.toNat]!) = 1) : lateV vs a = false := by
  rw [← Bool.not_eq_true, lateV_iff]
  intro k
  exact k _ (bang_mem (by omega)) h
theorem lateV_yes {a : Vector Int 16} {vs : List (List Int)} {i : Int} (h1 : ¬ i < vs.length) (h : ∀ j : Nat, (j : Int) < i → ¬ ordV a (of vs[j]!) = 1) : lateV vs a = true := by
  rw [lateV_iff]
  intro v hv
  obtain ⟨j, hj, rfl⟩ := List.mem_iff_getElem.1 hv
  have := h j (by omega)
  rwa [getElem!_pos vs j hj] at this
/-- Of a list that rises: those that pass, each once. -/
def hdN (p : Vector Int 16 → Bool) (l : List (Vector Int 16)) : Nat → List (Vector Int 16)
  | 0 => []
  | n + 1 => if p l[n]! = true ∧ (n = 0 ∨ l[n]! ≠ l[n - 1]!) then hdN p l n ++ [l[n]!] else hdN p l n
theorem hdN_len (p : Vector Int 16 → Bool) (l : List (Vector Int 16)) : ∀ n, (hdN p l n).length ≤ n
  | 0 => by simp [hdN]
  | n + 1 => by
    have := hdN_len p l n
    unfold hdN
    split
    · simp; omega
    · omega
theorem hdN_mem (p : Vector Int 16 → Bool) (l : List (Vector Int 16)) : ∀ n x, x ∈ hdN p l n → p x = true ∧ ∃ j, j < n ∧ x = l[j]!
  | 0, x, h => by simp [hdN] at h
  | n + 1, x, h => by
    unfold hdN at h
    split at h
    · rename_i hc
      rcases List.mem_append.1 h with h | h
      · obtain ⟨h1, j, hj, e⟩ := hdN_mem p l n x h
        exact ⟨h1, j, by omega, e⟩
      · rw [List.mem_singleton.1 h]; exact ⟨hc.1, n, by omega, rfl⟩
    · obtain ⟨h1, j, hj, e⟩ := hdN_mem p l n x h
      exact ⟨h1, j, by omega, e⟩
theorem hdN_last (p : Vector Int 16 → Bool) (l : List (Vector Int 16)) : ∀ n, 0 < n → p l[n - 1]! = true → (hdN p l n).getLast? = some l[n - 1]!
  | 0, h, _ => by omega
  | n + 1, _, hp => by
    simp only [Nat.add_sub_cancel] at hp ⊢
    unfold hdN
    split
    · simp
    · rename_i hc
      have : ¬ (n = 0 ∨ l[n]! ≠ l[n - 1]!) := fun k => hc ⟨hp, k⟩
      have h0 : 0 < n := by omega
      have he : l[n]! = l[n - 1]! := by
        by_cases e : l[n]! = l[n - 1]!
        · exact e
        · exact absurd (.inr e) this
      rw [he]
      exact hdN_last p l n h0 (by rw [← he]; exact hp)
/-- equals stand together -/
def together (l : List (Vector Int 16)) : Prop := ∀ i j : Nat, i < j → j < l.length → l[i]! = l[j]! → l[j - 1]! = l[j]!
theorem srtV_together (vs : List (List Int)) : together (srtV vs) := by
  intro i j hij hj h
  have hp := List.pairwise_iff_getElem.1 (srtV_pair vs)
  by_cases e : i = j - 1
  · rw [← e]; exact h
  · have h1 := hp i (j - 1) (by omega) (by omega) (by omega)
    have h2 := hp (j - 1) j (by omega) hj (by omega)
    rw [← getElem!_pos (srtV vs) _ (by omega), ← getElem!_pos (srtV vs) _ (by omega)] at h1 h2
    rw [h] at h1
    have h3 := cmpV_neg (srtV vs)[j]! (srtV vs)[j - 1]!
    exact ((cmpV_zero _ _).1 (by omega))
theorem hdN_step {p : Vector Int 16 → Bool} {l : List (Vector Int 16)} (ht : together l) {n : Nat} (hn : n < l.length) (hp : p l[n]! = true) :
    (n = 0 ∨ l[n]! ≠ l[n - 1]!) ↔ (hdN p l n = [] ∨ (hdN p l n).getLast? ≠ some l[n]!) := by
  constructor
  · intro h
    by_cases e : hdN p l n = []
    · exact .inl e
    · right
      intro k
      have hm := List.mem_of_getLast? k
      obtain ⟨_, j, hj, ej⟩ := hdN_mem p l n _ hm
      have := ht j n hj hn ej.symm
      rcases h with h | h
      · omega
      · exact h this.symm
  · intro h
    by_cases e : n = 0
    · exact .inl e
    · right
      intro k
      have := hdN_last p l n (by omega) (by rw [← k]; exact hp)
      rcases h with h | h
      · rw [h] at this; simp at this
      · rw [← k] at this; exact h this
def headsV (vs : List (List Int)) : List (List Int) × Int := if 256 < vs.length then ([], 2) else ((hdN (lateV vs) (srtV vs) vs.length).map short, 0)
end Go.Proofs.Ytoeifjooljkpaaa
