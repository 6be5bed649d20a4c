/- Wla: plain laws of Sort and Heads. Conditions: sizes. -/
import Derived.Test.YtoeifjooljkpaaaWu
import Derived.Test.YtoeifjooljkpaaaWz
import Derived.Test.YtoeifjooljkpaaaWo
set_option linter.unusedVariables false
set_option linter.unusedSimpArgs false
namespace Go.Proofs.Ytoeifjooljkpaaa
open Go.E
set_option maxRecDepth 100000
set_option maxHeartbeats 4000000
theorem sort_lit : (srtV [[3], [1, 2], [0, 1]]).map short = [[0, 1], [1, 2], [3]] := (srt_unique (by decide +kernel) (by decide +kernel)).symm
def inv12a (n i : Int) : Prop := 1 ≤ i ∧ i ≤ n + 1
def dec12a (n i : Int) : Nat := (n - i).toNat
def cntL (l : List (List Int)) (x : List Int) (i : Int) : Int := ((l.take i.toNat).countP (fun w => decide (w = x)) : Nat)
theorem cntL_step {l : List (List Int)} {x : List Int} {i : Int} (h0 : 0 ≤ i) (h : i < l.length) : cntL l x (i + 1) = cntL l x i + if l[i.toNat]! = x then 1 else 0 := by
  unfold cntL
  rw [← take_step h0 h, List.countP_append]
  by_cases e : l[i.toNat]! = x
  · rw [List.countP_cons_of_pos (p := fun w => decide (w = x)) (decide_eq_true e), if_pos e]; simp
  · rw [List.countP_cons_of_neg (p := fun w => decide (w = x)) (by rw [decide_eq_true_iff]; exact e), if_neg e]; simp
theorem cntL_le (l : List (List Int)) (x : List Int) (i : Int) (h0 : 0 ≤ i) (h : i ≤ l.length) : 0 ≤ cntL l x i ∧ cntL l x i ≤ i := by
  unfold cntL
  have := List.countP_le_length (p := fun w => decide (w = x)) (l := l.take i.toNat)
  rw [List.length_take] at this
  omega
def inv30i' {α : Type} (es : List α) (i : Int) : Prop := 0 ≤ i ∧ i ≤ es.length
def dec30i' {α : Type} (es : List α) (i : Int) : Nat := (es.length - i).toNat
def norms (vs : List (List Int)) : List (List Int) := vs.map fun v => short (of v)
theorem norms_len (vs : List (List Int)) : (norms vs).length = vs.length := by simp [norms]
theorem norms_get {vs : List (List Int)} {i : Nat} (h : i < vs.length) : (norms vs)[i]! = short (of vs[i]!) := by
  unfold norms
  rw [getElem!_pos _ i (by simpa using h), getElem!_pos vs i h, List.getElem_map]
theorem cnt_all (vs : List (List Int)) (x : List Int) (i j : Int) (hi : ¬ i < vs.length) (hj : ¬ j < vs.length) : cntL (norms vs) x i = cntL ((srtV vs).map short) x j := by
  unfold cntL
  rw [List.take_of_length_le (by rw [norms_len]; omega), List.take_of_length_le (by rw [List.length_map, srtV_length]; omega)]
  have hp : (norms vs).Perm ((srtV vs).map short) := by
    have e : norms vs = (vs.map of).map short := by rw [List.map_map]; rfl
    rw [e]
    exact ((List.mergeSort_perm (vs.map of) _).map short).symm
  rw [hp.countP_eq]
def inv12b (vs : List (List Int)) (x : List Int) (k i : Int) : Prop := 0 ≤ i ∧ i ≤ vs.length ∧ k = cntL (norms vs) x i
def inv12c (vs : List (List Int)) (x : List Int) (k i : Int) : Prop := 0 ≤ i ∧ i ≤ vs.length ∧ k = cntL (norms vs) x vs.length - cntL ((srtV vs).map short) x i
def dec12b (vs : List (List Int)) (k i : Int) : Nat := (vs.length - i).toNat
def covered (h : List (List Int)) (v : List Int) (i : Int) : Prop := ∃ k : Nat, (k : Int) < i ∧ leV (of v) (of h[k]!)
def inv10d (h : List (List Int)) (v : List Int) (found : Bool) (i : Int) : Prop := 0 ≤ i ∧ i ≤ h.length ∧ (found = true ↔ covered h v i)
def dec10d (h : List (List Int)) (found : Bool) (i : Int) : Nat := (h.length - i).toNat
theorem hdN_complete (p : Vector Int 16 → Bool) (l : List (Vector Int 16)) : ∀ n k : Nat, k < n → p l[k]! = true → l[k]! ∈ hdN p l n
  | 0, k, h, _ => by omega
  | n + 1, k, h, hp => by
    unfold hdN
    by_cases e : k = n
    · subst e
      split
      · simp
      · rename_i hc
        have : ¬ (k = 0 ∨ l[k]! ≠ l[k - 1]!) := fun g => hc ⟨hp, g⟩
        have h0 : ¬ k = 0 := fun g => this (.inl g)
        have he : l[k]! = l[k - 1]! := Classical.byContradiction fun g => this (.inr g)
        rw [he]
        exact hdN_complete p l k (k - 1) (by omega) (by rw [← he]; exact hp)
    · have := hdN_complete p l n k (by omega) hp
      split
      · exact List.mem_append_left _ this
      · exact this
theorem hdN_nodup (p : Vector Int 16 → Bool) {l : List (Vector Int 16)} (ht : together l) : ∀ n, n ≤ l.length → (hdN p l n).Nodup
  | 0, _ => by simp [hdN]
  | n + 1, h => by
    have ih := hdN_nodup p ht n (by omega)
    unfold hdN
    split
    · rename_i hc
      rw [List.nodup_append]
      refine ⟨ih, by simp, fun a ha b hb => ?_⟩
      rw [List.mem_singleton.1 hb]
      rintro rfl
      obtain ⟨_, j, hj, e⟩ := hdN_mem p l n _ ha
      rcases hc.2 with h0 | h0
      · omega
      · exact h0 (ht j n hj (by omega) e.symm).symm
    · exact ih
def hds (vs : List (List Int)) : List (Vector Int 16) := hdN (lateV vs) (srtV vs) vs.length
theorem hds_mem {vs : List (List Int)} {x : Vector Int 16} : x ∈ hds vs ↔ lateV vs x = true ∧ x ∈ srtV vs := by
  have hl := srtV_length vs
  constructor
  · intro h
    obtain ⟨h1, j, hj, e⟩ := hdN_mem _ _ _ _ h
    exact ⟨h1, by rw [e]; exact bang_mem (by omega)⟩
  · rintro ⟨h1, h2⟩
    obtain ⟨k, hk, rfl⟩ := List.mem_iff_getElem.1 h2
    have := hdN_complete (lateV vs) (srtV vs) vs.length k (by omega) (by rw [getElem!_pos (srtV vs) k hk]; exact h1)
    rwa [getElem!_pos (srtV vs) k hk] at this
theorem heads_small {vs : List (List Int)} (h : ¬ 256 < vs.length) : headsV vs = ((hds vs).map short, 0) := by
  unfold headsV hds
  rw [if_neg h]
theorem hd_get {vs : List (List Int)} {i : Nat} (h : i < (hds vs).length) : ((hds vs).map short)[i]! = short (hds vs)[i]! := by
  rw [getElem!_pos ((hds vs).map short) i (by simpa using h), getElem!_pos (hds vs) i h, List.getElem_map]
theorem hd_of {vs : List (List Int)} {i : Nat} (h : i < (hds vs).length) : of ((hds vs).map short)[i]! = (hds vs)[i]! := by
  rw [hd_get h, of_short (srtV_range (hds_mem.1 (bang_mem h)).2)]
theorem heads_apart {vs : List (List Int)} {i j : Nat} (hi : i < (hds vs).length) (hj : j < (hds vs).length) (hne : i ≠ j) : ordV (hds vs)[i]! (hds vs)[j]! = 3 := by
  have hn := hdN_nodup (lateV vs) (srtV_together vs) vs.length (by rw [srtV_length]; omega)
  have hd : (hds vs)[i]! ≠ (hds vs)[j]! := by
    rw [getElem!_pos (hds vs) i hi, getElem!_pos (hds vs) j hj]
    intro e
    exact hne ((List.getElem_inj hn).1 e)
  have key : ∀ {a b : Nat}, a < (hds vs).length → b < (hds vs).length → ¬ ordV (hds vs)[a]! (hds vs)[b]! = 1 := by
    intro a b ha hb
    have h1 := hds_mem.1 (bang_mem ha)
    have h2 := hds_mem.1 (bang_mem hb)
    obtain ⟨v, hv, e⟩ := srtV_mem.1 h2.2
    have := (lateV_iff _ _).1 h1.1 v hv
    rwa [e] at this
  have k1 := key hi hj
  have k2 := key hj hi
  rcases ordV_cases (hds vs)[i]! (hds vs)[j]! with ⟨c1, c2, e⟩ | ⟨c1, c2, e⟩ | ⟨c1, c2, e⟩ | ⟨c1, c2, e⟩
  · exact absurd ((leV_antisymm _ _).2 ⟨c1, c2⟩) hd
  · exact absurd e k1
  · rcases ordV_cases (hds vs)[j]! (hds vs)[i]! with ⟨d1, d2, e'⟩ | ⟨d1, d2, e'⟩ | ⟨d1, d2, e'⟩ | ⟨d1, d2, e'⟩
    · exact absurd d2 c1
    · exact absurd e' k2
    · exact absurd c2 d1
    · exact absurd c2 d1
  · exact e
theorem leV_trans {a b c : Vector Int 16} (h1 : leV a b) (h2 : leV b c) : leV a c := fun j hj => Int.le_trans (h1 j hj) (h2 j hj)
theorem above' (vs : List (List Int)) (big : Int) (hb : ∀ w : List Int, sumN (of w) 16 ≤ big) : ∀ (m : Nat) (v : List Int), v ∈ vs → (big - sumN (of v) 16).toNat ≤ m → ∃ x ∈ hds vs, leV (of v) x := by
  have step : ∀ v ∈ vs, (∃ x ∈ hds vs, leV (of v) x) ∨ ∃ w ∈ vs, leV (of v) (of w) ∧ sumN (of v) 16 < sumN (of w) 16 := by
    intro v hv
    by_cases hp : lateV vs (of v) = true
    · exact .inl ⟨of v, hds_mem.2 ⟨hp, srtV_mem.2 ⟨v, hv, rfl⟩⟩, fun j _ => Int.le_refl _⟩
    · right
      have : ∃ w ∈ vs, ordV (of v) (of w) = 1 := by
        refine Classical.byContradiction fun h => hp ((lateV_iff _ _).2 fun w hw e => h ⟨w, hw, e⟩)
      obtain ⟨w, hw, e⟩ := this
      have hle : leV (of v) (of w) ∧ ¬ leV (of w) (of v) := by
        rcases ordV_cases (of v) (of w) with ⟨c1, c2, e'⟩ | ⟨c1, c2, e'⟩ | ⟨c1, c2, e'⟩ | ⟨c1, c2, e'⟩ <;> rw [e'] at e <;> first | exact ⟨c1, c2⟩ | omega
      have h1 := sumN_le hle.1 16 (Nat.le_refl _)
      have h2 : ¬ sumN (of v) 16 = sumN (of w) 16 := fun e => hle.2 fun j hj => by have := sumN_lt hle.1 16 (Nat.le_refl _) e j hj; omega
      exact ⟨w, hw, hle.1, by omega⟩
  intro m
  induction m with
  | zero =>
    intro v hv hm
    rcases step v hv with h | ⟨w, hw, h1, h2⟩
    · exact h
    · have := hb w; omega
  | succ m ih =>
    intro v hv hm
    rcases step v hv with h | ⟨w, hw, h1, h2⟩
    · exact h
    · have := hb w
      obtain ⟨x, hx, hl⟩ := ih w hw (by omega)
      exact ⟨x, hx, leV_trans h1 hl⟩
theorem above (vs : List (List Int)) (v : List Int) (hv : v ∈ vs) : ∃ x ∈ hds vs, leV (of v) x :=
  above' vs 16000000000 (fun w => (sumN_range (of_range w) 16 (Nat.le_refl _)).2) _ v hv (Nat.le_refl _)
theorem cover_all {vs : List (List Int)} {v : List Int} (hv : v ∈ vs) {i : Int} (hi : ¬ i < (hds vs).length) : covered ((hds vs).map short) v i := by
  obtain ⟨x, hx, hl⟩ := above vs v hv
  obtain ⟨k, hk, rfl⟩ := List.mem_iff_getElem.1 hx
  refine ⟨k, by omega, ?_⟩
  rw [hd_of hk, getElem!_pos (hds vs) k hk]
  exact hl
theorem cover_step {h : List (List Int)} {v : List Int} {found : Bool} {i : Int} (h0 : 0 ≤ i) (hf : found = true ↔ covered h v i) (hn : ¬ leV (of v) (of h[i.toNat]!)) : found = true ↔ covered h v (i + 1) := by
  rw [hf]
  constructor
  · rintro ⟨k, hk, hl⟩; exact ⟨k, by omega, hl⟩
  · rintro ⟨k, hk, hl⟩
    by_cases e : k = i.toNat
    · rw [e] at hl; exact absurd hl hn
    · exact ⟨k, by omega, hl⟩
theorem mergeL_up : ∀ (vs : List (List Int)) (m : Vector Int 16), leV m (mergeL m vs) ∧ ∀ v ∈ vs, leV (of v) (mergeL m vs)
  | [], m => ⟨fun _ _ => Int.le_refl _, fun v hv => by simp at hv⟩
  | w :: vs, m => by
    obtain ⟨h1, h2⟩ := mergeL_up vs (mergeV m (of w))
    refine ⟨leV_trans (le_merge_left _ _) h1, fun v hv => ?_⟩
    rcases List.mem_cons.1 hv with rfl | hv
    · exact leV_trans (le_merge_right _ _) h1
    · exact h2 v hv
theorem mergeL_least {c : Vector Int 16} : ∀ (vs : List (List Int)) (m : Vector Int 16), leV m c → (∀ v ∈ vs, leV (of v) c) → leV (mergeL m vs) c
  | [], m, h, _ => h
  | w :: vs, m, h, hv => mergeL_least vs _ (merge_le h (hv w (by simp))) (fun v hv' => hv v (List.mem_cons_of_mem _ hv'))
theorem merge_heads (vs : List (List Int)) : mergeL (Vector.replicate 16 0) ((hds vs).map short) = mergeL (Vector.replicate 16 0) vs := by
  have u1 := mergeL_up ((hds vs).map short) (Vector.replicate 16 0)
  have u2 := mergeL_up vs (Vector.replicate 16 0)
  refine (leV_antisymm _ _).2 ⟨mergeL_least _ _ u2.1 fun v hv => ?_, mergeL_least _ _ u1.1 fun v hv => ?_⟩
  · obtain ⟨x, hx, rfl⟩ := List.mem_map.1 hv
    have hm := (hds_mem.1 hx).2
    rw [of_short (srtV_range hm)]
    obtain ⟨w, hw, rfl⟩ := srtV_mem.1 hm
    exact u2.2 w hw
  · obtain ⟨x, hx, hl⟩ := above vs v hv
    have := u1.2 (short x) (List.mem_map.2 ⟨x, hx, rfl⟩)
    rw [of_short (srtV_range (hds_mem.1 hx).2)] at this
    exact leV_trans hl this
theorem heads_lit : ((headsV [[1], [2], [0, 1], [2], []]).1.length : Int) = 2 := by
  have e1 : (srtV [[1], [2], [0, 1], [2], []]).map short = [[], [0, 1], [1], [2], [2]] := (srt_unique (by decide +kernel) (by decide +kernel)).symm
  have e2 : srtV [[1], [2], [0, 1], [2], []] = [of [], of [0, 1], of [1], of [2], of [2]] := by
    have : ((srtV [[1], [2], [0, 1], [2], []]).map short).map of = srtV [[1], [2], [0, 1], [2], []] := by
      rw [List.map_map]
      conv => rhs; rw [← List.map_id (srtV [[1], [2], [0, 1], [2], []])]
      exact List.map_congr_left fun x hx => of_short (srtV_range hx)
    rw [← this, e1]; rfl
  rw [heads_small (by decide), List.length_map, hds, e2]
  decide +kernel
theorem rise_srt {vs : List (List Int)} {i : Int} (h1 : 1 ≤ i) (h2 : i < vs.length) : cmpV (srtV vs)[(i - 1).toNat]! (srtV vs)[i.toNat]! ≤ 0 := by
  have hl := srtV_length vs
  have := List.pairwise_iff_getElem.1 (srtV_pair vs) (i - 1).toNat i.toNat (by omega) (by omega) (by omega)
  rwa [← getElem!_pos (srtV vs) _ (by omega), ← getElem!_pos (srtV vs) _ (by omega)] at this
theorem cnt_norm {vs : List (List Int)} {x : List Int} {i : Int} (h0 : 0 ≤ i) (h : i < vs.length) : cntL (norms vs) x (i + 1) = cntL (norms vs) x i + if short (of vs[i.toNat]!) = x then 1 else 0 := by
  rw [cntL_step h0 (by rw [norms_len]; exact h), norms_get (by omega)]
theorem cnt_bound (vs : List (List Int)) (x : List Int) {i : Int} (h0 : 0 ≤ i) (h : i ≤ vs.length) : 0 ≤ cntL (norms vs) x i ∧ cntL (norms vs) x i ≤ i := cntL_le _ _ _ h0 (by rw [norms_len]; exact h)
theorem cnt_bound' (vs : List (List Int)) (x : List Int) {i : Int} (h0 : 0 ≤ i) (h : i ≤ vs.length) : 0 ≤ cntL ((srtV vs).map short) x i ∧ cntL ((srtV vs).map short) x i ≤ i := cntL_le _ _ _ h0 (by rw [List.length_map, srtV_length]; exact h)
end Go.Proofs.Ytoeifjooljkpaaa
