/- ET2: a row of one's own that has been put into another order: what the world keeps, what the row holds. Conditions: none. -/
import Derived.Test.YtjngmlkaijpbgaaET1
import Derived.Test.YtjngmlkaijpbgaaE5
set_option linter.unusedVariables false
set_option linter.unusedSimpArgs false
set_option linter.unusedSectionVars false
namespace Go.E
open Go.Sort Go.RowKit
section
variable {α : Type} [Inhabited α] {enc : α → List Value} {k : Nat} {w0 W W' : World} {blk off : Nat} {d d' : Array α}

theorem flatK_list (hk : ∀ x, (enc x).length = k) (d : Array α) : (flatK enc k d).toList = (d.toList.map enc).flatten := by
  have hsz : ∀ r ∈ d.toList.map enc, r.length = k := by
    intro r hr
    obtain ⟨x, _, rfl⟩ := List.mem_map.1 hr
    exact hk x
  apply List.ext_getElem?
  intro t
  by_cases ht : t < d.size * k
  · have k0 : 0 < k := by
      rcases Nat.eq_zero_or_pos k with h | h
      · subst h; simp at ht
      · exact h
    have hq : t % k < k := Nat.mod_lt _ k0
    have hj : t / k < d.size := (Nat.div_lt_iff_lt_mul k0).2 ht
    have hr : (d.toList.map enc)[t / k]? = some (enc d[t / k]) := by simp [hj]
    have := flatten_get hsz hr hq
    rw [show t / k * k + t % k = t by rw [Nat.mul_comm]; exact Nat.div_add_mod t k] at this
    rw [this, Array.getElem?_toList, getElem?_pos _ t (by simpa using ht)]
    have e := get_flatK enc k d t ht
    rw [getElem!_pos _ t (by simpa using ht)] at e
    rw [e, getElem!_pos d _ hj, getElem?_pos _ (t % k) (by rw [hk]; exact hq), getElem!_pos _ (t % k) (by rw [hk]; exact hq)]
  · rw [List.getElem?_eq_none (by simp; omega), List.getElem?_eq_none (by rw [flatten_len hsz]; simp; omega)]
theorem Fam.facts (h : Fam enc k blk off w0 d W) : W.os = w0.os ∧ W.tape = w0.tape ∧ W.output = w0.output ∧ ∀ j, j < w0.heap.size → j ≠ blk → W.heap[j]? = w0.heap[j]? := by
  obtain ⟨q, os, rfl⟩ := h
  refine ⟨rfl, rfl, rfl, fun j hj hne => ?_⟩
  show ((w0.heap.modify blk _) ++ os)[j]? = _
  rw [Array.getElem?_append_left (by simpa using hj), Array.getElem?_modify, if_neg (Ne.symm hne)]
theorem Fam.block (h : Fam enc k blk off w0 d W) {cur : Array Value} {e : TypeId} {fz : Nat × Nat} (hc : w0.heap[blk]? = some (.cells cur e fz)) : ∃ cur', cur'.size = cur.size ∧ W.heap[blk]? = some (.cells cur' e fz) := by
  obtain ⟨q, os, rfl⟩ := h
  have hb : blk < w0.heap.size := (Array.getElem?_eq_some_iff.1 hc).1
  refine ⟨putCells id off (flatK enc k d) cur, by simp [putCells], ?_⟩
  show ((w0.heap.modify blk _) ++ os)[blk]? = _
  rw [Array.getElem?_append_left (by simpa using hb), Array.getElem?_modify, if_pos rfl, hc]
  rfl
theorem holds_of_owns (hk : ∀ x, (enc x).length = k) {base ty n cap : Nat} {xs : List Value} (ho : w0.ownsRow base ty k (.slice (some ⟨blk, 0, none⟩) n cap) n xs) (hn : n = d.size) (hx : xs = (d.toList.map enc).flatten) : HoldsK enc k w0 blk 0 d := by
  obtain ⟨_, h⟩ := ho
  rcases h with ⟨h, _⟩ | ⟨g, cap', cur, e1, hb, hh, h1, h2, h3, h4⟩
  · cases h
  · simp only [Value.slice.injEq, Option.some.injEq, Addr.mk.injEq] at e1
    obtain ⟨⟨rfl, _, _⟩, _, rfl⟩ := e1
    intro j hj
    rw [← flatK_list hk] at hx
    rw [hx] at h4
    have hj' : j < n * k := by rw [hn]; simpa using hj
    have e : cur[j]? = some (flatK enc k d)[j]! := by
      have := congrArg (fun l => l[j]?) h4
      simp only [List.getElem?_take, hj', if_true, Array.getElem?_toList] at this
      rw [this, getElem?_pos _ j hj, getElem!_pos _ j hj]
    refine ⟨?_, ?_⟩
    · simp [World.cell?, hh, e]
    · simp [World.frozen?, hh]
theorem owns_of_holds (hk : ∀ x, (enc x).length = k) {base ty n cap : Nat} {cur : Array Value} (hH : HoldsK enc k W blk 0 d) (hn : n = d.size) (hb : base ≤ blk) (hh : W.heap[blk]? = some (.cells cur ty (0, 0))) (h1 : n ≤ cap) (h2 : cap ≤ maxLen) (h3 : cur.size = cap * k) :
    W.ownsRow base ty k (.slice (some ⟨blk, 0, none⟩) n cap) n (d.toList.map enc).flatten := by
  rw [← flatK_list hk]
  refine ⟨by simp [hn], .inr ⟨blk, cap, cur, rfl, hb, hh, h1, h2, h3, ?_⟩⟩
  have hle : n * k ≤ cur.size := by rw [h3]; exact Nat.mul_le_mul_right _ h1
  apply List.ext_getElem?
  intro j
  by_cases hj : j < n * k
  · have := (hH j (by simpa [hn] using hj)).1
    simp only [World.cell?, Nat.zero_add, hh, Option.isSome_none, Bool.false_eq_true, if_false, id] at this
    rw [List.getElem?_take, if_pos hj, Array.getElem?_toList, this, Array.getElem?_toList, getElem?_pos _ j (by simpa [hn] using hj), getElem!_pos _ j (by simpa [hn] using hj)]
  · rw [List.getElem?_eq_none (by simp; omega), List.getElem?_eq_none (by simp [← hn]; omega)]
theorem Fam.owns (hk : ∀ x, (enc x).length = k) (h : Fam enc k blk 0 w0 d' W) (hs : d'.size = d.size) {base ty n cap : Nat} {xs : List Value} (hx : xs = (d.toList.map enc).flatten) (hn : n = d.size) (ho : w0.ownsRow base ty k (.slice (some ⟨blk, 0, none⟩) n cap) n xs) :
    W.ownsRow base ty k (.slice (some ⟨blk, 0, none⟩) n cap) n (d'.toList.map enc).flatten := by
  have hH := holds_of_owns hk ho hn hx
  obtain ⟨_, h0⟩ := ho
  rcases h0 with ⟨h0, _⟩ | ⟨g, cap', cur, e1, hb, hh, h1, h2, h3, h4⟩
  · cases h0
  · simp only [Value.slice.injEq, Option.some.injEq, Addr.mk.injEq] at e1
    obtain ⟨⟨rfl, _, _⟩, _, rfl⟩ := e1
    have hlt : blk < w0.heap.size := (Array.getElem?_eq_some_iff.1 hh).1
    obtain ⟨cur', c1, c2⟩ := h.block hh
    exact owns_of_holds hk (h.holds hlt hH hs) (by rw [hn, hs]) hb c2 h1 h2 (by rw [c1, h3])
end
end Go.E
