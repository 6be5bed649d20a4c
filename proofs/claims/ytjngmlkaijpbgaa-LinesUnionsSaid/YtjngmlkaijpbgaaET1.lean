/- ET1: the worlds that a sort passes through: the row laid, new blocks behind, some draws on. Conditions: none. -/
import Derived.Shelf.SlSortFuncK.RowK2
import Derived.Below
set_option linter.unusedVariables false
set_option linter.unusedSimpArgs false
namespace Go.E
open Go.Sort Go.RowKit

/-- A fact kept from the walk. -/
structure Box (p : Prop) : Prop where
  out : p
def wDr (w : World) (q : Nat) : World := { w with drawn := q }
section
variable {α : Type} [Inhabited α] {enc : α → List Value} {k : Nat} {w0 W W' : World} {blk off : Nat} {d d' : Array α}

/-- W is w0 with the row laid with d; new blocks behind; some draws on. -/
def Fam (enc : α → List Value) (k blk off : Nat) (w0 : World) (d : Array α) (W : World) : Prop := ∃ q os, W = wDr (grow (putRowK enc k w0 blk off d) os) q

theorem putRowK_wDr (w : World) (q : Nat) (d : Array α) : putRowK enc k (wDr w q) blk off d = wDr (putRowK enc k w blk off d) q := rfl
theorem grow_wDr (w : World) (q : Nat) (os : Array Obj) : grow (wDr w q) os = wDr (grow w os) q := rfl
theorem wDr_wDr (w : World) (q p : Nat) : wDr (wDr w q) p = wDr w p := rfl
theorem wDr_self (w : World) : wDr w w.drawn = w := rfl
theorem holdsK_wDr (w : World) (q : Nat) (d : Array α) (h : HoldsK enc k w blk off d) : HoldsK enc k (wDr w q) blk off d := h
theorem Fam.start (h : HoldsK enc k w0 blk off d) : Fam enc k blk off w0 d w0 := ⟨w0.drawn, #[], by rw [putRowK_self enc k w0 blk off d h, grow_empty, wDr_self]⟩
theorem Fam.size (h : Fam enc k blk off w0 d W) : w0.heap.size ≤ W.heap.size := by
  obtain ⟨q, os, rfl⟩ := h
  show w0.heap.size ≤ (grow (putRowK enc k w0 blk off d) os).heap.size
  rw [size_grow, size_putRowK]; omega
theorem Fam.grown (h : Fam enc k blk off w0 d W) (q : Nat) (os : Array Obj) : Fam enc k blk off w0 d (wDr (grow W os) q) := by
  obtain ⟨p, os', rfl⟩ := h
  exact ⟨q, os' ++ os, by rw [grow_wDr, wDr_wDr, grow_grow]⟩
theorem Fam.alloc (h : Fam enc k blk off w0 d W) (o : Obj) : Fam enc k blk off w0 d (W.alloc o) := by
  have := h.grown W.drawn #[o]
  rw [← alloc_eq_grow] at this
  exact this
theorem Fam.drewN (h : Fam enc k blk off w0 d W) (n : Nat) : Fam enc k blk off w0 d (W.drewN n) := by
  have := h.grown (W.drewN n).drawn #[]
  rw [grow_empty] at this
  have e : wDr W (W.drewN n).drawn = W.drewN n := by
    have : W.drewN n = Sort.ahead W n := by
      clear this h
      induction n with
      | zero => rfl
      | succ n ih =>
        show (W.drewN n).drew = _
        rw [ih, drew_eq_ahead, ahead_ahead]
    rw [this]; rfl
  rw [e] at this
  exact this
theorem Fam.trans (h : Fam enc k blk off w0 d W) (hb : blk < w0.heap.size) (h' : Fam enc k blk off W d' W') (hs : d'.size = d.size) : Fam enc k blk off w0 d' W' := by
  obtain ⟨q, os, rfl⟩ := h
  obtain ⟨q', os', rfl⟩ := h'
  refine ⟨q', os ++ os', ?_⟩
  have := grow_step_growK (enc := enc) (k := k) w0 os os' 0 0 blk off d d' hb hs
  simp only [ahead_zero, Nat.add_zero] at this
  rw [putRowK_wDr, grow_wDr, wDr_wDr, this]
theorem Fam.cell (h : Fam enc k blk off w0 d W) {a : Addr} (ha : a.block < w0.heap.size) (hne : a.block ≠ blk) : W.cell? a = w0.cell? a := by
  obtain ⟨q, os, rfl⟩ := h
  show (grow (putRowK enc k w0 blk off d) os).cell? a = _
  rw [cell?_grow _ _ _ (by rw [size_putRowK]; exact ha), cell?_putRowK_other _ _ _ _ _ _ _ hne]
theorem Fam.holds {d0 : Array α} (h : Fam enc k blk off w0 d W) (hb : blk < w0.heap.size) (h0 : HoldsK enc k w0 blk off d0) (hs : d.size = d0.size) : HoldsK enc k W blk off d := by
  obtain ⟨q, os, rfl⟩ := h
  exact holdsK_wDr _ q d (holdsK_grow enc k _ os blk off d (by rw [size_putRowK]; exact hb) (holdsK_putRowK enc k w0 blk off d0 d h0 hs))
theorem Fam.swap (h : Fam enc k blk off w0 d W) (hk : ∀ x, (enc x).length = k) (hb : blk < w0.heap.size) (i j : Nat) (hi : i < d.size) (hj : j < d.size) :
    Fam enc k blk off w0 (swp d i j) ((W.setCells blk (off + i * k) (enc d[j]!)).setCells blk (off + j * k) (enc d[i]!)) := by
  obtain ⟨q, os, rfl⟩ := h
  refine ⟨q, os, ?_⟩
  have e : ∀ (w : World) (o : Nat) (vs : List Value), (wDr w q).setCells blk o vs = wDr (w.setCells blk o vs) q := by
    intro w o vs
    induction vs generalizing w o with
    | nil => rfl
    | cons v vs ih => show ((wDr w q).setCell ⟨blk, o, none⟩ v).setCells blk (o + 1) vs = _
                      rw [show (wDr w q).setCell ⟨blk, o, none⟩ v = wDr (w.setCell ⟨blk, o, none⟩ v) q from rfl, ih]; rfl
  rw [e, e, ← putRowK_grow enc k w0 os blk off d hb, putRowK_swp enc k hk _ blk off d i j hi hj, putRowK_grow enc k w0 os blk off _ hb]
/-- Behind a call by whose contract nothing that was there has turned. -/
theorem Fam.below (h : Fam enc k blk off w0 d W) (hb : Below W.heap.size W W') : Fam enc k blk off w0 d W' := by
  have e : W' = wDr (grow W (W'.heap.extract W.heap.size W'.heap.size)) W'.drawn := by
    have hh : W'.heap = W.heap ++ W'.heap.extract W.heap.size W'.heap.size := by
      apply Array.ext'
      rw [Array.toList_append, Array.toList_extract]
      apply List.ext_getElem?
      intro i
      by_cases hi : i < W.heap.size
      · rw [List.getElem?_append_left (by simpa using hi)]
        have := hb.block i hi
        simpa using this
      · rw [List.getElem?_append_right (by simpa using hi)]
        simp only [List.extract, Array.length_toList, List.getElem?_take, List.getElem?_drop]
        have hs := hb.size
        have e2 : W.heap.size + (i - W.heap.size) = i := by omega
        rw [e2]
        split
        · rfl
        · rw [List.getElem?_eq_none (by simp; omega)]
    have h1 := hb.os
    have h2 := hb.tape
    have h3 := hb.output
    cases W' with
    | mk heap tape drawn os output =>
      simp only [wDr, grow] at *
      subst h1 h2 h3
      rw [← hh]
  rw [e]
  exact h.grown _ _
end
end Go.E
