/- EU: an array of slices that grow: its cells are rows of one's own. Conditions: none. -/
import Derived.Test.YtjngmlkaijpbgaaER
set_option linter.unusedVariables false
set_option linter.unusedSimpArgs false
namespace Go.E
open Go.RowKit
/-- The cells of an array of slices. -/
def tabC {α : Type} (enc : α → List AV) (n : Nat) (T : Nat → List α) : List AV := (List.range n).map fun j => AV.sl ((T j).map enc)
/-- One of them anew. -/
def updF {α : Type} (T : Nat → α) (k : Nat) (v : α) : Nat → α := fun j => if j = k then v else T j
theorem tabC_len {α : Type} (enc : α → List AV) (n : Nat) (T : Nat → List α) : (tabC enc n T).length = n := by simp [tabC]
theorem get_tabC {α : Type} {enc : α → List AV} {n : Nat} {T : Nat → List α} {j : Nat} (h : j < n) : (tabC enc n T)[j]? = some (.sl ((T j).map enc)) := by
  simp [tabC, h]
theorem set_tabC {α : Type} {enc : α → List AV} {n : Nat} {T : Nat → List α} {j : Nat} {l : List α} {rows : List (List AV)} (h : rows = l.map enc) : (tabC enc n T).set j (.sl rows) = tabC enc n (updF T j l) := by
  subst h
  apply List.ext_getElem?
  intro i
  rw [List.getElem?_set]
  by_cases hi : i < n
  · rw [get_tabC hi, tabC_len]
    by_cases e : j = i
    · subst e; rw [if_pos rfl, if_pos hi, get_tabC hi]; simp [updF]
    · rw [if_neg e, get_tabC hi]
      have : ¬ i = j := fun h => e h.symm
      simp [updF, this]
  · have e1 : (tabC enc n T)[i]? = none := List.getElem?_eq_none (by rw [tabC_len]; omega)
    have e2 : (tabC enc n (updF T j l))[i]? = none := List.getElem?_eq_none (by rw [tabC_len]; omega)
    rw [e1, e2, tabC_len]
    split
    · rw [if_neg (by omega)]
    · rfl
theorem updF_same {α : Type} (T : Nat → α) (k : Nat) (v : α) : updF T k v k = v := by simp [updF]
theorem updF_ne {α : Type} (T : Nat → α) {k j : Nat} (v : α) (h : j ≠ k) : updF T k v j = T j := by simp [updF, h]

theorem ZLe.of_eq {a b : List AV} (h : a = b) : ZLe a b := by rw [h]; exact ZLe.refl b
section
variable {P : Program} {E : Env} {T : Tab} {σ : St} {Q : Exit → St → Prop} {c : Code} {nt : Nat}
/-- An array as a variable of many cells. -/
def St.arrVar (σ : St) (d : Nat) : Option St := match look σ.hp d with
  | some B => (match B.k with | .arr cells => some ⟨σ.slots, put σ.hp d { B with k := .var cells }⟩ | _ => none)
  | none => none
theorem Rel.arrVar {σ' : St} {d : Nat} {a : Act} {w : World} (hs : σ.arrVar d = some σ') (h : Rel E σ a w) : Rel E σ' a w := by
  unfold St.arrVar at hs
  split at hs
  · rename_i B hB
    split at hs
    · rename_i cells hk
      simp only [Option.some.injEq] at hs
      subst hs
      obtain ⟨pl, h⟩ := h
      have hl : B.live = true := by simp [Blk.live, hk]
      obtain ⟨g, vs, e1, e2, e3, e4, e5⟩ := h.arrCell hB hk
      have hb := (h.blk_lt hB hl (k := g) (by rw [e1]; rfl)).1
      have := (h.chg (w' := w) d { B with k := .var cells } (pl d) (.inr ⟨B, hB, hl, rfl, by funext r c; simp [Blk.off, hk], rfl, by simp [Blk.len, hk]⟩) (fun _ _ _ => rfl) rfl rfl rfl (Nat.le_refl _)
        (fun k hk' => .inr ⟨B, hB, hl, hk'⟩) ⟨g, vs, e1, hb, e2, e3, e4, fun j b u hb' hu => .pure _ _ (e5 j b u hb' hu)⟩).1
      have epl : setPl pl d (pl d) = pl := by funext i; unfold setPl; split <;> simp_all
      rw [epl] at this
      exact ⟨pl, this⟩
    · cases hs
  · cases hs
/-- A variable of many cells, none of which leads to a block of one's own, as an array; of each cell no more is said than it says. -/
theorem Rel.varArr {d : Nat} {B : Blk} {cells cs : List AV} {a : Act} {w : World} (hB : look σ.hp d = some B) (hk : B.k = .var cells ∨ B.k = .arr cells) (hp : cells.all pureB = true) (hz : ZLe cells cs) (h : Rel E σ a w) : Rel E ⟨σ.slots, put σ.hp d { B with k := .arr cs }⟩ a w := by
  obtain ⟨pl, h⟩ := h
  have hl : B.live = true := by rcases hk with hk | hk <;> simp [Blk.live, hk]
  have hp' : ∀ x ∈ cells, pureB x = true := by simpa using hp
  have key : ∃ g vs, pl d = .pointer (some ⟨g, 0, none⟩) ∧ w.heap[g]? = some (.cells vs B.ty (0, 0)) ∧ vs.size = cells.length ∧ (∀ u ∈ vs.toList, u.oneCell' = true) ∧
      ∀ (j : Nat) (b : AV) (u : Value), cells[j]? = some b → vs[j]? = some u → RelV0 (SS E (look σ.hp) pl w) w b u := by
    rcases hk with hk | hk
    · obtain ⟨g, vs, e1, e2, e3, e4, e5⟩ := h.varCell hB hk
      exact ⟨g, vs, e1, e2, e3, e4, fun j b u hb hu => relv_pure (e5 j b u hb hu) (hp' b (List.mem_of_getElem? hb))⟩
    · exact h.arrCell hB hk
  obtain ⟨g, vs, e1, e2, e3, e4, e5⟩ := key
  have hb := (h.blk_lt hB hl (k := g) (by rw [e1]; rfl)).1
  have := (h.chg (w' := w) d { B with k := .arr cs } (pl d) (.inr ⟨B, hB, hl, rfl, by funext r c; rcases hk with hk | hk <;> simp [Blk.off, hk], rfl, by rcases hk with hk | hk <;> simp [Blk.len, hk, hz.1]⟩) (fun _ _ _ => rfl) rfl rfl rfl (Nat.le_refl _)
    (fun k hk' => .inr ⟨B, hB, hl, hk'⟩) ⟨g, vs, e1, hb, e2, by rw [e3]; exact hz.1, e4, fun j b u hb' hu => by
      have hj : j < cells.length := by
        have := hz.1
        have := lt_of_getElem? hb'
        omega
      exact hz.2 j _ b (List.getElem?_eq_getElem hj) hb' _ _ _ (e5 j _ u (List.getElem?_eq_getElem hj) hu)⟩).1
  have epl : setPl pl d (pl d) = pl := by funext i; unfold setPl; split <;> simp_all
  rw [epl] at this
  exact ⟨pl, this⟩
/-- A nil cell, as a row of one's own. -/
def St.adoptC (σ : St) (d ty sz j id : Nat) : Option St := match look σ.hp d, look σ.hp id with
  | some B, none => (match B.k with
    | .var cells => (match cells[j]? with
      | some .nl => some ⟨σ.slots, put (put σ.hp id ⟨0, ty, .row sz []⟩) d { B with k := .var (cells.set j (.own id 0)) }⟩
      | _ => none)
    | _ => none)
  | _, _ => none
theorem Rel.adoptC {σ' : St} {d ty sz j id : Nat} {a : Act} {w : World} (hs : σ.adoptC d ty sz j id = some σ') (h : Rel E σ a w) : Rel E σ' a w := by
  unfold St.adoptC at hs
  split at hs
  · rename_i B hB hid
    split at hs
    · rename_i cells hk
      split at hs
      · rename_i hc
        simp only [Option.some.injEq] at hs
        subst hs
        obtain ⟨pl, h⟩ := h
        have hl : B.live = true := by simp [Blk.live, hk]
        have hne : ¬ id = d := by rintro rfl; rw [hB] at hid; cases hid
        have h1 := (h.new (Below.refl _ _) id ⟨0, ty, .row sz []⟩ (.slice none 0 0) (fun C hC => by rw [hid] at hC; cases hC) (fun k hk => by simp [blkOf] at hk)
          ⟨fun r hr => by simp at hr, [], World.ownsRow_nil _ _ _ _, fun u hu => by simp at hu, fun j b u hb => by simp at hb⟩).1
        have hB1 : look (Go.E.put σ.hp id ⟨0, ty, .row sz []⟩) d = some B := by rw [look_put, if_neg hne]; exact hB
        obtain ⟨g, vs, e1, e2, e3, e4, e5⟩ := h1.varCell (id := d) hB1 hk
        have hb := (h1.blk_lt (id := d) hB1 hl (k := g) (by rw [e1]; rfl)).1
        have h2 := (h1.chg (w' := w) d { B with k := .var (cells.set j (.own id 0)) } (setPl pl id (.slice none 0 0) d) (.inr ⟨B, hB1, hl, rfl, by funext r c; simp [Blk.off, hk], rfl, by simp [Blk.len, hk]⟩) (fun _ _ _ => rfl) rfl rfl rfl (Nat.le_refl _)
          (fun k hk' => .inr ⟨B, hB1, hl, hk'⟩) ⟨g, vs, e1, hb, e2, by rw [e3]; simp, e4, fun i b u hb' hu => by
            rw [List.getElem?_set] at hb'
            split at hb'
            · rename_i e
              subst e
              split at hb'
              · simp only [Option.some.injEq] at hb'
                subst hb'
                have hu' : u = .slice none 0 0 := relv_nl (e5 j .nl u hc hu)
                subst hu'
                exact .own id 0 _ ⟨0, ty, .row sz []⟩ (by simp [look_put]) (Nat.le_refl _) rfl fun _ _ => by simp [setPl]
              · cases hb'
            · exact e5 i b u hb' hu⟩).1
        exact ⟨_, h2⟩
      · cases hs
    · cases hs
  · cases hs
def St.adoptCs (d ty sz b : Nat) : Nat → St → Option St
  | 0, σ => some σ
  | n + 1, σ => match St.adoptCs d ty sz b n σ with
    | some σ' => σ'.adoptC d ty sz n (b + n)
    | none => none
theorem Rel.adoptCs {d ty sz b : Nat} {a : Act} {w : World} : ∀ {n : Nat} {σ σ' : St}, St.adoptCs d ty sz b n σ = some σ' → Rel E σ a w → Rel E σ' a w
  | 0, σ, σ', hs, h => by simp only [St.adoptCs, Option.some.injEq] at hs; subst hs; exact h
  | n + 1, σ, σ', hs, h => by
    simp only [St.adoptCs] at hs
    split at hs
    · rename_i σ1 h1
      exact Rel.adoptC hs (Rel.adoptCs h1 h)
    · cases hs
/-- An array of nil slices (an array, or a variable of as many cells), as one whose cells are rows of one's own. -/
def St.tabIn (σ : St) (d ty sz b n : Nat) : Option St := (σ.arrVar d).bind (St.adoptCs d ty sz b n)
theorem awp_tabIn (d ty sz b n : Nat) {σ' : St} (he : σ.tabIn d ty sz b n = some σ') (h : AWP P E c Q σ') : AWP P E c Q σ := awp_weak (fun a w hr => by
  unfold St.tabIn at he
  cases h1 : σ.arrVar d with
  | none => rw [h1] at he; cases he
  | some σ1 => rw [h1] at he; exact (hr.arrVar h1).adoptCs he) h
theorem awp_varArr (d : Nat) (B : Blk) (cells cs : List AV) {σ' : St} (hB : look σ.hp d = some B) (hk : Nat.beq (match B.k with | .var _ => 1 | .arr _ => 1 | _ => 0) 1 = true) (hc : (match B.k with | .var cells => cells | .arr cells => cells | _ => []) = cells) (hp : cells.all pureB = true) (hz : ZLe cells cs)
    (he : (⟨σ.slots, put σ.hp d { B with k := .arr cs }⟩ : St) = σ') (h : AWP P E c Q σ') : AWP P E c Q σ := awp_weak (fun a w hr => by
  subst he
  refine Rel.varArr hB ?_ hp hz hr
  subst hc
  cases hkk : B.k <;> rw [hkk] at hk <;> simp at hk ⊢) h
def All16 (Φ : Int → Prop) : Prop := Φ 0 ∧ Φ 1 ∧ Φ 2 ∧ Φ 3 ∧ Φ 4 ∧ Φ 5 ∧ Φ 6 ∧ Φ 7 ∧ Φ 8 ∧ Φ 9 ∧ Φ 10 ∧ Φ 11 ∧ Φ 12 ∧ Φ 13 ∧ Φ 14 ∧ Φ 15
theorem All16.at {Φ : Int → Prop} (h : All16 Φ) {r : Int} (h0 : 0 ≤ r) (h1 : r < 16) : Φ r := by
  obtain ⟨a0, a1, a2, a3, a4, a5, a6, a7, a8, a9, a10, a11, a12, a13, a14, a15⟩ := h
  have : r = 0 ∨ r = 1 ∨ r = 2 ∨ r = 3 ∨ r = 4 ∨ r = 5 ∨ r = 6 ∨ r = 7 ∨ r = 8 ∨ r = 9 ∨ r = 10 ∨ r = 11 ∨ r = 12 ∨ r = 13 ∨ r = 14 ∨ r = 15 := by omega
  rcases this with rfl | rfl | rfl | rfl | rfl | rfl | rfl | rfl | rfl | rfl | rfl | rfl | rfl | rfl | rfl | rfl <;> assumption
/-- A region that writes a cell of such an array at a place that is not told: gone through at each. -/
theorem st_reg16 {F G : Int → St} {A : Int → Prop} (cx : Ctx P T E nt) (ovs : Int → List (Nat × Ov)) (ks kb : List Nat) (r : Int) (h0 : 0 ≤ r) (h1 : r < 16) (h : kindOf c = 1) (he : σ = F r)
    (hr : All16 fun k => regN P T (ovs k) nt c (F k) ks kb = some (A k, G k)) (hA : A r) (k : Q .normal (G r)) : AWP P E c Q σ := by
  subst he
  exact st_reg cx (ovs r) ks kb h (hr.at h0 h1) hA k
theorem st_any16 {F G : Int → St} {A : Int → Prop} (cx : Ctx P T E nt) (ovs : Int → List (Nat × Ov)) (ks kb : List Nat) (r : Int) (h0 : 0 ≤ r) (h1 : r < 16) (h : kindOf c = 2) (he : σ = F r)
    (hr : All16 fun k => regA P T (ovs k) nt c (F k) ks kb = some (A k, G k)) (hA : A r) (k : Q .normal (G r)) : AWP P E c Q σ := by
  subst he
  exact st_any cx (ovs r) ks kb h (hr.at h0 h1) hA k
/-- An array of nil slices says no more than one of empty slices. -/
theorem zle_nls {α : Type} (enc : α → List AV) (n : Nat) : ZLe (List.replicate n AV.nl) (tabC enc n fun _ => []) := by
  refine ⟨by simp [tabC_len], fun j x y hx hy => ?_⟩
  have hj : j < n := by have := lt_of_getElem? hx; simpa using this
  rw [get_tabC hj] at hy
  simp only [List.map_nil, Option.some.injEq] at hy
  subst hy
  simp [hj] at hx
  subst hx
  exact AVle.nl
end
end Go.E
