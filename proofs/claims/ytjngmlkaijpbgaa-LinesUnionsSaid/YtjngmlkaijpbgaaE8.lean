/- E8: each operation of the model does what exec1 says (fifth part: structs, slices that are written out or made, pieces, lengths, min and max). Conditions: none. -/
import Derived.Test.YtjngmlkaijpbgaaE7
set_option linter.unusedVariables false
set_option linter.unusedSimpArgs false
namespace Go.E
open Go.RowKit
section
variable {P : Program} {E : Env} {T : Tab} {ov : Ov} {o : Oper} {σ : St} {pl : Nat → Value} {a : Act} {w : World} {eff : Eff} {log : List Nat}

theorem foldl_set : ∀ (vs : List Value) (i off : Nat) (cells : Array Value), off + i + vs.length ≤ cells.size →
    ((vs.zipIdx i).foldl (fun cs (p : Value × Nat) => cs.setIfInBounds (off + p.2) p.1) cells).toList = cells.toList.take (off + i) ++ vs ++ cells.toList.drop (off + i + vs.length)
  | [], i, off, cells, _ => by simp
  | v :: vs, i, off, cells, h => by
    simp only [List.length_cons] at h
    rw [List.zipIdx_cons, List.foldl_cons, foldl_set vs (i + 1) off _ (by simp; omega)]
    have e := list_seg_step cells.toList (off + i) v vs (by simp; omega)
    simpa [Array.toList_setIfInBounds, Nat.add_assoc] using e

/-- Cells in a row, and their values. -/
def RowRel (S : Nat → Prop) (w : World) (cs : List AV) (vs : Array Value) : Prop :=
  vs.size = cs.length ∧ (∀ u ∈ vs.toList, u.oneCell' = true) ∧ ∀ (j : Nat) (b : AV) (u : Value), cs[j]? = some b → vs[j]? = some u → RelV0 S w b u
theorem fill_rel {S : Nat → Prop} (place : Nat → Option (Nat × Nat)) : ∀ (l : List (Nat × List AV)) (m : List (Nat × Value)) (cs cs' : List AV) (vs : Array Value), RowRel S w cs vs →
    l.length = m.length → (∀ (j : Nat) (p : Nat × List AV) (q : Nat × Value), l[j]? = some p → m[j]? = some q → p.1 = q.1 ∧ CellsRel S w p.2 q.2) → fillA place cs l = some cs' →
    ∃ vs', Instr.fill place vs m = some vs' ∧ RowRel S w cs' vs' ∧ cs'.length = cs.length
  | [], [], cs, cs', vs, hr, _, _, hf => by
    simp only [fillA, Option.some.injEq] at hf
    subst hf
    exact ⟨vs, rfl, hr, rfl⟩
  | [], _ :: _, _, _, _, _, hl, _, _ => by simp at hl
  | _ :: _, [], _, _, _, _, hl, _, _ => by simp at hl
  | p :: l, q :: m, cs, cs', vs, hr, hl, hp, hf => by
    obtain ⟨i, pc⟩ := p
    obtain ⟨i', v⟩ := q
    obtain ⟨e, hc⟩ := hp 0 _ _ rfl rfl
    simp only at e hc
    subst e
    simp only [fillA] at hf
    cases hpl : place i with
    | none => simp [hpl] at hf
    | some os =>
      obtain ⟨off, size⟩ := os
      simp only [hpl] at hf
      split at hf
      · rename_i hcond
        simp only [Bool.and_eq_true, beq_iff_eq] at hcond
        have h1 := hcond.1
        have h2 := Nat.le_of_ble_eq_true hcond.2
        obtain ⟨c1, c2, c3⟩ := hc
        obtain ⟨r1, r2, r3⟩ := hr
        have hsz : v.cells.size = size := by omega
        have hfit : off + v.cells.toList.length ≤ vs.toList.length := by simp; omega
        have hnew : (v.cells.zipIdx.foldl (fun cs (p : Value × Nat) => cs.setIfInBounds (off + p.2) p.1) vs).toList = vs.toList.take off ++ v.cells.toList ++ vs.toList.drop (off + v.cells.toList.length) := by
          have := foldl_set v.cells.toList 0 off vs (by simpa using hfit)
          rw [← Array.foldl_toList]
          simpa using this
        have hr' : RowRel S w (cs.take off ++ pc ++ cs.drop (off + size)) (v.cells.zipIdx.foldl (fun cs (p : Value × Nat) => cs.setIfInBounds (off + p.2) p.1) vs) := by
          have hpc : pc.length = v.cells.toList.length := by simp; omega
          have hso : size = pc.length := h1.symm
          refine ⟨?_, fun u hu => ?_, fun j b u hb hu => ?_⟩
          · rw [← Array.length_toList, hnew, splice_len _ _ _ hfit, hso, splice_len _ _ _ (by omega)]
            simpa using r1
          · rw [hnew] at hu
            simp only [List.mem_append] at hu
            rcases hu with (hu | hu) | hu
            · exact r2 u (List.mem_of_mem_take hu)
            · exact c2 u hu
            · exact r2 u (List.mem_of_mem_drop hu)
          · rw [← Array.getElem?_toList, hnew, splice_get _ _ _ hfit] at hu
            rw [hso, splice_get _ _ _ (by omega), hpc] at hb
            by_cases h3 : j < off
            · rw [if_pos h3] at hb hu
              exact r3 j b u hb (by simpa using hu)
            · rw [if_neg h3] at hb hu
              by_cases h4 : j < off + v.cells.toList.length
              · rw [if_pos h4] at hb hu
                exact c3 _ b u hb (by simpa using hu)
              · rw [if_neg h4] at hb hu
                exact r3 j b u hb (by simpa using hu)
        obtain ⟨vs', g1, g2, g3⟩ := fill_rel place l m _ cs' _ hr' (by simpa using hl) (fun j p q h5 h6 => hp (j + 1) p q (by simpa using h5) (by simpa using h6)) hf
        refine ⟨vs', ?_, g2, by rw [g3, h1.symm, splice_len _ _ _ (by omega)]⟩
        have hne : ¬ (v.cells.size ≠ size ∨ off + v.cells.size > vs.size) := by omega
        have hne' : (decide (v.cells.size ≠ size) || decide (off + v.cells.size > vs.size)) = false := by simp; omega
        simp only [Instr.fill, hpl]
        rw [if_neg (by simpa using hne)]
        exact g1
      · cases hf

/-- The parts of what is built, read. -/
theorem parts_ok (h : RelX E σ pl a w) : ∀ (parts : List (Nat × Operand)) (l : List Nat) (r : List (Nat × (List AV × List (Nat × Blk))) × List Nat),
    (mapPg (partP σ.ev) parts).run (look σ.hp) l = some r →
    GoneOf σ (r.1.flatMap fun p => p.2.2) ∧ r.1.length = parts.length ∧ ∀ (S' : Nat → Prop), (∀ k, SS E (look σ.hp) pl w k → S' k) →
      (∀ p ∈ r.1.flatMap (fun p => p.2.2), ∀ B, look σ.hp p.1 = some B → B.live = true → ∀ k, blkOf (pl p.1) = some k → S' k) →
      ∀ (j : Nat) (p : Nat × (List AV × List (Nat × Blk))) (q : Nat × Operand), r.1[j]? = some p → parts[j]? = some q → p.1 = q.1 ∧ CellsRel S' w p.2.1 (a.eval q.2)
  | [], l, r, hr => by
    simp only [mapPg, Pg.run, Option.some.injEq] at hr
    subst hr
    exact ⟨fun p hp => absurd hp (by simp), rfl, fun S' _ _ j p q hp => by simp at hp⟩
  | x :: parts, l, r, hr => by
    simp only [mapPg, partP, Pg.run_bind] at hr
    cases hx : σ.ev x.2 with
    | none => simp [hx, Pg.run] at hr
    | some av =>
      simp only [hx, Pg.run_bind] at hr
      cases hp : (part0 av).run (look σ.hp) l with
      | none => simp [hp] at hr
      | some q =>
        simp only [hp, Option.bind_some, Pg.run] at hr
        cases hm : (mapPg (partP σ.ev) parts).run (look σ.hp) q.2 with
        | none => simp [partP, hm] at hr
        | some r' =>
          simp only [hm, Option.bind_some, Option.some.injEq] at hr
          subst hr
          obtain ⟨g1, g2⟩ := part0_ok h (h.ev hx) hp
          obtain ⟨i1, i2, i3⟩ := parts_ok h parts q.2 r' hm
          refine ⟨fun p hp' => ?_, by simp [i2], fun S' hS' hf j p y hj hy => ?_⟩
          · simp only [List.flatMap_cons, List.mem_append] at hp'
            rcases hp' with hp' | hp'
            · exact g1 p hp'
            · exact i1 p hp'
          · cases j with
            | zero =>
              simp at hj hy
              subst hj
              subst hy
              exact ⟨rfl, g2 S' hS' fun p hp' => hf p (by simp [hp'])⟩
            | succ j => exact i3 S' hS' (fun p hp' => hf p (by simp only [List.flatMap_cons, List.mem_append]; exact .inr hp')) j p y (by simpa using hj) (by simpa using hy)

theorem fields_pl (hT : TabOk P T) : ∀ (fs : List Field) (pl : List (Nat × Nat)), fieldsPl T fs = some pl → fs.mapM (fun f => (P.info? f.type).map fun i => (f.offset, i.size)) = some pl
  | [], pl, h => by simp [fieldsPl] at h; subst h; rfl
  | f :: fs, pl, h => by
    simp only [fieldsPl] at h
    split at h
    · rename_i ti l h1 h2
      simp only [Option.some.injEq] at h
      subst h
      obtain ⟨i, z, e1, e2, _⟩ := inf hT h1
      simp [List.mapM_cons, e1, e2, fields_pl hT fs l h2]
    · cases h

theorem ok_build (hT : TabOk P T) (h : RelX E σ pl a w) (hd : ∀ q, o.dst = some q → q < E.nt) (t : TypeId) (parts : Array (Nat × Operand)) (ho : o.op = .build t parts)
    (hrun : (exec1 P T ov o σ.ev).run (look σ.hp) [] = some (eff, log)) : Ok P E o a w (σ.app o.dst eff) := by
  simp only [exec1, ho] at hrun
  split at hrun
  · rename_i ti ht
    rw [Pg.run_bind] at hrun
    cases hm : (mapPg (partP σ.ev) parts.toList).run (look σ.hp) [] with
    | none => rw [hm] at hrun; simp at hrun
    | some r =>
      rw [hm] at hrun
      simp only [Option.bind_some] at hrun
      obtain ⟨g1, g2, g3⟩ := parts_ok h parts.toList [] r hm
      obtain ⟨h', hSS, hE', hfree⟩ := h.giveUps _ g1
      have g3' := g3 _ hSS hfree
      obtain ⟨i, z, i1, i2, i3, i4, i5⟩ := inf hT ht
      have hz := zero_rel i5 (SS E (look (puts σ.hp (r.1.flatMap fun p => p.2.2))) pl w) w
      have hmap : (parts.map fun (i, x) => (i, a.eval x)).toList = parts.toList.map fun p => (p.1, a.eval p.2) := by simp
      have fin : ∀ (place : Nat → Option (Nat × Nat)) (cells : List AV), fillA place ti.zero (r.1.map fun p => (p.1, p.2.1)) = some cells →
          (∀ vs, Instr.fill place z.cells (parts.toList.map fun p => (p.1, a.eval p.2)) = some vs → P.built t (parts.toList.map fun p => (p.1, a.eval p.2)) = some vs) →
          eff = { val := .agg cells, ups := r.1.flatMap fun p => p.2.2 } → Ok P E o a w (σ.app o.dst eff) := by
        intro place cells hf hb he
        obtain ⟨vs, f1, f2, f3⟩ := fill_rel (w := w) place (r.1.map fun p => (p.1, p.2.1)) (parts.toList.map fun p => (p.1, a.eval p.2)) ti.zero cells z.cells hz (by simp [g2]) (fun j p q hp hq => by
          simp only [List.getElem?_map, Option.map_eq_some_iff] at hp hq
          obtain ⟨p', hp', rfl⟩ := hp
          obtain ⟨q', hq', rfl⟩ := hq
          exact g3' j p' q' hp' hq') hf
        have hbd := hb vs f1
        subst he
        refine .value (v := .agg vs) (w' := w) ?_ ⟨pl, ?_⟩
        · have := run_build (P := P) w t (parts.map fun (i, x) => (i, a.eval x)) vs (by rw [hmap]; exact hbd)
          simp only [execOp, ho, Sem.run_bind, this]
          rfl
        · have hv : RelV (look (puts σ.hp (r.1.flatMap fun p => p.2.2))) pl (SS E (look (puts σ.hp (r.1.flatMap fun p => p.2.2))) pl w) w (.agg cells) (.agg vs) := by
            have := RelV0.agg (S := SS E (look (puts σ.hp (r.1.flatMap fun p => p.2.2))) pl w) (w := w) cells vs.toList (by simpa using f2.1) f2.2.1 (fun j b u hb hu => f2.2.2 j b u hb (by simpa using hu))
            exact .pure _ _ (by simpa using this)
          exact h'.put o.dst hd hv
      split at hrun
      · rename_i fs hfs
        split at hrun
        · rename_i pls hpls
          split at hrun
          · rename_i cells hcells
            simp only [Pg.run, Option.some.injEq, Prod.mk.injEq] at hrun
            refine fin _ cells hcells (fun vs hv => ?_) hrun.1.symm
            have hu := (hT t ti ht).1
            rw [hfs] at hu
            unfold Program.built
            simp only [i1, hu, i4, fields_pl hT _ _ hpls]
            simpa using hv
          · simp [Pg.run] at hrun
        · simp [Pg.run] at hrun
      · rename_i len e hfs
        split at hrun
        · rename_i te hte
          split at hrun
          · rename_i cells hcells
            simp only [Pg.run, Option.some.injEq, Prod.mk.injEq] at hrun
            refine fin _ cells hcells (fun vs hv => ?_) hrun.1.symm
            have hu := (hT t ti ht).1
            rw [hfs] at hu
            obtain ⟨ie, ze, j1, j2, _⟩ := inf hT hte
            unfold Program.built
            simp only [i1, hu, i4, j1, j2]
            exact hv
          · simp [Pg.run] at hrun
        · simp [Pg.run] at hrun
      · simp [Pg.run] at hrun
  · simp [Pg.run] at hrun
end
end Go.E
