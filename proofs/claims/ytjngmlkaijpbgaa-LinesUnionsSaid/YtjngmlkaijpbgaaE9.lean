/- E9: each operation of the model does what exec1 says (sixth part: slices: written out, made, cut, measured, appended to, copied). Conditions: none. -/
import Derived.Test.YtjngmlkaijpbgaaE8
set_option linter.unusedVariables false
set_option linter.unusedSimpArgs false
namespace Go.E
open Go.RowKit
section
variable {P : Program} {E : Env} {T : Tab} {ov : Ov} {o : Oper} {σ : St} {pl : Nat → Value} {a : Act} {w : World} {eff : Eff} {log : List Nat}

theorem chunks_len (size : Nat) : ∀ (n : Nat) (l : List AV), (chunks size n l).length = n
  | 0, _ => rfl
  | n + 1, l => by simp [chunks, chunks_len size n]
theorem chunks_row (size : Nat) : ∀ (n : Nat) (l : List AV), l.length = n * size → ∀ r ∈ chunks size n l, r.length = size
  | 0, _, _, r, h => by simp [chunks] at h
  | n + 1, l, hl, r, h => by
    rw [Nat.add_mul] at hl
    simp only [chunks, List.mem_cons] at h
    rcases h with rfl | h
    · simp; omega
    · exact chunks_row size n (l.drop size) (by simp; omega) r h
theorem chunks_flat (size : Nat) : ∀ (n : Nat) (l : List AV), l.length = n * size → (chunks size n l).flatten = l
  | 0, l, h => by simp at h; subst h; rfl
  | n + 1, l, hl => by
    rw [Nat.add_mul] at hl
    simp only [chunks, List.flatten_cons]
    rw [chunks_flat size n (l.drop size) (by simp; omega), List.take_append_drop]

theorem rep_rel {S : Nat → Prop} {z : Value} {ti : TI} (hz : RowRel S w ti.zero z.cells) (n : Nat) : RowRel S w (List.replicate n ti.zero).flatten (madeCells z.cells (n * ti.zero.length)) := by
  have hl : ∀ r ∈ List.replicate n ti.zero, r.length = ti.zero.length := fun r hr => by rw [(List.mem_replicate.1 hr).2]
  have hget : ∀ (j : Nat) (u : Value), (madeCells z.cells (n * ti.zero.length))[j]? = some u → z.cells[j % z.cells.size]? = some u ∧ j < n * ti.zero.length := by
    intro j u hu
    unfold madeCells at hu
    simp only [Array.getElem?_map] at hu
    have hj : j < n * ti.zero.length := by
      rcases Nat.lt_or_ge j (n * ti.zero.length) with h | h
      · exact h
      · rw [Array.getElem?_eq_none (by simpa using h)] at hu; simp at hu
    rw [Array.getElem?_eq_getElem (by simpa using hj)] at hu
    simp only [Array.getElem_range, Option.map_some, Option.some.injEq] at hu
    have hp : 0 < z.cells.size := by
      rw [hz.1]
      rcases Nat.eq_zero_or_pos ti.zero.length with e | e
      · rw [e] at hj; omega
      · exact e
    have hm := Nat.mod_lt j hp
    refine ⟨?_, hj⟩
    rw [← hu, Array.getElem?_eq_getElem hm]
    simp [hm]
  refine ⟨by rw [size_madeCells, flatten_len hl]; simp, fun u hu => ?_, fun j b u hb hu => ?_⟩
  · obtain ⟨j, hj⟩ := List.mem_iff_getElem?.1 hu
    have := (hget j u (by simpa using hj)).1
    exact hz.2.1 u (List.mem_of_getElem? (by simpa using this))
  · obtain ⟨h1, h2⟩ := hget j u hu
    have hs0 : 0 < ti.zero.length := by
      rcases Nat.eq_zero_or_pos ti.zero.length with e | e
      · rw [e] at h2; omega
      · exact e
    have hj1 : j / ti.zero.length < n := by rw [Nat.div_lt_iff_lt_mul hs0]; exact h2
    have hj2 : j % ti.zero.length < ti.zero.length := Nat.mod_lt _ hs0
    have hr : (List.replicate n ti.zero)[j / ti.zero.length]? = some ti.zero := by rw [List.getElem?_replicate, if_pos hj1]
    have hg := flatten_get hl hr hj2
    rw [show j / ti.zero.length * ti.zero.length + j % ti.zero.length = j from by rw [Nat.mul_comm, Nat.div_add_mod], hb] at hg
    rw [hz.1] at h1
    exact hz.2.2 _ b u hg.symm h1

theorem fillA_len (place : Nat → Option (Nat × Nat)) : ∀ (l : List (Nat × List AV)) (cs cs' : List AV), fillA place cs l = some cs' → cs'.length = cs.length
  | [], cs, cs', h => by simp [fillA] at h; rw [h]
  | (i, pc) :: l, cs, cs', h => by
    simp only [fillA] at h
    split at h
    · cases h
    · split at h
      · rename_i hc
        simp only [Bool.and_eq_true, beq_iff_eq] at hc
        have h2 := Nat.le_of_ble_eq_true hc.2
        rw [fillA_len place l _ cs' h, ← hc.1, splice_len _ _ _ (by omega)]
      · cases h

theorem ok_buildSlice (hT : TabOk P T) (h : RelX E σ pl a w) (hd : ∀ q, o.dst = some q → q < E.nt) (t : TypeId) (len : Nat) (parts : Array (Nat × Operand)) (ho : o.op = .buildSlice t len parts)
    (hrun : (exec1 P T ov o σ.ev).run (look σ.hp) [] = some (eff, log)) (hobl : All eff.obl) : Ok P E o a w (σ.app o.dst eff) := by
  simp only [exec1, ho] at hrun
  split at hrun
  · rename_i d ti hdst ht
    split at hrun
    · rename_i e hdesc
      split at hrun
      · rename_i te hte
        rw [Pg.run_bind] at hrun
        cases hm : (mapPg (partP σ.ev) parts.toList).run (look σ.hp) [] with
        | none => rw [hm] at hrun; simp at hrun
        | some r =>
          rw [hm] at hrun
          simp only [Option.bind_some] at hrun
          obtain ⟨g1, g2, g3⟩ := parts_ok h parts.toList [] r hm
          obtain ⟨h', hSS, hE', hfree⟩ := h.giveUps _ g1
          have g3' := g3 _ hSS hfree
          split at hrun
          · rename_i cells hcells
            replace hrun := chk_run hrun
            obtain ⟨hc, hrun⟩ := hrun
            simp only [Bool.and_eq_true, beq_iff_eq] at hc
            obtain ⟨⟨hc1, hc2⟩, hc3⟩ := hc
            have hc1 := Nat.le_of_ble_eq_true hc1
            have hc2 := Nat.le_of_ble_eq_true hc2
            rw [Pg.run_bind] at hrun
            cases hk : (mkB d e (.row te.size (rowsNew ov (chunks te.size len cells))) (fun v => .own d v) (rowsObl ov (chunks te.size len cells))).run (look σ.hp) r.2 with
            | none => rw [hk] at hrun; simp at hrun
            | some q =>
              rw [hk] at hrun
              simp only [Option.bind_some, Pg.run, Option.some.injEq, Prod.mk.injEq] at hrun
              obtain ⟨ver, hver, he⟩ := mkB_run hk
              obtain ⟨rfl, _⟩ := hrun
              rw [he] at hobl
              rw [he, rowsNew_eq (fun p hp => hobl.mem p hp)]
              simp only
              obtain ⟨i, z, i1, i2, i3, i4, i5⟩ := inf hT hte
              have hz := zero_rel i5 (SS E (look (puts σ.hp (r.1.flatMap fun p => p.2.2))) pl w) w
              have hzl : ti.zero.length = ti.zero.length := rfl
              have htz : te.size = te.zero.length ∨ te.size ≠ te.zero.length := by omega
              have hrep := rep_rel hz len
              have hlen0 : cells.length = (List.replicate len te.zero).flatten.length := fillA_len _ _ _ _ hcells
              have hlz : len * te.zero.length = len * te.size := by
                rw [flatten_len (sz := te.zero.length) (fun x hx => by rw [(List.mem_replicate.1 hx).2])] at hlen0
                simp only [List.length_replicate] at hlen0
                omega
              have hmap : (parts.map fun (i, x) => (i, a.eval x)).toList = parts.toList.map fun p => (p.1, a.eval p.2) := by simp
              obtain ⟨vs, f1, f2, f3⟩ := fill_rel (w := w) _ (r.1.map fun p => (p.1, p.2.1)) (parts.toList.map fun p => (p.1, a.eval p.2)) _ cells _ hrep (by simp [g2]) (fun j p q hp hq => by
                simp only [List.getElem?_map, Option.map_eq_some_iff] at hp hq
                obtain ⟨p', hp', rfl⟩ := hp
                obtain ⟨q', hq', rfl⟩ := hq
                exact g3' j p' q' hp' hq') hcells
              have hb := below_alloc' w (.cells vs e)
              have hu := und hT ht w
              rw [hdesc] at hu
              have hrunS : (Instr.buildSlice t len (parts.map fun (i, x) => (i, a.eval x))).run P w = .ok (.slice (some ⟨w.heap.size, 0, none⟩) len len) (w.alloc (.cells vs e)) := by
                have hn : ¬ len * te.size > 2 ^ 24 := by omega
                have hfill : Instr.fill (fun i => some (i * te.size, te.size)) ((Array.range (len * te.size)).map (z.cells[· % z.cells.size]!)) (parts.toList.map fun p => (p.1, a.eval p.2)) = some vs := by
                  rw [← hlz]; exact f1
                by_cases h0 : len * te.size = 0
                · have hempty : (Array.range (len * te.size)).map (fun x => (#[] : Array Value)[x % (#[] : Array Value).size]!) = (Array.range (len * te.size)).map (z.cells[· % z.cells.size]!) := by rw [h0]; apply Array.ext <;> simp
                  simp only [Instr.buildSlice, Sem.run_bind, hu, Result.andThen_ok, szOf hT hte, Sem.run_ite, if_neg hn, if_pos h0, Sem.run_pure, hempty, hmap, hfill]
                  simp [newRow, newObj, Sem.run]
                · simp only [Instr.buildSlice, Sem.run_bind, hu, Result.andThen_ok, szOf hT hte, Sem.run_ite, if_neg hn, if_neg h0, zeroValue, typeInfo, i1, i4, Sem.run_pure, hmap, program, Sem.run, hfill]
                  simp [newRow, newObj, Sem.run]
              have hml : len ≤ maxLen := by
                have : len ≤ len * te.size := Nat.le_mul_of_pos_right _ hc2
                unfold maxLen; omega
              have hn' : ∀ C, look (puts σ.hp (r.1.flatMap fun p => p.2.2)) d = some C → C.ver < ver := by
                intro C hC
                rcases look_puts (r.1.flatMap fun p => p.2.2) σ.hp d with ⟨p, hp', e1, e2⟩ | ⟨_, e2⟩
                · obtain ⟨_, B, hB, hv⟩ := g1 p hp'
                  rw [e2] at hC
                  simp only [Option.some.injEq] at hC
                  rw [e1] at hB
                  rw [← hC, ← hv]
                  exact hver B hB
                · rw [e2] at hC; exact hver C hC
              have hrel : BlkRel E.w0.heap.size (look (puts σ.hp (r.1.flatMap fun p => p.2.2))) pl (SS E (look (puts σ.hp (r.1.flatMap fun p => p.2.2))) pl w) (w.alloc (.cells vs e)) (.slice (some ⟨w.heap.size, 0, none⟩) len len) ⟨ver, e, .row te.size (chunks te.size len cells)⟩ := by
                refine ⟨chunks_row _ _ _ hc3, vs.toList, ?_, f2.2.1, fun j b u hb' hu' => ?_⟩
                · rw [chunks_len]
                  exact World.ownsRow_lit w vs len h.below.size hml (by rw [f2.1, hc3])
                · rw [chunks_flat _ _ _ hc3] at hb'
                  exact (f2.2.2 j b u hb' (by simpa using hu')).mono (fun _ hk => hk) (fun k hk => hb.block k (hk.lt h.below))
              have hnew := (h'.new hb d ⟨ver, e, .row te.size (chunks te.size len cells)⟩ (.slice (some ⟨w.heap.size, 0, none⟩) len len) hn' (fun k hk => by simp [blkOf] at hk; subst hk; simp) hrel).1
              refine .value (by simp only [execOp, ho, Sem.run_bind, hrunS]; rfl) ⟨setPl pl d (.slice (some ⟨w.heap.size, 0, none⟩) len len), ?_⟩
              have := hnew.put o.dst hd (av := .own d ver) (v := .slice (some ⟨w.heap.size, 0, none⟩) len len) (.own d ver _ ⟨ver, e, .row te.size (chunks te.size len cells)⟩ (by simp [look_put]) (Nat.le_refl _) rfl (fun _ _ => by simp [setPl]))
              unfold St.app
              simp only [List.foldl_append]
              exact this
          · simp [Pg.run] at hrun
      · simp [Pg.run] at hrun
    · simp [Pg.run] at hrun
  · simp [Pg.run] at hrun
end
end Go.E
