/- EA: each operation of the model does what exec1 says (seventh part: made slices, lengths, pieces, appends, copies, bytes as a text). Conditions: none. -/
import Derived.Test.YtjngmlkaijpbgaaE9
set_option linter.unusedVariables false
set_option linter.unusedSimpArgs false
namespace Go.E
open Go.RowKit
section
variable {P : Program} {E : Env} {T : Tab} {ov : Ov} {o : Oper} {σ : St} {pl : Nat → Value} {a : Act} {w : World} {eff : Eff} {log : List Nat}

theorem below_of_grown {w w' : World} (h : w.grownBy w' none) : Below w.heap.size w w' := ⟨h.os, h.tape, h.output, h.size, fun k hk => h.block k hk (by simp)⟩

theorem ok_makeSlice (hT : TabOk P T) (h : RelX E σ pl a w) (hd : ∀ q, o.dst = some q → q < E.nt) (t : TypeId) (x y : Operand) (ho : o.op = .makeSlice t x y)
    (hrun : (exec1 P T ov o σ.ev).run (look σ.hp) [] = some (eff, log)) (hobl : All eff.obl) : Ok P E o a w (σ.app o.dst eff) := by
  simp only [exec1, ho] at hrun
  split at hrun
  · rename_i d ti k1 n k2 m hdst ht hx hy
    have ex := relv_toV (h.ev hx) rfl
    have ey := relv_toV (h.ev hy) rfl
    split at hrun
    · rename_i e hdesc
      split at hrun
      · rename_i te hte
        have hu := (hT t ti ht).1
        rw [hdesc] at hu
        obtain ⟨i, z, i1, i2, i3, i4, i5⟩ := inf hT hte
        have hz := zero_rel i5 (SS E (look σ.hp) pl w) w
        split at hrun
        · obtain ⟨ver, hver, he⟩ := mkB_run hrun
          simp only at he
          subst he
          obtain ⟨rfl, rfl, o3, o4⟩ : n = 0 ∧ m = (ov.n : Int) ∧ te.bytes * ov.n ≤ 281474976710656 ∧ ov.n ≤ maxLen := hobl
          obtain ⟨w', hr, hown, hg⟩ := run_make_own (P := P) w E.w0.heap.size t e i z te.size hu i1 i4 i2 k1 k2 ov.n (by rw [i3]; exact o3) o4 h.below.size
          have hb := below_of_grown hg
          have hlt : w.heap.size < w'.heap.size := by
            rcases hown.2 with ⟨e0, _⟩ | ⟨g, cap, cur, e0, _, hh, _⟩
            · simp at e0
            · simp only [Value.slice.injEq, Option.some.injEq, Addr.mk.injEq] at e0
              rw [← e0.1.1] at hh
              exact (Array.getElem?_eq_some_iff.1 hh).1
          refine .new h hd hdst (by simp only [execOp, ho, ex, ey, Sem.run_bind, hr]; rfl) hb hver (fun k hk => by simp [blkOf] at hk; subst hk; exact ⟨Nat.le_refl _, hlt⟩) ⟨fun r hr => absurd hr (by simp), [], hown, fun u hu => absurd hu (by simp), fun j b u hb => by simp at hb⟩
            (.own d ver _ ⟨ver, e, .row te.size []⟩ (by simp [look_put]) (Nat.le_refl _) rfl (fun _ _ => by simp [setPl]))
        · obtain ⟨ver, hver, he⟩ := mkB_run hrun
          simp only at he
          subst he
          have o1 : n = (ov.n : Int) := All.mem hobl _ (by simp)
          have o2 : m = (ov.n : Int) := All.mem hobl _ (by simp)
          have o3 : te.bytes * ov.n ≤ 281474976710656 := All.mem hobl _ (by simp)
          have o4 : ov.n ≤ maxLen := All.mem hobl _ (by simp)
          have o5 : (zrow ov te.zero).length = te.size := All.mem hobl _ (by simp)
          have o6 : ZLe te.zero (zrow ov te.zero) := All.mem hobl _ (by simp)
          have o7 := rowsNew_eq (ov := ov) (d := List.replicate ov.n (zrow ov te.zero)) (fun p hp => All.mem hobl p (List.mem_append_right _ hp))
          clear hobl
          subst o1
          subst o2
          rw [o7]
          obtain ⟨w', hr, hown, hg⟩ := run_make_full (P := P) w E.w0.heap.size t e i z te.size hu i1 i4 i2 k1 k2 ov.n (by rw [i3]; exact o3) o4 h.below.size
          have hb := below_of_grown hg
          have hlt : w.heap.size < w'.heap.size := by
            rcases hown.2 with ⟨e0, _⟩ | ⟨g, cap, cur, e0, _, hh, _⟩
            · simp at e0
            · simp only [Value.slice.injEq, Option.some.injEq, Addr.mk.injEq] at e0
              rw [← e0.1.1] at hh
              exact (Array.getElem?_eq_some_iff.1 hh).1
          have hz' : RowRel (SS E (look σ.hp) pl w) w (zrow ov te.zero) z.cells := ⟨by rw [hz.1, o6.1], hz.2.1, fun j b u hb hu => by
            have hj : j < te.zero.length := by
              have := lt_of_getElem? hb
              rw [o6.1]; exact this
            exact o6.2 j _ b (List.getElem?_eq_getElem hj) hb _ _ _ (hz.2.2 j _ u (List.getElem?_eq_getElem hj) hu)⟩
          have hrep := rep_rel (ti := { te with zero := zrow ov te.zero }) hz' ov.n
          simp only at hrep
          rw [o5] at hrep
          refine .new (u := .slice (some ⟨w.heap.size, 0, none⟩) ov.n ov.n) h hd hdst (by simp only [execOp, ho, ex, ey, Sem.run_bind, hr]; rfl) hb hver (fun k hk => by simp [blkOf] at hk; subst hk; exact ⟨Nat.le_refl _, hlt⟩)
            ⟨fun r hr => by rw [(List.mem_replicate.1 hr).2]; exact o5, _, by rw [List.length_replicate]; exact hown, hrep.2.1, fun j b u hb' hu' => (hrep.2.2 j b u hb' (by simpa using hu')).mono (fun _ hk => hk) (fun k hk => hb.block k (hk.lt h.below))⟩
            (.own d ver _ ⟨ver, e, .row te.size (List.replicate ov.n (zrow ov te.zero))⟩ (by simp [look_put]) (Nat.le_refl _) rfl (fun _ _ => by simp [setPl]))
      · simp [Pg.run] at hrun
    · simp [Pg.run] at hrun
  · simp [Pg.run] at hrun

/-- A slice's value, and the rows that it shows. -/
def Shows (S : Nat → Prop) (w : World) (rows : List (List AV)) (v : Value) : Prop :=
  ∃ (A : Option Addr) (cap sz : Nat) (u : Nat → Nat → Value), v = .slice A rows.length cap ∧ rows.length ≤ maxLen ∧ (A = none → cap = 0 ∧ rows.length = 0) ∧ (∀ r ∈ rows, r.length = sz) ∧
    (0 < rows.length → ∃ ad, A = some ad ∧ ∀ (j q : Nat), j < rows.length → q < sz → w.cell? (ad.add (j * sz + q)) = some (u j q)) ∧ (∀ j q, (u j q).oneCell' = true) ∧
    ∀ (j q : Nat) (r : List AV) (b : AV), rows[j]? = some r → r[q]? = some b → RelV0 S w b (u j q)
theorem shows_sl {S : Nat → Prop} {rows : List (List AV)} {v : Value} (h : RelV0 S w (.sl rows) v) : Shows S w rows v := by
  cases h with
  | sl _ A cap sz u hc hm hn hsz hA h1 hh =>
    exact ⟨A, cap, sz, u, rfl, hm, fun e => ⟨hn e, by have := hn e; omega⟩, hsz, fun h0 => by obtain ⟨ad, e, _, hcell⟩ := hA h0; exact ⟨ad, e, hcell⟩, h1, hh⟩
/-- Those rows as a list of cells. -/
theorem Shows.flat {S : Nat → Prop} {rows : List (List AV)} {v : Value} {sz : Nat} (h : Shows S w rows v) (hs : ∀ r ∈ rows, r.length = sz) :
    (v = .slice none 0 0 ∧ rows = []) ∨ ∃ (ad : Addr) (cap : Nat) (xs : List Value), v = .slice (some ad) rows.length cap ∧ xs.length = rows.length * sz ∧ (∀ (j : Nat) (u : Value), xs[j]? = some u → w.cell? (ad.add j) = some u) ∧ (∀ u ∈ xs, u.oneCell' = true) ∧
      ∀ (j : Nat) (b : AV) (u : Value), rows.flatten[j]? = some b → xs[j]? = some u → RelV0 S w b u := by
  obtain ⟨A, cap, sz', u, rfl, hm, hn, hsz, hA, h1, hh⟩ := h
  cases A with
  | none =>
    obtain ⟨e1, e2⟩ := hn rfl
    have : rows = [] := List.eq_nil_of_length_eq_zero e2
    subst this
    subst e1
    exact .inl ⟨rfl, rfl⟩
  | some ad =>
    refine .inr ⟨ad, cap, (List.range (rows.length * sz)).map fun j => u (j / sz) (j % sz), rfl, by simp, fun j v hv => ?_, fun v hv => ?_, fun j b v hb hv => ?_⟩
    · have hj := lt_of_getElem? hv
      simp only [List.length_map, List.length_range] at hj
      simp only [List.getElem?_map, List.getElem?_range hj, Option.map_some, Option.some.injEq] at hv
      subst hv
      have hs0 : 0 < sz := by
        rcases Nat.eq_zero_or_pos sz with e | e
        · rw [e] at hj; omega
        · exact e
      have hj1 : j / sz < rows.length := by rw [Nat.div_lt_iff_lt_mul hs0]; exact hj
      have hl : 0 < rows.length := Nat.lt_of_le_of_lt (Nat.zero_le _) hj1
      obtain ⟨ad', e, hc⟩ := hA hl
      simp only [Option.some.injEq] at e
      subst e
      have hse : sz' = sz := by
        have hm := List.getElem_mem hl
        rw [← hsz _ hm, hs _ hm]
      subst hse
      have := hc (j / sz') (j % sz') hj1 (Nat.mod_lt _ hs0)
      rwa [show j / sz' * sz' + j % sz' = j from by rw [Nat.mul_comm, Nat.div_add_mod]] at this
    · obtain ⟨j, _, rfl⟩ := List.mem_map.1 hv
      exact h1 _ _
    · have hj := lt_of_getElem? hv
      simp only [List.length_map, List.length_range] at hj
      simp only [List.getElem?_map, List.getElem?_range hj, Option.map_some, Option.some.injEq] at hv
      subst hv
      have hs0 : 0 < sz := by
        rcases Nat.eq_zero_or_pos sz with e | e
        · rw [e] at hj; omega
        · exact e
      have hj1 : j / sz < rows.length := by rw [Nat.div_lt_iff_lt_mul hs0]; exact hj
      have hr : rows[j / sz]? = some rows[j / sz] := List.getElem?_eq_getElem hj1
      have hg := flatten_get hs hr (Nat.mod_lt j hs0)
      rw [show j / sz * sz + j % sz = j from by rw [Nat.mul_comm, Nat.div_add_mod], hb] at hg
      exact hh _ _ _ b hr hg.symm

theorem rowsOf_ok (h : RelX E σ pl a w) {av : AV} {v : Value} (hv : RelV (look σ.hp) pl (SS E (look σ.hp) pl w) w av v) {k : List (List AV) → Pg Eff} {l : List Nat} {r : Eff × List Nat} (hrun : (rowsOf av k).run (look σ.hp) l = some r) :
    ∃ rows l', (k rows).run (look σ.hp) l' = some r ∧ Shows (SS E (look σ.hp) pl w) w rows v := by
  unfold rowsOf at hrun
  split at hrun
  · rename_i rows
    exact ⟨rows, l, hrun, shows_sl (relv_sl hv)⟩
  · refine ⟨[], l, hrun, ?_⟩
    have : RelV0 (SS E (look σ.hp) pl w) w .nl v := relv_pure hv rfl
    cases this
    exact ⟨none, 0, 0, fun _ _ => .nilIface, rfl, Nat.zero_le _, fun _ => ⟨rfl, rfl⟩, fun r hr => absurd hr (by simp), fun h0 => absurd h0 (by simp), fun _ _ => rfl, fun j q r b hr => by simp at hr⟩
  · rename_i id ver
    replace hrun := getB_run hrun
    obtain ⟨B, hB, hver, hl, hrun⟩ := hrun
    split at hrun
    · rename_i sz rows hk
      have he := relv_own hv hB hver hl
      refine ⟨rows, _, hrun, ?_⟩
      obtain ⟨hsz, xs, hown, h1, hh⟩ := h.rowCell hB hk
      have hl1 := hown.1
      rw [he]
      rcases hown.2 with ⟨e0, h0⟩ | ⟨g, cap, cur, e0, hg, hheap, hnc, hcm, hcs, hcur⟩
      · have : rows = [] := List.eq_nil_of_length_eq_zero h0
        subst this
        rw [e0]
        exact ⟨none, 0, 0, fun _ _ => .nilIface, rfl, Nat.zero_le _, fun _ => ⟨rfl, rfl⟩, fun r hr => absurd hr (by simp), fun h0 => absurd h0 (by simp), fun _ _ => rfl, fun j q r b hr => by simp at hr⟩
      · refine ⟨some ⟨g, 0, none⟩, cap, sz, fun j q => (xs[j * sz + q]?).getD .nilIface, e0, by omega, (fun e => by cases e), hsz, fun h0 => ⟨_, rfl, fun j q hj hq => ?_⟩, fun j q => ?_, fun j q r b hr hb => ?_⟩
        · have hlt : j * sz + q < rows.length * sz := by
            have : (j + 1) * sz ≤ rows.length * sz := Nat.mul_le_mul_right _ hj
            rw [Nat.add_mul] at this
            omega
          rw [e0] at hown
          have hc := World.ownsRow.cellAt hown (j * sz + q) hlt
          have hx : j * sz + q < xs.length := by omega
          rw [add_none, Nat.zero_add, hc]
          simp only [List.getElem?_eq_getElem hx, Option.getD_some]
        · show ((xs[j * sz + q]?).getD .nilIface).oneCell' = true
          cases hx : xs[j * sz + q]? with
          | none => rfl
          | some u => exact h1 u (List.mem_of_getElem? hx)
        · have hq : q < sz := by
            have := hsz r (List.mem_of_getElem? hr)
            have := lt_of_getElem? hb
            omega
          have hf := flatten_get hsz hr hq
          rw [hb] at hf
          have hlt : j * sz + q < xs.length := by
            have := lt_of_getElem? hf
            rw [flatten_len hsz] at this
            omega
          simp only [List.getElem?_eq_getElem hlt, Option.getD_some]
          exact hh _ b _ hf (List.getElem?_eq_getElem hlt)
    · simp [Pg.run] at hrun
  · rename_i id ver lo n
    replace hrun := getB_run hrun
    obtain ⟨B, hB, hver, hl, hrun⟩ := hrun
    obtain ⟨g, cap, hg, hnc, hnm, hlen, he⟩ := relv_vw hv hB hver hl
    split at hrun
    · rename_i sz rows hk
      refine ⟨_, _, hrun, ?_⟩
      have hlen : lo + n ≤ rows.length := by simpa [Blk.len, hk] using hlen
      have hll : ((rows.drop lo).take n).length = n := by simp; omega
      obtain ⟨hsz, xs, hown, h1, hh⟩ := h.rowCell hB hk
      have hl1 := hown.1
      rcases hown.2 with ⟨e0, h0⟩ | ⟨g', cap', cur, e0, hgb, hheap, hnc', hcm, hcs, hcur⟩
      · rw [e0] at hg; simp [blkOf] at hg
      · have hgg : g' = g := by rw [e0] at hg; simpa [blkOf] using hg
        subst hgg
        have hoff : B.off lo 0 = lo * sz := by simp [Blk.off, hk]
        refine ⟨some ⟨g', lo * sz, none⟩, cap, sz, fun j q => (xs[(lo + j) * sz + q]?).getD .nilIface, by rw [hll, he, hoff], by omega, (fun e => by cases e), fun r hr => hsz r (List.mem_of_mem_drop (List.mem_of_mem_take hr)), fun h0 => ⟨_, rfl, fun j q hj hq => ?_⟩, fun j q => ?_, fun j q r b hr hb => ?_⟩
        · rw [hll] at hj
          have hlt : (lo + j) * sz + q < rows.length * sz := by
            have : (lo + j + 1) * sz ≤ rows.length * sz := Nat.mul_le_mul_right _ (by omega)
            rw [Nat.add_mul _ 1] at this
            omega
          rw [e0] at hown
          have hc := World.ownsRow.cellAt hown ((lo + j) * sz + q) hlt
          rw [add_none, show lo * sz + (j * sz + q) = (lo + j) * sz + q from by rw [Nat.add_mul, Nat.add_assoc], hc]
          have hx : (lo + j) * sz + q < xs.length := by omega
          simp only [List.getElem?_eq_getElem hx, Option.getD_some]
        · show ((xs[(lo + j) * sz + q]?).getD .nilIface).oneCell' = true
          cases hx : xs[(lo + j) * sz + q]? with
          | none => rfl
          | some u => exact h1 u (List.mem_of_getElem? hx)
        · rw [List.getElem?_take] at hr
          split at hr
          · rw [List.getElem?_drop] at hr
            have hq : q < sz := by
              have := hsz r (List.mem_of_getElem? hr)
              have := lt_of_getElem? hb
              omega
            have hf := flatten_get hsz hr hq
            rw [hb] at hf
            have hlt : (lo + j) * sz + q < xs.length := by
              have := lt_of_getElem? hf
              rw [flatten_len hsz] at this
              omega
            simp only [List.getElem?_eq_getElem hlt, Option.getD_some]
            exact hh _ b _ hf (List.getElem?_eq_getElem hlt)
          · cases hr
    · rename_i cells hk
      refine ⟨_, _, hrun, ?_⟩
      have hlen : lo + n ≤ cells.length := by simpa [Blk.len, hk] using hlen
      have hll : (((cells.drop lo).take n).map fun c => [c]).length = n := by simp; omega
      obtain ⟨g', vs, hp1, hp2, hp3, hp4, hp5⟩ := h.arrCell hB hk
      have hgg : g' = g := by rw [hp1] at hg; simpa [blkOf] using hg
      subst hgg
      have hoff : B.off lo 0 = lo := by simp [Blk.off, hk]
      refine ⟨some ⟨g', lo, none⟩, cap, 1, fun j q => (vs[lo + j]?).getD .nilIface, by rw [hll, he, hoff], by omega, (fun e => by cases e), fun r hr => ?_, fun h0 => ⟨_, rfl, fun j q hj hq => ?_⟩, fun j q => ?_, fun j q r b hr hb => ?_⟩
      · obtain ⟨c, _, rfl⟩ := List.mem_map.1 hr
        rfl
      · rw [hll] at hj
        have : q = 0 := by omega
        subst this
        rw [add_none, cell_of w g' _ vs _ _ hp2, Nat.mul_one, Nat.add_zero]
        have hx : lo + j < vs.size := by omega
        simp only [Array.getElem?_eq_getElem hx, Option.getD_some]
      · show ((vs[lo + j]?).getD .nilIface).oneCell' = true
        cases hx : vs[lo + j]? with
        | none => rfl
        | some u => exact hp4 u (List.mem_of_getElem? (by simpa using hx))
      · simp only [List.getElem?_map, Option.map_eq_some_iff] at hr
        obtain ⟨c, hc, rfl⟩ := hr
        rw [List.getElem?_take] at hc
        split at hc
        · rw [List.getElem?_drop] at hc
          cases q with
          | zero =>
            simp at hb
            subst hb
            have hlt := lt_of_getElem? hc
            have hv : vs[lo + j]? = some (vs[lo + j]'(by omega)) := Array.getElem?_eq_getElem (by omega)
            show RelV0 _ w c ((vs[lo + j]?).getD .nilIface)
            rw [hv]
            exact hp5 _ c _ hc hv
          | succ q => simp at hb
        · cases hc
    · simp [Pg.run] at hrun
  · simp [Pg.run] at hrun
end
end Go.E
