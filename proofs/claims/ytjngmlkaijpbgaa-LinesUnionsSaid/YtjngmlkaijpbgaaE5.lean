/- E5: each operation of the model does what exec1 says (second part: addresses, loads, stores, new variables). Conditions: none. -/
import Derived.Test.YtjngmlkaijpbgaaE4
set_option linter.unusedVariables false
set_option linter.unusedSimpArgs false
namespace Go.E
open Go.RowKit
section
variable {P : Program} {E : Env} {T : Tab} {ov : Ov} {o : Oper} {σ : St} {pl : Nat → Value} {a : Act} {w : World} {eff : Eff} {log : List Nat}

theorem add_none (g off n : Nat) : (⟨g, off, none⟩ : Addr).add n = ⟨g, off + n, none⟩ := by unfold Addr.add; split <;> simp_all
theorem add_add (ad : Addr) (m n : Nat) (h : ad.spot = none ∨ 0 < m) : (ad.add m).add n = ad.add (m + n) := by
  unfold Addr.add
  by_cases hm : m = 0
  · subst hm; simp
  · by_cases hn : n = 0
    · subst hn; simp
    · have : m + n ≠ 0 := by omega
      simp [hm, hn, this, Nat.add_assoc]
theorem add_add' (ad : Addr) (m n : Nat) : (ad.add m).add n = ad.add (m + n) := by
  unfold Addr.add
  by_cases hm : m = 0
  · subst hm; simp
  · by_cases hn : n = 0
    · subst hn; simp
    · have : m + n ≠ 0 := by omega
      simp [hm, hn, this, Nat.add_assoc]

theorem getB_run {α : Type} {id ver : Nat} {k : Blk → Pg α} {hp : Nat → Option Blk} {l : List Nat} {r : α × List Nat} (h : (getB id ver k).run hp l = some r) :
    ∃ B, hp id = some B ∧ B.ver = ver ∧ B.live = true ∧ (k B).run hp (id :: l) = some r := by
  simp only [getB, Pg.run] at h
  cases hB : hp id with
  | none => simp [hB, Pg.run] at h
  | some B =>
    simp only [hB] at h
    split at h
    · rename_i hc
      simp only [Bool.and_eq_true, beq_iff_eq] at hc
      exact ⟨B, rfl, hc.1, hc.2, h⟩
    · simp [Pg.run] at h
theorem chk_run {α : Type} {c : Bool} {p : Pg α} {hp : Nat → Option Blk} {l : List Nat} {r : α × List Nat} (h : (chk c p).run hp l = some r) : c = true ∧ p.run hp l = some r := by
  unfold chk at h
  split at h
  · exact ⟨by assumption, h⟩
  · simp [Pg.run] at h

/-- A pointer of one's own: where it points. -/
theorem relv_ptr {hp : Nat → Option Blk} {S : Nat → Prop} {id ver r c : Nat} {v : Value} {B : Blk} (h : RelV hp pl S w (.ptr id ver r c) v) (hB : hp id = some B) (hv : B.ver = ver) (hl : B.live = true) :
    ∃ g, blkOf (pl id) = some g ∧ v = .pointer (some ⟨g, B.off r c, none⟩) := by
  cases h with
  | pure _ _ h => cases h
  | ptr _ _ _ _ _ C hC _ _ hh =>
    rw [hB] at hC
    simp only [Option.some.injEq] at hC
    subst hC
    exact hh hv.symm hl
theorem relv_own {hp : Nat → Option Blk} {S : Nat → Prop} {id ver : Nat} {v : Value} {B : Blk} (h : RelV hp pl S w (.own id ver) v) (hB : hp id = some B) (hv : B.ver = ver) (hl : B.live = true) : v = pl id := by
  cases h with
  | pure _ _ h => cases h
  | own _ _ _ C hC _ _ hh =>
    rw [hB] at hC
    simp only [Option.some.injEq] at hC
    subst hC
    exact hh hv.symm hl
theorem relv_vw {hp : Nat → Option Blk} {S : Nat → Prop} {id ver lo n : Nat} {v : Value} {B : Blk} (h : RelV hp pl S w (.vw id ver lo n) v) (hB : hp id = some B) (hv : B.ver = ver) (hl : B.live = true) :
    ∃ g cap, blkOf (pl id) = some g ∧ n ≤ cap ∧ n ≤ maxLen ∧ lo + n ≤ B.len ∧ v = .slice (some ⟨g, B.off lo 0, none⟩) n cap := by
  cases h with
  | pure _ _ h => cases h
  | vw _ _ _ _ _ C hC _ _ hh =>
    rw [hB] at hC
    simp only [Option.some.injEq] at hC
    subst hC
    exact hh hv.symm hl
theorem relv_eptr {hp : Nat → Option Blk} {S : Nat → Prop} {cs : List AV} {v : Value} (h : RelV hp pl S w (.eptr cs) v) : RelV0 S w (.eptr cs) v := by
  cases h with
  | pure _ _ h => exact h
theorem relv_nl {hp : Nat → Option Blk} {pl : Nat → Value} {S : Nat → Prop} {v : Value} (h : RelV hp pl S w .nl v) : v = .slice none 0 0 := by
  cases h with
  | pure _ _ h0 => cases h0; rfl
theorem relv_sl {hp : Nat → Option Blk} {S : Nat → Prop} {rows : List (List AV)} {v : Value} (h : RelV hp pl S w (.sl rows) v) : RelV0 S w (.sl rows) v := by
  cases h with
  | pure _ _ h => exact h

/-- The address of a field. -/
theorem run_fieldAt {t : TypeId} {ti tf : TI} {fs : Array Field} {fd : Field} {f : Nat} (hT : TabOk P T) (ht : look T t = some ti) (hfs : ti.desc = .struct fs) (hfd : fs[f]? = some fd) (htf : look T fd.type = some tf)
    (h1 : 1 ≤ tf.size) (ad : Addr) (w : World) : (Instr.fieldAt t (.pointer (some ad)) f).run P w = .ok (.pointer (some (ad.add fd.offset))) w := by
  have u := und hT ht w
  rw [hfs] at u
  have hne : tf.size ≠ 0 := by omega
  simp only [Instr.fieldAt, Sem.run_bind, u, Result.andThen_ok, hfd, Instr.sureAddr, Sem.run_pure, fieldPlace, szOf hT htf, if_neg hne]

theorem ok_fieldAddr (hT : TabOk P T) (h : RelX E σ pl a w) (hd : ∀ q, o.dst = some q → q < E.nt) (t : TypeId) (x : Operand) (f : Nat) (ho : o.op = .fieldAddr t x f)
    (hrun : (exec1 P T ov o σ.ev).run (look σ.hp) [] = some (eff, log)) : Ok P E o a w (σ.app o.dst eff) := by
  simp only [exec1, ho] at hrun
  split at hrun
  · rename_i ti av ht hx
    split at hrun
    · rename_i fs hfs
      split at hrun
      · rename_i fd hfd
        split at hrun
        · rename_i tf htf
          have hcr := chk_run hrun
          clear hrun
          obtain ⟨hc, hrun⟩ := hcr
          have h1 : 1 ≤ tf.size := Nat.le_of_ble_eq_true hc
          split at hrun
          · rename_i id ver r c
            replace hrun := getB_run hrun
            obtain ⟨B, hB, hv, hl, hrun⟩ := hrun
            simp only [rets, Pg.run, Option.some.injEq, Prod.mk.injEq] at hrun
            obtain ⟨rfl, _⟩ := hrun
            obtain ⟨g, hg, he⟩ := relv_ptr (h.ev hx) hB hv hl
            refine .pure h hd (v := .pointer (some ⟨g, B.off r c + fd.offset, none⟩)) ?_ (.ptr id ver r (c + fd.offset) _ B hB (by omega) rfl fun _ _ => ⟨g, hg, ?_⟩)
            · simp only [execOp, ho, he, Sem.run_bind, run_fieldAt hT ht hfs hfd htf h1, Result.andThen_ok, Sem.run_pure, add_none]
            · unfold Blk.off
              split <;> simp [Nat.add_assoc]
          · rename_i cs
            simp only [rets, Pg.run, Option.some.injEq, Prod.mk.injEq] at hrun
            obtain ⟨rfl, _⟩ := hrun
            have hr := relv_eptr (h.ev hx)
            generalize hu : a.eval x = u at hr
            cases hr with
            | eptr _ ad u hS hA h1' hh =>
              refine .pure h hd (v := .pointer (some (ad.add fd.offset))) ?_ (.pure _ _ (.eptr _ _ (fun q => u (fd.offset + q)) (by rw [add_block]; exact hS) (fun q hq => ?_) (fun q => h1' _) (fun q b hb => ?_)))
              · simp only [execOp, ho, hu, Sem.run_bind, run_fieldAt hT ht hfs hfd htf h1, Result.andThen_ok, Sem.run_pure]
              · rw [add_add']
                exact hA _ (by simp at hq; omega)
              · rw [List.getElem?_drop] at hb
                exact hh _ b hb
          · simp [Pg.run] at hrun
        · simp [Pg.run] at hrun
      · simp [Pg.run] at hrun
    · simp [Pg.run] at hrun
  · simp [Pg.run] at hrun

/-- What a block of one's own holds at a place. -/
theorem RelX.varCell (h : RelX E σ pl a w) {id : Nat} {B : Blk} {cells : List AV} (hB : look σ.hp id = some B) (hk : B.k = .var cells) :
    ∃ g vs, pl id = .pointer (some ⟨g, 0, none⟩) ∧ w.heap[g]? = some (.cells vs B.ty (0, 0)) ∧ vs.size = cells.length ∧ (∀ u ∈ vs.toList, u.oneCell' = true) ∧
      ∀ (j : Nat) (a : AV) (u : Value), cells[j]? = some a → vs[j]? = some u → RelV (look σ.hp) pl (SS E (look σ.hp) pl w) w a u := by
  have := h.blks id B hB
  unfold BlkRel at this
  rw [hk] at this
  obtain ⟨g, vs, h1, _, h2⟩ := this
  exact ⟨g, vs, h1, h2⟩
theorem RelX.arrCell (h : RelX E σ pl a w) {id : Nat} {B : Blk} {cells : List AV} (hB : look σ.hp id = some B) (hk : B.k = .arr cells) :
    ∃ g vs, pl id = .pointer (some ⟨g, 0, none⟩) ∧ w.heap[g]? = some (.cells vs B.ty (0, 0)) ∧ vs.size = cells.length ∧ (∀ u ∈ vs.toList, u.oneCell' = true) ∧
      ∀ (j : Nat) (a : AV) (u : Value), cells[j]? = some a → vs[j]? = some u → RelV0 (SS E (look σ.hp) pl w) w a u := by
  have := h.blks id B hB
  unfold BlkRel at this
  rw [hk] at this
  obtain ⟨g, vs, h1, _, h2⟩ := this
  exact ⟨g, vs, h1, h2⟩
theorem cell_of (w : World) (g j : Nat) (vs : Array Value) (t : TypeId) (fr : Nat × Nat) (h : w.heap[g]? = some (.cells vs t fr)) : w.cell? ⟨g, j, none⟩ = vs[j]? := cell_of_row w g j vs t fr h

theorem run_load1 {t : TypeId} {ti : TI} (hT : TabOk P T) (ht : look T t = some ti) (hg : ti.isAgg = false) {ad : Addr} {v : Value} (hc : w.cell? ad = some v) : (Instr.loadAt t (.pointer (some ad))).run P w = .ok v w := by
  simp [Instr.loadAt, Instr.sureAddr, loadVar, isAggR hT ht, hg, hc]
theorem run_loadN {t : TypeId} {ti : TI} (hT : TabOk P T) (ht : look T t = some ti) (hg : ti.isAgg = true) {ad : Addr} {vs : List Value} (hl : vs.length = ti.size) (hc : ∀ j v, vs[j]? = some v → w.cell? (ad.add j) = some v) :
    (Instr.loadAt t (.pointer (some ad))).run P w = .ok (.agg vs.toArray) w := by
  have := run_loadCells_list (P := P) w ad vs hc
  rw [hl] at this
  simp [Instr.loadAt, Instr.sureAddr, loadVar, isAggR hT ht, hg, szOf hT ht, this]

theorem RelX.rowCell (h : RelX E σ pl a w) {id : Nat} {B : Blk} {sz : Nat} {rows : List (List AV)} (hB : look σ.hp id = some B) (hk : B.k = .row sz rows) :
    (∀ r ∈ rows, r.length = sz) ∧ ∃ xs, w.ownsRow E.w0.heap.size B.ty sz (pl id) rows.length xs ∧ (∀ u ∈ xs, u.oneCell' = true) ∧
      ∀ (j : Nat) (a : AV) (u : Value), rows.flatten[j]? = some a → xs[j]? = some u → RelV0 (SS E (look σ.hp) pl w) w a u := by
  have := h.blks id B hB
  unfold BlkRel at this
  rw [hk] at this
  exact this
/-- A cell of a row of one's own. -/
theorem RelX.rowAt (h : RelX E σ pl a w) {id : Nat} {B : Blk} {sz : Nat} {rows : List (List AV)} (hB : look σ.hp id = some B) (hk : B.k = .row sz rows) {r : Nat} {rr : List AV} (hr : rows[r]? = some rr) :
    rr.length = sz ∧ ∃ g cap cur, pl id = .slice (some ⟨g, 0, none⟩) rows.length cap ∧ w.heap[g]? = some (.cells cur B.ty (0, 0)) ∧ rows.length * sz ≤ cur.size ∧
      ∀ (q : Nat) (av : AV), rr[q]? = some av → ∃ u, w.cell? ⟨g, r * sz + q, none⟩ = some u ∧ u.oneCell' = true ∧ RelV0 (SS E (look σ.hp) pl w) w av u := by
  obtain ⟨hsz, xs, ho, h1, hh⟩ := h.rowCell hB hk
  have hlen := hsz rr (List.mem_of_getElem? hr)
  have hlt := lt_of_getElem? hr
  rcases ho.2 with ⟨_, h0⟩ | ⟨g, cap, cur, e, hg, hheap, hnc, hcm, hcs, hcur⟩
  · omega
  · refine ⟨hlen, g, cap, cur, e, hheap, by rw [hcs]; exact Nat.mul_le_mul_right _ hnc, fun q av hq => ?_⟩
    have hqs : q < sz := by have := lt_of_getElem? hq; omega
    have hf := flatten_get hsz hr hqs
    rw [hq] at hf
    have hj : r * sz + q < rows.length * sz := by
      have := lt_of_getElem? hf
      rw [flatten_len hsz] at this
      exact this
    rw [e] at ho
    have hc := World.ownsRow.cellAt ho (r * sz + q) hj
    have hx : r * sz + q < xs.length := by rw [ho.1]; exact hj
    refine ⟨xs[r * sz + q], by rw [hc, List.getElem?_eq_getElem hx], h1 _ (List.getElem_mem hx), hh _ av _ hf (List.getElem?_eq_getElem hx)⟩

theorem ok_load (hT : TabOk P T) (h : RelX E σ pl a w) (hd : ∀ q, o.dst = some q → q < E.nt) (t : TypeId) (x : Operand) (ho : o.op = .load t x)
    (hrun : (exec1 P T ov o σ.ev).run (look σ.hp) [] = some (eff, log)) (hobl : All eff.obl) : Ok P E o a w (σ.app o.dst eff) := by
  simp only [exec1, ho] at hrun
  split at hrun
  · rename_i id ver r c ti hx ht
    replace hrun := getB_run hrun
    obtain ⟨B, hB, hv, hl, hrun⟩ := hrun
    obtain ⟨g, hg, he⟩ := relv_ptr (h.ev hx) hB hv hl
    split at hrun
    · rename_i cells hk
      obtain ⟨g', vs, hp1, hp2, hp3, hp4, hp5⟩ := h.varCell hB hk
      rw [hp1] at hg
      simp only [blkOf, Option.some.injEq] at hg
      subst hg
      split at hrun
      · rename_i hag
        replace hrun := chk_run hrun
        obtain ⟨hc, hrun⟩ := hrun
        simp only [Bool.and_eq_true, beq_iff_eq, List.all_eq_true] at hc
        obtain ⟨⟨hr0, hlen⟩, hpure⟩ := hc
        simp only [rets, Pg.run, Option.some.injEq, Prod.mk.injEq] at hrun
        obtain ⟨rfl, _⟩ := hrun
        have hoff : B.off r c = c := by simp [Blk.off, hk, hr0]
        have hl2 : ((vs.toList.drop c).take ti.size).length = ((cells.drop c).take ti.size).length := by simp [hp3]
        refine .pure h hd (v := .agg ((vs.toList.drop c).take ti.size).toArray) ?_ (.pure _ _ (.agg _ _ hl2 (fun u hu => hp4 u (List.mem_of_mem_drop (List.mem_of_mem_take hu))) (fun j av u ha hu => ?_)))
        · simp only [execOp, ho, he, hoff, Sem.run_bind]
          rw [run_loadN hT ht hag (vs := (vs.toList.drop c).take ti.size) (by rw [hl2, hlen]) (fun j v hj => ?_)]
          · rfl
          · rw [add_none, cell_of w g' _ vs _ _ hp2]
            rw [List.getElem?_take] at hj
            split at hj
            · rw [List.getElem?_drop] at hj; simpa using hj
            · cases hj
        · have hm := hpure av (List.mem_of_getElem? ha)
          rw [List.getElem?_take] at ha hu
          split at ha
          · rw [if_pos (by assumption)] at hu
            rw [List.getElem?_drop] at ha hu
            exact relv_pure (hp5 _ av u ha (by simpa using hu)) (by simpa using hm.1)
          · cases ha
      · rename_i hag
        split at hrun
        · rename_i av hcell
          replace hrun := chk_run hrun
          obtain ⟨hc, hrun⟩ := hrun
          simp only [rets, Pg.run, Option.some.injEq, Prod.mk.injEq] at hrun
          obtain ⟨rfl, _⟩ := hrun
          have hr0 : r = 0 := by simpa using hc
          have hoff : B.off r c = c := by simp [Blk.off, hk, hr0]
          have hlt := lt_of_getElem? hcell
          have hq : vs[c]? = some (vs[c]'(by omega)) := by rw [Array.getElem?_eq_getElem]
          refine .pure h hd (v := vs[c]'(by omega)) ?_ (hp5 c av _ hcell hq)
          simp only [execOp, ho, he, hoff, Sem.run_bind]
          rw [run_load1 hT ht (by simpa using hag) (by rw [cell_of w g' _ vs _ _ hp2]; exact hq)]
          rfl
        · simp [Pg.run] at hrun
    · rename_i cells hk
      obtain ⟨g', vs, hp1, hp2, hp3, hp4, hp5⟩ := h.arrCell hB hk
      rw [hp1] at hg
      simp only [blkOf, Option.some.injEq] at hg
      subst hg
      have hoff : B.off r c = r + c := by simp [Blk.off, hk]
      split at hrun
      · rename_i hag
        replace hrun := chk_run hrun
        obtain ⟨hc, hrun⟩ := hrun
        simp only [Bool.and_eq_true, beq_iff_eq] at hc
        obtain ⟨rfl, rfl⟩ := hc
        simp only [Pg.run, Option.some.injEq, Prod.mk.injEq] at hrun
        obtain ⟨rfl, _⟩ := hrun
        have hsz : cells.length = ti.size := hobl
        refine .pure h hd (v := .agg vs.toList.toArray) ?_ (.pure _ _ (.agg _ _ (by simp [hp3]) hp4 (fun j av u ha hu => hp5 j av u ha (by simpa using hu))))
        simp only [execOp, ho, he, hoff, Sem.run_bind]
        rw [run_loadN hT ht hag (vs := vs.toList) (by simp [hp3, hsz]) (fun j v hj => by rw [add_none, cell_of w g' _ vs _ _ hp2]; simpa using hj)]
        rfl
      · rename_i hag
        split at hrun
        · rename_i av hrow
          simp only [Pg.run, Option.some.injEq, Prod.mk.injEq] at hrun
          obtain ⟨rfl, _⟩ := hrun
          have hcell : cells[r + c]? = some av := hobl
          have hlt := lt_of_getElem? hcell
          have hq : vs[r + c]? = some (vs[r + c]'(by omega)) := by rw [Array.getElem?_eq_getElem]
          refine .pure h hd (v := vs[r + c]'(by omega)) ?_ (.pure _ _ (hp5 _ av _ hcell hq))
          simp only [execOp, ho, he, hoff, Sem.run_bind]
          rw [run_load1 hT ht (by simpa using hag) (by rw [cell_of w g' _ vs _ _ hp2]; exact hq)]
          rfl
        · simp [Pg.run] at hrun
    · rename_i sz rows hk
      have hoff : B.off r c = r * sz + c := by simp [Blk.off, hk]
      split at hrun
      · rename_i hag
        injection hrun with hrun
        injection hrun with hrun _
        subst hrun
        have hat0 : Go.E.rowAt B r ov.row := hobl.1
        have hle : c + ti.size ≤ ov.row.length := hobl.2
        have hat : rows[r]? = some ov.row := by unfold Go.E.rowAt at hat0; rw [hk] at hat0; exact hat0
        obtain ⟨hlen, g', cap, cur, hp1, hp2, hp3, hp4⟩ := h.rowAt hB hk hat
        rw [hp1] at hg
        simp only [blkOf, Option.some.injEq] at hg
        subst hg
        have key : ∀ q, q < ti.size → ∃ u, w.cell? ⟨g', r * sz + (c + q), none⟩ = some u ∧ u.oneCell' = true ∧ ∀ av, ov.row[c + q]? = some av → RelV0 (SS E (look σ.hp) pl w) w av u := by
          intro q hq
          have hlt : c + q < ov.row.length := by omega
          obtain ⟨u, h1, h2, h3⟩ := hp4 (c + q) _ (List.getElem?_eq_getElem hlt)
          exact ⟨u, h1, h2, fun av hav => by rw [List.getElem?_eq_getElem hlt] at hav; simp only [Option.some.injEq] at hav; subst hav; exact h3⟩
        let vs : List Value := (List.range ti.size).map fun q => (w.cell? ⟨g', r * sz + (c + q), none⟩).getD .nilIface
        have hvs : ∀ q u, vs[q]? = some u → w.cell? ⟨g', r * sz + (c + q), none⟩ = some u ∧ q < ti.size := by
          intro q u hu
          have hq := lt_of_getElem? hu
          simp only [vs, List.length_map, List.length_range] at hq
          obtain ⟨u', h1, _⟩ := key q hq
          simp only [vs, List.getElem?_map, List.getElem?_range hq, Option.map_some, h1, Option.getD_some, Option.some.injEq] at hu
          subst hu
          exact ⟨h1, hq⟩
        refine .pure h hd (v := .agg vs.toArray) ?_ (.pure _ _ (.agg _ _ (by simp [vs]; omega) (fun u hu => ?_) (fun j av u ha hu => ?_)))
        · simp only [execOp, ho, he, hoff, Sem.run_bind]
          rw [run_loadN hT ht hag (vs := vs) (by simp [vs]) (fun j v hj => by rw [add_none, Nat.add_assoc]; exact (hvs j v hj).1)]
          rfl
        · obtain ⟨q, hq⟩ := List.mem_iff_getElem?.1 hu
          obtain ⟨h1, h2⟩ := hvs q u hq
          obtain ⟨u', h3, h4, _⟩ := key q h2
          rw [h1] at h3
          simp only [Option.some.injEq] at h3
          rw [h3]; exact h4
        · obtain ⟨h1, h2⟩ := hvs j u hu
          obtain ⟨u', h3, _, h5⟩ := key j h2
          rw [h1] at h3
          simp only [Option.some.injEq] at h3
          subst h3
          rw [List.getElem?_take, if_pos h2, List.getElem?_drop] at ha
          exact h5 av ha
      · rename_i hag
        split at hrun
        · rename_i av hrow
          simp only [Pg.run, Option.some.injEq, Prod.mk.injEq] at hrun
          obtain ⟨rfl, _⟩ := hrun
          have hat : rows[r]? = some ov.row := by
            have hat0 : Go.E.rowAt B r ov.row := hobl
            unfold Go.E.rowAt at hat0; rw [hk] at hat0; exact hat0
          obtain ⟨hlen, g', cap, cur, hp1, hp2, hp3, hp4⟩ := h.rowAt hB hk hat
          rw [hp1] at hg
          simp only [blkOf, Option.some.injEq] at hg
          subst hg
          obtain ⟨u, h1, _, h3⟩ := hp4 c av hrow
          refine .pure h hd (v := u) ?_ (.pure _ _ h3)
          simp only [execOp, ho, he, hoff, Sem.run_bind]
          rw [run_load1 hT ht (by simpa using hag) h1]
          rfl
        · simp [Pg.run] at hrun
    · simp [Pg.run] at hrun
  · rename_i cs ti hx ht
    have hr := relv_eptr (h.ev hx)
    generalize hu : a.eval x = u0 at hr
    cases hr with
    | eptr _ ad u hS hA h1 hh =>
      split at hrun
      · rename_i hag
        simp only [Pg.run, Option.some.injEq, Prod.mk.injEq] at hrun
        obtain ⟨rfl, _⟩ := hrun
        have hle : ti.size ≤ cs.length := hobl
        have hq : ∀ j v, ((List.range ti.size).map u)[j]? = some v → v = u j ∧ j < ti.size := by
          intro j v hv
          have hlt := lt_of_getElem? hv
          simp at hlt
          simp [List.getElem?_range hlt] at hv
          exact ⟨hv.symm, hlt⟩
        refine .pure h hd (v := .agg ((List.range ti.size).map u).toArray) ?_ (.pure _ _ (.agg _ _ (by simp; omega) (fun v hv => ?_) (fun j av v ha hv => ?_)))
        · simp only [execOp, ho, hu, Sem.run_bind]
          rw [run_loadN hT ht hag (vs := (List.range ti.size).map u) (by simp) (fun j v hj => by obtain ⟨rfl, hlt⟩ := hq j v hj; exact hA j (by omega))]
          rfl
        · obtain ⟨j, hj⟩ := List.mem_iff_getElem?.1 hv
          obtain ⟨rfl, _⟩ := hq j v hj
          exact h1 j
        · obtain ⟨rfl, hlt⟩ := hq j v hv
          rw [List.getElem?_take, if_pos hlt] at ha
          exact hh j av ha
      · rename_i hag
        split at hrun
        · rename_i av hcell
          simp only [rets, Pg.run, Option.some.injEq, Prod.mk.injEq] at hrun
          obtain ⟨rfl, _⟩ := hrun
          have hlt := lt_of_getElem? hcell
          refine .pure h hd (v := u 0) ?_ (.pure _ _ (hh 0 av hcell))
          have hc := hA 0 hlt
          have e : ad.add 0 = ad := by simp [Addr.add]
          rw [e] at hc
          simp only [execOp, ho, hu, Sem.run_bind]
          rw [run_load1 hT ht (by simpa using hag) hc]
          rfl
        · simp [Pg.run] at hrun
  · simp [Pg.run] at hrun
end
end Go.E
