/- E7: each operation of the model does what exec1 says (fourth part: new blocks, elements, building). Conditions: none. -/
import Derived.Test.YtjngmlkaijpbgaaE6
set_option linter.unusedVariables false
set_option linter.unusedSimpArgs false
namespace Go.E
open Go.RowKit
section
variable {P : Program} {E : Env} {T : Tab} {ov : Ov} {o : Oper} {σ : St} {pl : Nat → Value} {a : Act} {w : World} {eff : Eff} {log : List Nat}

theorem mkB_run {d ty : Nat} {k : BK} {v : Nat → AV} {obl : List Prop} {hp : Nat → Option Blk} {l : List Nat} {r : Eff × List Nat} (h : (mkB d ty k v obl).run hp l = some r) :
    ∃ ver, (∀ C, hp d = some C → C.ver < ver) ∧ r.1 = { val := v ver, ups := [(d, ⟨ver, ty, k⟩)], obl := obl } := by
  simp only [mkB, Pg.run] at h
  cases hd : hp d with
  | none =>
    simp only [hd, Pg.run, Option.some.injEq] at h
    exact ⟨0, ⟨fun C hC => absurd hC (by simp), by rw [← h]⟩⟩
  | some B =>
    simp only [hd, Pg.run, Option.some.injEq] at h
    exact ⟨B.ver + 1, ⟨fun C hC => by simp only [Option.some.injEq] at hC; subst hC; omega, by rw [← h]⟩⟩

/-- An operation that makes a block. -/
theorem Ok.new {v u : Value} {w' : World} {av : AV} {obl : List Prop} {ver ty d : Nat} {k : BK} (h : RelX E σ pl a w) (hd : ∀ q, o.dst = some q → q < E.nt) (hdst : o.dst = some d)
    (hr : (execOp a.eval o).run P w = .ok (.value v) w') (hb : Below w.heap.size w w') (hver : ∀ C, look σ.hp d = some C → C.ver < ver)
    (hv : ∀ k, blkOf u = some k → w.heap.size ≤ k ∧ k < w'.heap.size) (hB : BlkRel E.w0.heap.size (look σ.hp) pl (SS E (look σ.hp) pl w) w' u ⟨ver, ty, k⟩)
    (hval : RelV (look (Go.E.put σ.hp d ⟨ver, ty, k⟩)) (setPl pl d u) (SS E (look (Go.E.put σ.hp d ⟨ver, ty, k⟩)) (setPl pl d u) w') w' av v) :
    Ok P E o a w (σ.app o.dst { val := av, ups := [(d, ⟨ver, ty, k⟩)], obl := obl }) := by
  have hn := (h.new hb d ⟨ver, ty, k⟩ u hver hv hB).1
  exact .value hr ⟨setPl pl d u, hn.put o.dst hd hval⟩
theorem below_alloc' (w : World) (ob : Obj) : Below w.heap.size w (w.alloc ob) := (Below.refl _ _).alloc (Nat.le_refl _) ob

/-- A new variable. -/
theorem Ok.newVar {d t : Nat} {k : BK} {cells : List AV} {vs : Array Value} {ver : Nat} {obl : List Prop} (h : RelX E σ pl a w) (hd : ∀ q, o.dst = some q → q < E.nt) (hdst : o.dst = some d)
    (hr : (execOp a.eval o).run P w = .ok (.value (.pointer (some ⟨w.heap.size, 0, none⟩))) (w.alloc (.cells vs t))) (hver : ∀ C, look σ.hp d = some C → C.ver < ver)
    (hk : k = .var cells ∨ k = .arr cells) (hl : vs.size = cells.length) (h1 : ∀ u ∈ vs.toList, u.oneCell' = true)
    (hvar : k = .var cells → ∀ (j : Nat) (b : AV) (u : Value), cells[j]? = some b → vs[j]? = some u → RelV (look σ.hp) pl (SS E (look σ.hp) pl w) w b u)
    (harr : k = .arr cells → ∀ (j : Nat) (b : AV) (u : Value), cells[j]? = some b → vs[j]? = some u → RelV0 (SS E (look σ.hp) pl w) w b u) :
    Ok P E o a w (σ.app o.dst { val := .ptr d ver 0 0, ups := [(d, ⟨ver, t, k⟩)], obl := obl }) := by
  have hb := below_alloc' w (.cells vs t)
  refine .new (u := .pointer (some ⟨w.heap.size, 0, none⟩)) h hd hdst hr hb hver (fun q hq => ?_) ?_ (.ptr d ver 0 0 _ ⟨ver, t, k⟩ (by simp [look_put]) (Nat.le_refl _) rfl fun _ _ => ⟨w.heap.size, by simp [setPl, blkOf], ?_⟩)
  · simp [blkOf] at hq; subst hq; simp
  · rcases hk with rfl | rfl
    · exact ⟨w.heap.size, vs, rfl, h.below.size, heap_alloc_new w _, hl, h1, fun j b u hb' hu => (hvar rfl j b u hb' hu).mono (HExt.refl _ _) (fun _ hk => hk) (fun k hk => hb.block k (hk.lt h.below))⟩
    · exact ⟨w.heap.size, vs, rfl, h.below.size, heap_alloc_new w _, hl, h1, fun j b u hb' hu => (harr rfl j b u hb' hu).mono (fun _ hk => hk) (fun k hk => hb.block k (hk.lt h.below))⟩
  · rcases hk with rfl | rfl <;> simp [Blk.off]

theorem run_alloc {t : TypeId} {ti : TI} (hT : TabOk P T) (ht : look T t = some ti) (w : World) : ∃ z : Value, (Instr.alloc t true (.tuple #[])).run P w = .ok (.pointer (some ⟨w.heap.size, 0, none⟩)) (w.alloc (.cells z.cells t)) ∧
    z.cells.toList.map avC = ti.zero.map some := by
  obtain ⟨i, z, h1, h2, h3, h4, h5⟩ := inf hT ht
  refine ⟨z, ?_, h5⟩
  simp [Instr.alloc, zeroValue, typeInfo, h1, h4, newVar, newRow, newObj, Sem.run]

theorem ok_alloc (hT : TabOk P T) (h : RelX E σ pl a w) (hd : ∀ q, o.dst = some q → q < E.nt) (t : TypeId) (ho : o.op = .alloc t)
    (hrun : (exec1 P T ov o σ.ev).run (look σ.hp) [] = some (eff, log)) : Ok P E o a w (σ.app o.dst eff) := by
  simp only [exec1, ho] at hrun
  split at hrun
  · rename_i d ti hdst ht
    obtain ⟨z, hr, hz⟩ := run_alloc hT ht w
    obtain ⟨z1, z2, z3⟩ := zero_rel hz (SS E (look σ.hp) pl w) w
    have hr' : (execOp a.eval o).run P w = .ok (.value (.pointer (some ⟨w.heap.size, 0, none⟩))) (w.alloc (.cells z.cells t)) := by simp [execOp, ho, hr]
    split at hrun
    · obtain ⟨ver, hver, e⟩ := mkB_run hrun
      simp only at e
      subst e
      exact .newVar (cells := ti.zero) h hd hdst hr' hver (.inr rfl) z1 z2 (fun e => by cases e) (fun _ => z3)
    · obtain ⟨ver, hver, e⟩ := mkB_run hrun
      simp only at e
      subst e
      exact .newVar (cells := ti.zero) h hd hdst hr' hver (.inl rfl) z1 z2 (fun _ j b u hb hu => .pure _ _ (z3 j b u hb hu)) (fun e => by cases e)
  · simp [Pg.run] at hrun

theorem ok_box (h : RelX E σ pl a w) (hd : ∀ q, o.dst = some q → q < E.nt) (t : TypeId) (x : Operand) (ho : o.op = .box t x)
    (hrun : (exec1 P T ov o σ.ev).run (look σ.hp) [] = some (eff, log)) : Ok P E o a w (σ.app o.dst eff) := by
  simp only [exec1, ho] at hrun
  split at hrun
  · rename_i d ti av hdst ht hx
    have hr' : (execOp a.eval o).run P w = .ok (.value (.pointer (some ⟨w.heap.size, 0, none⟩))) (w.alloc (.cells (a.eval x).cells t)) := by
      simp [execOp, ho, Instr.box, newVar, newRow, newObj, Sem.run]
    have hrx := h.ev hx
    split at hrun
    · split at hrun
      · rename_i cs
        obtain ⟨ver, hver, e⟩ := mkB_run hrun
        simp only at e
        subst e
        obtain ⟨h1, h2, h3⟩ := rel0_cells (relv_agg hrx) rfl
        exact .newVar (cells := cs) h hd hdst hr' hver (.inr rfl) h1 h2 (fun e => by cases e) (fun _ => h3)
      · simp [Pg.run] at hrun
    · replace hrun := chk_run hrun
      obtain ⟨hc, hrun⟩ := hrun
      obtain ⟨ver, hver, e⟩ := mkB_run hrun
      simp only at e
      subst e
      obtain ⟨h1, h2, h3⟩ := cells_of_rel hrx hc
      exact .newVar (cells := cellsA av) h hd hdst hr' hver (.inl rfl) h1 h2 (fun _ => h3) (fun e => by cases e)
  · simp [Pg.run] at hrun

theorem run_indexAt_slice {t e : TypeId} {ti te : TI} (hT : TabOk P T) (ht : look T t = some ti) (hd : ti.desc = .slice e) (he : look T e = some te) {k : IntKind} {n : Int} {ad : Addr} {len cap : Nat} (h0 : 0 ≤ n) (h1 : n < len) (w : World) :
    (Instr.indexAt t (.slice (some ad) len cap) (.int k n)).run P w = .ok (.pointer (some (ad.add (n.toNat * te.size)))) w := by
  have u := und hT ht w
  rw [hd] at u
  have h2 : 0 ≤ n ∧ n < (len : Int) := ⟨h0, h1⟩
  simp [Instr.indexAt, asIntOf, u, h2, szOf hT he]
theorem run_indexAt_array {t e : TypeId} {ti te : TI} {len : Nat} (hT : TabOk P T) (ht : look T t = some ti) (hd : ti.desc = .array len e) (he : look T e = some te) {k : IntKind} {n : Int} {ad : Addr} (h0 : 0 ≤ n) (h1 : n < len) (w : World) :
    (Instr.indexAt t (.pointer (some ad)) (.int k n)).run P w = .ok (.pointer (some (ad.add (n.toNat * te.size)))) w := by
  have u := und hT ht w
  rw [hd] at u
  have h2 : 0 ≤ n ∧ n < (len : Int) := ⟨h0, h1⟩
  simp [Instr.indexAt, asIntOf, Instr.sureAddr, u, h2, szOf hT he]

theorem ok_indexAddr (hT : TabOk P T) (h : RelX E σ pl a w) (hd : ∀ q, o.dst = some q → q < E.nt) (t : TypeId) (x ix : Operand) (ho : o.op = .indexAddr t x ix)
    (hrun : (exec1 P T ov o σ.ev).run (look σ.hp) [] = some (eff, log)) (hobl : All eff.obl) : Ok P E o a w (σ.app o.dst eff) := by
  simp only [exec1, ho] at hrun
  split at hrun
  · rename_i ti av k n ht hx hix
    have ei := relv_toV (h.ev hix) rfl
    split at hrun
    · rename_i e rows hdesc
      split at hrun
      · rename_i te hte
        simp only [Pg.run, Option.some.injEq, Prod.mk.injEq] at hrun
        obtain ⟨rfl, _⟩ := hrun
        obtain ⟨o1, o2, o3⟩ : 0 ≤ n ∧ rows[n.toNat]? = some ov.row ∧ ov.row.length = te.size := hobl
        have hr := relv_sl (h.ev hx)
        generalize hu : a.eval x = u0 at hr
        cases hr with
        | sl _ A cap sz u hc hm hn hsz hA h1 hh =>
          have hlt := lt_of_getElem? o2
          obtain ⟨ad, rfl, hS, hcell⟩ := hA (by omega)
          have hsz' : sz = te.size := by rw [← o3]; exact (hsz _ (List.mem_of_getElem? o2)).symm
          refine .pure h hd (v := .pointer (some (ad.add (n.toNat * te.size)))) ?_ (.pure _ _ (.eptr _ _ (fun q => u n.toNat q) (by rw [add_block]; exact hS) (fun q hq => ?_) (fun q => h1 _ q) (fun q b hb => hh _ q _ b o2 hb)))
          · simp only [execOp, ho, hu, ei, Sem.run_bind]
            rw [run_indexAt_slice hT ht hdesc hte o1 (by omega)]
            rfl
          · rw [add_add', ← hsz']
            exact hcell _ q hlt (by omega)
      · simp [Pg.run] at hrun
    · rename_i e id ver hdesc
      replace hrun := getB_run hrun
      obtain ⟨B, hB, hv, hl, hrun⟩ := hrun
      split at hrun
      · rename_i sz rows te hk hte
        simp only [Pg.run, Option.some.injEq, Prod.mk.injEq] at hrun
        obtain ⟨rfl, _⟩ := hrun
        obtain ⟨o1, o2, o3⟩ : 0 ≤ n ∧ n.toNat < rows.length ∧ te.size = sz := hobl
        obtain ⟨hsz, xs, hown, _⟩ := h.rowCell hB hk
        have he := relv_own (h.ev hx) hB hv hl
        rcases hown.2 with ⟨_, h0⟩ | ⟨g, cap, cur, e1, _⟩
        · omega
        · refine .pure h hd (v := .pointer (some ⟨g, n.toNat * te.size, none⟩)) ?_ (.ptr id ver n.toNat 0 _ B hB (by omega) rfl fun _ _ => ⟨g, by rw [e1]; rfl, by simp [Blk.off, hk, o3]⟩)
          simp only [execOp, ho, he, e1, ei, Sem.run_bind]
          rw [run_indexAt_slice hT ht hdesc hte o1 (by omega)]
          simp [add_none]
      · simp [Pg.run] at hrun
    · rename_i e id ver lo m hdesc
      replace hrun := getB_run hrun
      obtain ⟨B, hB, hv, hl, hrun⟩ := hrun
      split at hrun
      · rename_i sz rows te hk hte
        simp only [Pg.run, Option.some.injEq, Prod.mk.injEq] at hrun
        obtain ⟨rfl, _⟩ := hrun
        obtain ⟨o1, o2, o3⟩ : 0 ≤ n ∧ n.toNat < m ∧ te.size = sz := hobl
        obtain ⟨g, cap, hg, _, _, _, he⟩ := relv_vw (h.ev hx) hB hv hl
        refine .pure h hd (v := .pointer (some ⟨g, lo * sz + n.toNat * te.size, none⟩)) ?_ (.ptr id ver (lo + n.toNat) 0 _ B hB (by omega) rfl fun _ _ => ⟨g, hg, by simp [Blk.off, hk, o3, Nat.add_mul]⟩)
        simp only [execOp, ho, he, ei, Sem.run_bind]
        rw [run_indexAt_slice hT ht hdesc hte o1 (by omega)]
        simp [add_none, Blk.off, hk]
      · simp [Pg.run] at hrun
    · rename_i len e id ver r c hdesc
      replace hrun := getB_run hrun
      obtain ⟨B, hB, hv, hl, hrun⟩ := hrun
      split at hrun
      · rename_i cells te hk hte
        replace hrun := chk_run hrun
        obtain ⟨hc, hrun⟩ := hrun
        simp only [Bool.and_eq_true, beq_iff_eq] at hc
        obtain ⟨rfl, rfl⟩ := hc
        simp only [Pg.run, Option.some.injEq, Prod.mk.injEq] at hrun
        obtain ⟨rfl, _⟩ := hrun
        obtain ⟨o1, o2⟩ : 0 ≤ n ∧ n < len := hobl
        obtain ⟨g, hg, he⟩ := relv_ptr (h.ev hx) hB hv hl
        refine .pure h hd (v := .pointer (some ⟨g, n.toNat * te.size, none⟩)) ?_ (.ptr id ver (n.toNat * te.size) 0 _ B hB (by omega) rfl fun _ _ => ⟨g, hg, by simp [Blk.off, hk]⟩)
        simp only [execOp, ho, he, ei, Sem.run_bind]
        rw [run_indexAt_array hT ht hdesc hte o1 o2]
        simp [add_none, Blk.off, hk]
      · rename_i cells te hk hte
        replace hrun := chk_run hrun
        obtain ⟨hc, hrun⟩ := hrun
        simp only [Bool.and_eq_true, beq_iff_eq] at hc
        obtain ⟨rfl, rfl⟩ := hc
        simp only [Pg.run, Option.some.injEq, Prod.mk.injEq] at hrun
        obtain ⟨rfl, _⟩ := hrun
        obtain ⟨o1, o2⟩ : 0 ≤ n ∧ n < len := hobl
        obtain ⟨g, hg, he⟩ := relv_ptr (h.ev hx) hB hv hl
        refine .pure h hd (v := .pointer (some ⟨g, n.toNat * te.size, none⟩)) ?_ (.ptr id ver 0 (n.toNat * te.size) _ B hB (by omega) rfl fun _ _ => ⟨g, hg, by simp [Blk.off, hk]⟩)
        simp only [execOp, ho, he, ei, Sem.run_bind]
        rw [run_indexAt_array hT ht hdesc hte o1 o2]
        simp [add_none, Blk.off, hk]
      · simp [Pg.run] at hrun
    · rename_i len e cs hdesc
      split at hrun
      · rename_i te hte
        simp only [Pg.run, Option.some.injEq, Prod.mk.injEq] at hrun
        obtain ⟨rfl, _⟩ := hrun
        obtain ⟨o1, o2⟩ : 0 ≤ n ∧ n < len := hobl
        have hr := relv_eptr (h.ev hx)
        generalize hu : a.eval x = u0 at hr
        cases hr with
        | eptr _ ad u hS hA h1 hh =>
          refine .pure h hd (v := .pointer (some (ad.add (n.toNat * te.size)))) ?_ (.pure _ _ (.eptr _ _ (fun q => u (n.toNat * te.size + q)) (by rw [add_block]; exact hS) (fun q hq => ?_) (fun q => h1 _) (fun q b hb => ?_)))
          · simp only [execOp, ho, hu, ei, Sem.run_bind]
            rw [run_indexAt_array hT ht hdesc hte o1 o2]
            rfl
          · rw [add_add']
            exact hA _ (by simp at hq; omega)
          · rw [List.getElem?_drop] at hb
            exact hh _ b hb
      · simp [Pg.run] at hrun
    · simp [Pg.run] at hrun
  · simp [Pg.run] at hrun

theorem ok_index (hT : TabOk P T) (h : RelX E σ pl a w) (hd : ∀ q, o.dst = some q → q < E.nt) (t : TypeId) (x ix : Operand) (ho : o.op = .index t x ix)
    (hrun : (exec1 P T ov o σ.ev).run (look σ.hp) [] = some (eff, log)) (hobl : All eff.obl) : Ok P E o a w (σ.app o.dst eff) := by
  simp only [exec1, ho] at hrun
  split at hrun
  · rename_i ti av k n ht hx hix
    have ei := relv_toV (h.ev hix) rfl
    have u := und hT ht w
    split at hrun
    · rename_i z hdesc
      split at hrun
      · rename_i m hov
        simp only [Pg.run, Option.some.injEq, Prod.mk.injEq] at hrun
        obtain ⟨rfl, _⟩ := hrun
        obtain ⟨o1, o2⟩ : 0 ≤ n ∧ (z[n.toNat]?.map fun b => (b.toNat : Int)) = some m := hobl
        have ez := relv_toV (h.ev hx) rfl
        cases hb : z[n.toNat]? with
        | none => rw [hb] at o2; simp at o2
        | some b =>
          rw [hb] at o2
          simp only [Option.map_some, Option.some.injEq] at o2
          subst o2
          refine .pure h hd (v := .int .u8 b.toNat) ?_ (.pure _ _ (.i _ _))
          rw [hdesc] at u
          simp [execOp, ho, ez, ei, Instr.index, asIntOf, u, o1, hb]
      · simp [Pg.run] at hrun
    · rename_i len e cs hdesc
      split at hrun
      · rename_i te q hte hrow
        replace hrun := chk_run hrun
        obtain ⟨hc, hrun⟩ := hrun
        have hag : te.isAgg = false := by simpa using hc
        simp only [Pg.run, Option.some.injEq, Prod.mk.injEq] at hrun
        obtain ⟨rfl, _⟩ := hrun
        obtain ⟨o1, o2, o3⟩ : 0 ≤ n ∧ n < len ∧ cs[n.toNat * te.size]? = some q := hobl
        have hr := relv_agg (h.ev hx)
        generalize hu : a.eval x = u0 at hr
        cases hr with
        | agg _ vs hl h1 hh =>
          have hlt := lt_of_getElem? o3
          have hlt' : n.toNat * te.size < vs.length := by omega
          refine .pure h hd (v := vs[n.toNat * te.size]) ?_ (.pure _ _ (hh _ q _ o3 (List.getElem?_eq_getElem hlt')))
          rw [hdesc] at u
          have h2 : 0 ≤ n ∧ n < (len : Int) := ⟨o1, o2⟩
          simp [execOp, ho, hu, ei, Instr.index, asIntOf, u, h2, szOf hT hte, part, isAggR hT hte, hag, List.getElem?_eq_getElem hlt']
      · simp [Pg.run] at hrun
    · simp [Pg.run] at hrun
  · simp [Pg.run] at hrun
end
end Go.E
