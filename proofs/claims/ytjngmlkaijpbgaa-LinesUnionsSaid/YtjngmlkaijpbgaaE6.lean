/- E6: each operation of the model does what exec1 says (third part: what is given up, stores, new variables, elements). Conditions: none. -/
import Derived.Test.YtjngmlkaijpbgaaE5
set_option linter.unusedVariables false
set_option linter.unusedSimpArgs false
namespace Go.E
open Go.RowKit
section
variable {P : Program} {E : Env} {T : Tab} {ov : Ov} {o : Oper} {σ : St} {pl : Nat → Value} {a : Act} {w : World} {eff : Eff} {log : List Nat}

def puts (hp : List (Nat × Blk)) (ups : List (Nat × Blk)) : List (Nat × Blk) := ups.foldl (fun h p => put h p.1 p.2) hp
theorem look_puts : ∀ (ups : List (Nat × Blk)) (hp : List (Nat × Blk)) (i : Nat), (∃ p ∈ ups, p.1 = i ∧ look (puts hp ups) i = some p.2) ∨ ((∀ p ∈ ups, p.1 ≠ i) ∧ look (puts hp ups) i = look hp i)
  | [], hp, i => .inr ⟨fun _ h => absurd h (by simp), rfl⟩
  | p :: ups, hp, i => by
    rcases look_puts ups (put hp p.1 p.2) i with ⟨q, hq, h1, h2⟩ | ⟨h1, h2⟩
    · exact .inl ⟨q, List.mem_cons_of_mem _ hq, h1, h2⟩
    · by_cases e : p.1 = i
      · refine .inl ⟨p, by simp, e, ?_⟩
        show look (puts (put hp p.1 p.2) ups) i = some p.2
        rw [h2, look_put, if_pos e]
      · refine .inr ⟨fun q hq => ?_, ?_⟩
        · rcases List.mem_cons.1 hq with rfl | hq
          · exact e
          · exact h1 q hq
        · show look (puts (put hp p.1 p.2) ups) i = look hp i
          rw [h2, look_put, if_neg e]
theorem puts_append (hp u1 u2 : List (Nat × Blk)) : puts hp (u1 ++ u2) = puts (puts hp u1) u2 := by simp [puts, List.foldl_append]

def GoneOf (σ : St) (ups : List (Nat × Blk)) : Prop := ∀ p ∈ ups, p.2.live = false ∧ ∃ B, look σ.hp p.1 = some B ∧ B.ver = p.2.ver
theorem RelX.giveUps (h : RelX E σ pl a w) (ups : List (Nat × Blk)) (hu : GoneOf σ ups) :
    RelX E ⟨σ.slots, puts σ.hp ups⟩ pl a w ∧ (∀ k, SS E (look σ.hp) pl w k → SS E (look (puts σ.hp ups)) pl w k) ∧ HExt (look σ.hp) pl (look (puts σ.hp ups)) pl ∧
      (∀ p ∈ ups, ∀ B, look σ.hp p.1 = some B → B.live = true → ∀ k, blkOf (pl p.1) = some k → SS E (look (puts σ.hp ups)) pl w k) := by
  have key : ∀ i C, look (puts σ.hp ups) i = some C → C.live = true → look σ.hp i = some C ∧ ∀ p ∈ ups, p.1 ≠ i := by
    intro i C hC hl
    rcases look_puts ups σ.hp i with ⟨p, hp, h1, h2⟩ | ⟨h1, h2⟩
    · rw [h2] at hC
      simp only [Option.some.injEq] at hC
      subst hC
      rw [(hu p hp).1] at hl
      cases hl
    · exact ⟨by rw [← h2]; exact hC, h1⟩
  have hE : HExt (look σ.hp) pl (look (puts σ.hp ups)) pl := by
    intro i C hC
    rcases look_puts ups σ.hp i with ⟨p, hp, h1, h2⟩ | ⟨h1, h2⟩
    · obtain ⟨hl, B, hB, hv⟩ := hu p hp
      rw [h1, hC] at hB
      simp only [Option.some.injEq] at hB
      subst hB
      exact ⟨p.2, h2, .inr ⟨hv, fun e => by rw [hl] at e; cases e⟩⟩
    · exact ⟨C, by rw [h2]; exact hC, .inr ⟨rfl, fun e => ⟨e, rfl, rfl, Nat.le_refl _⟩⟩⟩
  have hS : ∀ k, SS E (look σ.hp) pl w k → SS E (look (puts σ.hp ups)) pl w k := by
    rintro k (hk | ⟨h1, h2, h3⟩)
    · exact .inl hk
    · exact .inr ⟨h1, h2, fun i C hC hl => h3 i C (key i C hC hl).1 hl⟩
  refine ⟨h.mem _ hE hS (fun _ _ => rfl) h.below (fun i C hC => ?_) (fun i i' C C' hC hC' hl hl' hne => h.dist i i' C C' (key i C hC hl).1 (key i' C' hC' hl').1 hl hl' hne), hS, hE, fun p hp B hB hl k hk => ?_⟩
  · by_cases hl : C.live = true
    · exact (h.blks i C (key i C hC hl).1).keep hE hS (fun _ _ => rfl) (fun _ _ _ => rfl)
    · have : C.k = .gone := by
        unfold Blk.live at hl
        split at hl <;> simp_all
      simp [BlkRel, this]
  · obtain ⟨h1, h2⟩ := h.blk_lt hB hl hk
    refine .inr ⟨h1, h2, fun i C hC hl' => ?_⟩
    obtain ⟨hC', hne⟩ := key i C hC hl'
    exact h.dist p.1 i B C hB hC' hl hl' (hne p hp) k hk

/-- The cells of a part of what is built. -/
def CellsRel (S : Nat → Prop) (w : World) (cs : List AV) (v : Value) : Prop :=
  v.cells.size = cs.length ∧ (∀ u ∈ v.cells.toList, u.oneCell' = true) ∧ ∀ (j : Nat) (b : AV) (u : Value), cs[j]? = some b → v.cells[j]? = some u → RelV0 S w b u
theorem rel0_cells {S : Nat → Prop} {av : AV} {v : Value} (h : RelV0 S w av v) (hp : pureB av = true) : CellsRel S w (cellsA av) v := by
  cases h with
  | agg cs vs hl h1 hh => exact ⟨by simp [Value.cells, cellsA, hl], by simpa [Value.cells] using h1, fun j b u hb hu => hh j b u hb (by simpa [Value.cells] using hu)⟩
  | tup => simp [pureB] at hp
  | dead => simp [pureB] at hp
  | fn => simp [pureB] at hp
  | ifc => simp [pureB] at hp
  | b x => exact ⟨rfl, by simp [Value.cells, Value.oneCell'], fun j b u hb hu => by cases j with | zero => simp [cellsA, Value.cells] at hb hu; subst hb hu; exact .b _ | succ j => simp [cellsA] at hb⟩
  | i k n => exact ⟨rfl, by simp [Value.cells, Value.oneCell'], fun j b u hb hu => by cases j with | zero => simp [cellsA, Value.cells] at hb hu; subst hb hu; exact .i _ _ | succ j => simp [cellsA] at hb⟩
  | s x => exact ⟨rfl, by simp [Value.cells, Value.oneCell'], fun j b u hb hu => by cases j with | zero => simp [cellsA, Value.cells] at hb hu; subst hb hu; exact .s _ | succ j => simp [cellsA] at hb⟩
  | sl rows A cap sz u hc hm hn hsz hA h1 hh => exact ⟨rfl, by simp [Value.cells, Value.oneCell'], fun j b u' hb hu => by cases j with | zero => simp [cellsA, Value.cells] at hb hu; subst hb hu; exact .sl rows A cap sz u hc hm hn hsz hA h1 hh | succ j => simp [cellsA] at hb⟩
  | nl => exact ⟨rfl, by simp [Value.cells, Value.oneCell'], fun j b u hb hu => by cases j with | zero => simp [cellsA, Value.cells] at hb hu; subst hb hu; exact .nl | succ j => simp [cellsA] at hb⟩
  | eptr cs ad u hS hA h1 hh => exact ⟨rfl, by simp [Value.cells, Value.oneCell'], fun j b u' hb hu => by cases j with | zero => simp [cellsA, Value.cells] at hb hu; subst hb hu; exact .eptr cs ad u hS hA h1 hh | succ j => simp [cellsA] at hb⟩
  | np => exact ⟨rfl, by simp [Value.cells, Value.oneCell'], fun j b u hb hu => by cases j with | zero => simp [cellsA, Value.cells] at hb hu; subst hb hu; exact .np | succ j => simp [cellsA] at hb⟩
  | nilf => exact ⟨rfl, by simp [Value.cells, Value.oneCell'], fun j b u hb hu => by cases j with | zero => simp [cellsA, Value.cells] at hb hu; subst hb hu; exact .nilf | succ j => simp [cellsA] at hb⟩
  | nili => exact ⟨rfl, by simp [Value.cells, Value.oneCell'], fun j b u hb hu => by cases j with | zero => simp [cellsA, Value.cells] at hb hu; subst hb hu; exact .nili | succ j => simp [cellsA] at hb⟩
theorem CellsRel.mono {S S' : Nat → Prop} {w w' : World} {cs : List AV} {v : Value} (h : CellsRel S w cs v) (hS : ∀ k, S k → S' k) (hw : ∀ k, S k → w'.heap[k]? = w.heap[k]?) : CellsRel S' w' cs v :=
  ⟨h.1, h.2.1, fun j b u hb hu => (h.2.2 j b u hb hu).mono hS hw⟩
theorem live_row {B : Blk} {sz : Nat} {rows : List (List AV)} (h : B.k = .row sz rows) : B.live = true := by simp [Blk.live, h]

/-- A part, read: its cells hold in whatever state has given up what it names. -/
theorem part0_ok (h : RelX E σ pl a w) {av : AV} {v : Value} (hv : RelV (look σ.hp) pl (SS E (look σ.hp) pl w) w av v) {l : List Nat} {q : (List AV × List (Nat × Blk)) × List Nat} (hrun : (part0 av).run (look σ.hp) l = some q) :
    GoneOf σ q.1.2 ∧ ∀ (S' : Nat → Prop), (∀ k, SS E (look σ.hp) pl w k → S' k) → (∀ p ∈ q.1.2, ∀ B, look σ.hp p.1 = some B → B.live = true → ∀ k, blkOf (pl p.1) = some k → S' k) → CellsRel S' w q.1.1 v := by
  unfold part0 at hrun
  split at hrun
  · rename_i id ver
    replace hrun := getB_run hrun
    obtain ⟨B, hB, hver, hl, hrun⟩ := hrun
    split at hrun
    · rename_i sz rows hk
      simp only [Pg.run, Option.some.injEq] at hrun
      subst hrun
      have he := relv_own hv hB hver hl
      refine ⟨fun p hp => ?_, fun S' hS' hg => ?_⟩
      · simp only [List.mem_singleton] at hp
        subst hp
        exact ⟨rfl, B, hB, rfl⟩
      · have hr := row_sl (S' := S') (h.blks id B hB) hk hS' (hg (id, { B with k := .gone }) (by simp) B hB hl)
        rw [← he] at hr
        exact rel0_cells hr rfl
    · simp [Pg.run] at hrun
  · replace hrun := chk_run hrun
    obtain ⟨hc, hrun⟩ := hrun
    simp only [Pg.run, Option.some.injEq] at hrun
    subst hrun
    exact ⟨fun p hp => absurd hp (by simp), fun S' hS' _ => (rel0_cells (relv_pure hv hc) hc).mono hS' (fun _ _ => rfl)⟩

theorem run_store1 {t : TypeId} {ti : TI} (hT : TabOk P T) (ht : look T t = some ti) {g off : Nat} {v : Value} {cur : Array Value} {ty : TypeId} (hg : w.heap[g]? = some (.cells cur ty (0, 0)))
    (hs : v.cells.size = ti.size) (hfit : off + ti.size ≤ cur.size) (h1 : ∀ u ∈ v.cells.toList, u.oneCell' = true) :
    (Instr.storeAt t (.pointer (some ⟨g, off, none⟩)) v).run P w = .ok () (w.setRow g (cur.toList.take off ++ v.cells.toList ++ cur.toList.drop (off + ti.size)).toArray) := by
  have hst := run_storeCells_at P g off ty v.cells.toList 0 cur w hg (by simp [hs]; exact hfit) h1
  simp only [Nat.add_zero, Array.length_toList, hs] at hst
  simp [Instr.storeAt, Instr.sureAddr, storeVar, szOf hT ht, hs, hst]

theorem wp_skip_ok {σ' : St} {w' : World} {t : TypeId} {x y : Operand} (ho : o.op = .store t x y) (hr : (Instr.storeAt t (a.eval x) (a.eval y)).run P w = .ok () w') (h : Rel E σ' (a.put o.dst undef) w') : Ok P E o a w σ' :=
  .skip (by simp only [execOp, ho, Sem.run_bind, hr]; rfl) h

/-- Writing over cells from off on. -/
theorem splice_get {α : Type} (cur : List α) (vs : List α) (off : Nat) (hfit : off + vs.length ≤ cur.length) (j : Nat) :
    (cur.take off ++ vs ++ cur.drop (off + vs.length))[j]? = if j < off then cur[j]? else if j < off + vs.length then vs[j - off]? else cur[j]? := by
  have hlt : (cur.take off).length = off := by simp; omega
  by_cases h1 : j < off
  · rw [if_pos h1, List.append_assoc, List.getElem?_append_left (by omega), List.getElem?_take, if_pos h1]
  · rw [if_neg h1]
    by_cases h2 : j < off + vs.length
    · rw [if_pos h2, List.getElem?_append_left (by simp; omega), List.getElem?_append_right (by omega), hlt]
    · rw [if_neg h2, List.getElem?_append_right (by simp; omega), List.getElem?_drop]
      congr 1
      simp
      omega
theorem splice_len {α : Type} (cur : List α) (vs : List α) (off : Nat) (hfit : off + vs.length ≤ cur.length) : (cur.take off ++ vs ++ cur.drop (off + vs.length)).length = cur.length := by simp; omega

theorem undef_rel {S : Nat → Prop} : RelV0 S w undefA undef := .tup [] [] rfl (fun j a u ha => by simp at ha)

/-- A store into a block of one's own, its version kept. -/
theorem RelX.upd (h : RelX E σ pl a w) {id : Nat} {B B' : Blk} (hB : look σ.hp id = some B) (hl : B.live = true) (hver : B'.ver = B.ver) (hoff : B'.off = B.off) (hlen : B.len ≤ B'.len) {g : Nat} (hg : blkOf (pl id) = some g) (cs : Array Value)
    (hrel : BlkRel E.w0.heap.size (look σ.hp) pl (SS E (look σ.hp) pl w) (w.setRow g cs) (pl id) B') :
    RelX E ⟨σ.slots, Go.E.put σ.hp id B'⟩ pl a (w.setRow g cs) := by
  have := (h.chg (w' := w.setRow g cs) id B' (pl id) (.inr ⟨B, hB, hl, hver.symm, hoff.symm, rfl, hlen⟩)
    (fun k hk hne => by rw [setRow_other]; intro e; subst e; exact hne B hB hl hg) rfl rfl rfl (by simp) (fun k hk => .inr ⟨B, hB, hl, hk⟩) hrel).1
  have e : setPl pl id (pl id) = pl := by funext i; unfold setPl; split <;> simp_all
  rwa [e] at this
/-- Nothing that one does not write has turned. -/
theorem RelX.setRow_keep (h : RelX E σ pl a w) {id : Nat} {B : Blk} (hB : look σ.hp id = some B) (hl : B.live = true) {g : Nat} (hg : blkOf (pl id) = some g) (cs : Array Value) : ∀ k, SS E (look σ.hp) pl w k → (w.setRow g cs).heap[k]? = w.heap[k]? := by
  intro k hk
  rw [setRow_other]
  intro e
  subst e
  rcases hk with hk | ⟨_, _, h3⟩
  · have := (h.blk_lt hB hl hg).1
    have := E.hS0 k hk
    omega
  · exact h3 id B hB hl hg

theorem cells_of_rel {hp : Nat → Option Blk} {S : Nat → Prop} {av : AV} {v : Value} (hr : RelV hp pl S w av v) (hone : boxB av = true) :
    v.cells.size = (cellsA av).length ∧ (∀ u ∈ v.cells.toList, u.oneCell' = true) ∧ ∀ (j : Nat) (b : AV) (u : Value), (cellsA av)[j]? = some b → v.cells[j]? = some u → RelV hp pl S w b u := by
  by_cases hag : ∃ cs, av = .agg cs
  · obtain ⟨cs, rfl⟩ := hag
    obtain ⟨h1, h2, h3⟩ := rel0_cells (relv_agg hr) rfl
    exact ⟨h1, h2, fun j b u hb hu => .pure _ _ (h3 j b u hb hu)⟩
  · have hone' : oneB av = true := by
      cases av <;> first | exact hone | exact absurd ⟨_, rfl⟩ hag
    have e1 : cellsA av = [av] := by cases av <;> first | rfl | exact absurd ⟨_, rfl⟩ hag
    have ho1 := relv_one hr hone'
    have e2 : v.cells = #[v] := by
      cases v <;> first | rfl | (simp [Value.oneCell'] at ho1)
    rw [e1, e2]
    refine ⟨rfl, by simpa using ho1, fun j b u hb hu => ?_⟩
    cases j with
    | zero => simp at hb hu; subst hb; subst hu; exact hr
    | succ j => simp at hb

theorem ok_store (hT : TabOk P T) (h : RelX E σ pl a w) (hd : ∀ q, o.dst = some q → q < E.nt) (t : TypeId) (x y : Operand) (ho : o.op = .store t x y)
    (hrun : (exec1 P T ov o σ.ev).run (look σ.hp) [] = some (eff, log)) (hobl : All eff.obl) : Ok P E o a w (σ.app o.dst eff) := by
  simp only [exec1, ho] at hrun
  split at hrun
  · rename_i id ver r c ti av hx ht hy
    replace hrun := getB_run hrun
    obtain ⟨B, hB, hv, hl, hrun⟩ := hrun
    obtain ⟨g, hg, he⟩ := relv_ptr (h.ev hx) hB hv hl
    have hry := h.ev hy
    split at hrun
    · -- a variable
      rename_i cells hk
      obtain ⟨g', vs, hp1, hp2, hp3, hp4, hp5⟩ := h.varCell hB hk
      have hgg : g' = g := by rw [hp1] at hg; simpa [blkOf] using hg
      subst hgg
      replace hrun := chk_run hrun
      obtain ⟨hc, hrun⟩ := hrun
      simp only [Bool.and_eq_true, beq_iff_eq] at hc
      obtain ⟨⟨⟨hr0, hone⟩, hlen⟩, hfit⟩ := hc
      have hfit := Nat.le_of_ble_eq_true hfit
      simp only [Pg.run, Option.some.injEq, Prod.mk.injEq] at hrun
      obtain ⟨rfl, _⟩ := hrun
      have hoff : B.off r c = c := by simp [Blk.off, hk, hr0]
      have hcv := cells_of_rel hry hone
      obtain ⟨c1, c2, c3⟩ := hcv
      have hfit' : c + (a.eval y).cells.toList.length ≤ vs.toList.length := by simp [hp3]; omega
      have hrow : (Instr.storeAt t (a.eval x) (a.eval y)).run P w = .ok () (w.setRow g' (vs.toList.take c ++ (a.eval y).cells.toList ++ vs.toList.drop (c + ti.size)).toArray) := by
        rw [he, hoff]
        exact run_store1 hT ht hp2 (by omega) (by omega) c2
      have hsize : ti.size = (a.eval y).cells.toList.length := by simp; omega
      have hk' : ∀ k, SS E (look σ.hp) pl w k → (w.setRow g' (vs.toList.take c ++ (a.eval y).cells.toList ++ vs.toList.drop (c + ti.size)).toArray).heap[k]? = w.heap[k]? := h.setRow_keep hB hl hg _
      have hu := h.upd (B' := { B with k := .var (cells.take c ++ cellsA av ++ cells.drop (c + ti.size)) }) hB hl rfl (by funext r c; simp [Blk.off, hk]) (by simp [Blk.len, hk]; omega) hg
        (vs.toList.take c ++ (a.eval y).cells.toList ++ vs.toList.drop (c + ti.size)).toArray (by
          have hlc : (cellsA av).length = (a.eval y).cells.toList.length := by simp; omega
          refine ⟨g', _, hp1, (h.blk_lt hB hl hg).1, setRow_heap w g' vs _ B.ty (0, 0) hp2, ?_, ?_, fun j b u hb hu => ?_⟩
          · simp only [List.size_toArray]
            rw [hsize, splice_len _ _ _ hfit', ← hlc, splice_len _ _ _ (by rw [hlc]; omega)]
            simp [hp3]
          · intro u hu
            simp only [List.mem_append] at hu
            rcases hu with (hu | hu) | hu
            · exact hp4 u (List.mem_of_mem_take hu)
            · exact c2 u hu
            · exact hp4 u (List.mem_of_mem_drop hu)
          · simp only [List.getElem?_toArray] at hu
            rw [hsize, splice_get _ _ _ hfit'] at hu
            rw [hsize, ← hlc, splice_get _ _ _ (by rw [hlc]; omega), hlc] at hb
            have hmono : ∀ b u, RelV (look σ.hp) pl (SS E (look σ.hp) pl w) w b u → RelV (look σ.hp) pl (SS E (look σ.hp) pl w) _ b u := fun b u hr => hr.mono (HExt.refl _ _) (fun _ hk => hk) hk'
            by_cases h1 : j < c
            · rw [if_pos h1] at hb hu
              exact hmono _ _ (hp5 j b u hb (by simpa using hu))
            · rw [if_neg h1] at hb hu
              by_cases h2 : j < c + (a.eval y).cells.toList.length
              · rw [if_pos h2] at hb hu
                exact hmono _ _ (c3 _ b u hb (by simpa using hu))
              · rw [if_neg h2] at hb hu
                exact hmono _ _ (hp5 j b u hb (by simpa using hu)))
      exact wp_skip_ok ho hrow ⟨pl, hu.put o.dst hd (.pure _ _ undef_rel)⟩
    · -- an array
      rename_i cells hk
      split at hrun
      · rename_i cs
        replace hrun := chk_run hrun
        obtain ⟨hc, hrun⟩ := hrun
        simp only [Bool.and_eq_true, beq_iff_eq] at hc
        obtain ⟨rfl, rfl⟩ := hc
        simp only [Pg.run, Option.some.injEq, Prod.mk.injEq] at hrun
        obtain ⟨rfl, _⟩ := hrun
        have hl1 : cs.length = cells.length := hobl.1
        have hl2 : cs.length = ti.size := hobl.2
        obtain ⟨g', vs, hp1, hp2, hp3, hp4, hp5⟩ := h.arrCell hB hk
        have hgg : g' = g := by rw [hp1] at hg; simpa [blkOf] using hg
        subst hgg
        obtain ⟨c1, c2, c3⟩ := rel0_cells (relv_agg hry) rfl
        simp only [cellsA] at c1 c3
        have hoff : B.off 0 0 = 0 := by simp [Blk.off, hk]
        have hall : vs.toList.take 0 ++ (a.eval y).cells.toList ++ vs.toList.drop (0 + ti.size) = (a.eval y).cells.toList := by
          rw [List.take_zero, List.nil_append, List.drop_of_length_le (by simp; omega), List.append_nil]
        have hrow : (Instr.storeAt t (a.eval x) (a.eval y)).run P w = .ok () (w.setRow g' (a.eval y).cells.toList.toArray) := by
          rw [he, hoff]
          rw [run_store1 hT ht hp2 (by omega) (by omega) c2, hall]
        have hk' := h.setRow_keep hB hl hg (a.eval y).cells.toList.toArray
        have hu := h.upd (B' := { B with k := .arr cs }) hB hl rfl (by funext r c; simp [Blk.off, hk]) (by simp [Blk.len, hk, hl1]) hg (a.eval y).cells.toList.toArray
          ⟨g', _, hp1, (h.blk_lt hB hl hg).1, setRow_heap w g' vs _ B.ty (0, 0) hp2, by simp; omega, by simpa using c2, fun j b u hb hu => (c3 j b u hb (by simpa using hu)).mono (fun _ hk => hk) hk'⟩
        exact wp_skip_ok ho hrow ⟨pl, hu.put o.dst hd (.pure _ _ undef_rel)⟩
      · replace hrun := chk_run hrun
        obtain ⟨hs1, hrun⟩ := hrun
        have hs1 : ti.size = 1 := by simpa using hs1
        rw [Pg.run_bind] at hrun
        cases hp : (part0 av).run (look σ.hp) [id] with
        | none => rw [hp] at hrun; simp at hrun
        | some q =>
          rw [hp] at hrun
          simp only [Option.bind_some] at hrun
          replace hrun := chk_run hrun
          obtain ⟨hne, hrun⟩ := hrun
          simp only [Pg.run, Option.some.injEq, Prod.mk.injEq] at hrun
          obtain ⟨rfl, _⟩ := hrun
          obtain ⟨hgone, hcr⟩ := part0_ok h hry hp
          obtain ⟨h', hSS, hE', hfree⟩ := h.giveUps _ hgone
          obtain ⟨c1, c2, c3⟩ := hcr _ hSS hfree
          have hB' : look (puts σ.hp q.1.2) id = some B := by
            rcases look_puts q.1.2 σ.hp id with ⟨p, hp', h1, _⟩ | ⟨_, h2⟩
            · have := List.all_eq_true.1 hne p hp'
              simp [h1] at this
            · rw [h2]; exact hB
          obtain ⟨g', vs, hp1, hp2, hp3, hp4, hp5⟩ := h'.arrCell hB' hk
          have hgg : g' = g := by rw [hp1] at hg; simpa [blkOf] using hg
          subst hgg
          have ho1 : r + c < cells.length := All.mem hobl _ (by simp)
          have ho2 : q.1.1 = [q.1.1.headD .dead] := All.mem hobl _ (by simp)
          have hcs' := arrNew_eq (ov := ov) (d := cells.set (r + c) (q.1.1.headD .dead)) (fun p hp => All.mem hobl p (List.mem_append_right _ hp))
          generalize arrNew ov (cells.set (r + c) (q.1.1.headD .dead)) = cs' at *
          have hoff : B.off r c = r + c := by simp [Blk.off, hk]
          have hfit' : r + c + (a.eval y).cells.toList.length ≤ vs.toList.length := by simp; rw [ho2] at c1; simp at c1; omega
          have hsize : ti.size = (a.eval y).cells.toList.length := by rw [ho2] at c1; simp at c1; simp; omega
          have hrow : (Instr.storeAt t (a.eval x) (a.eval y)).run P w = .ok () (w.setRow g' (vs.toList.take (r + c) ++ (a.eval y).cells.toList ++ vs.toList.drop (r + c + ti.size)).toArray) := by
            rw [he, hoff]
            exact run_store1 hT ht hp2 (by simpa using hsize.symm) (by omega) c2
          have hk' := h'.setRow_keep hB' hl hg (vs.toList.take (r + c) ++ (a.eval y).cells.toList ++ vs.toList.drop (r + c + ti.size)).toArray
          have hu := h'.upd (B' := { B with k := .arr cs' }) hB' hl rfl (by funext r c; simp [Blk.off, hk]) (by simp [Blk.len, hk, hcs']) hg (vs.toList.take (r + c) ++ (a.eval y).cells.toList ++ vs.toList.drop (r + c + ti.size)).toArray (by
            refine ⟨g', _, hp1, (h.blk_lt hB hl hg).1, setRow_heap w g' vs _ B.ty (0, 0) hp2, ?_, ?_, fun j b u hb hu => ?_⟩
            · simp only [List.size_toArray]
              rw [hsize, splice_len _ _ _ hfit', hcs']
              simp [hp3]
            · intro u hu
              simp only [List.mem_append] at hu
              rcases hu with (hu | hu) | hu
              · exact hp4 u (List.mem_of_mem_take hu)
              · exact c2 u hu
              · exact hp4 u (List.mem_of_mem_drop hu)
            · simp only [List.getElem?_toArray] at hu
              rw [hsize, splice_get _ _ _ hfit'] at hu
              have hl1 : (a.eval y).cells.toList.length = 1 := by omega
              rw [hcs', List.getElem?_set] at hb
              by_cases h1 : j < r + c
              · rw [if_pos h1] at hu
                rw [if_neg (by omega)] at hb
                exact (hp5 j b u hb (by simpa using hu)).mono (fun _ hk => hk) hk'
              · rw [if_neg h1, hl1] at hu
                by_cases h2 : j < r + c + 1
                · rw [if_pos h2] at hu
                  have e : j = r + c := by omega
                  subst e
                  rw [if_pos rfl, if_pos ho1] at hb
                  rw [ho2] at c3
                  exact (c3 0 b u (by simpa using hb) (by simpa using hu)).mono (fun _ hk => hk) hk'
                · rw [if_neg h2] at hu
                  rw [if_neg (by omega)] at hb
                  exact (hp5 j b u hb (by simpa using hu)).mono (fun _ hk => hk) hk')
          refine wp_skip_ok ho hrow ⟨pl, ?_⟩
          have := hu.put o.dst hd (av := undefA) (v := undef) (.pure _ _ undef_rel)
          unfold St.app
          have e : (q.1.2 ++ [(id, ({ B with k := .arr cs' } : Blk))]).foldl (fun h p => Go.E.put h p.1 p.2) σ.hp = Go.E.put (puts σ.hp q.1.2) id { B with k := .arr cs' } := by
            rw [List.foldl_append]; rfl
          rw [e]
          exact this
    · -- a row
      rename_i sz rows hk
      rw [Pg.run_bind] at hrun
      cases hp : (part0 av).run (look σ.hp) [id] with
      | none => rw [hp] at hrun; simp at hrun
      | some q =>
        rw [hp] at hrun
        simp only [Option.bind_some] at hrun
        replace hrun := chk_run hrun
        obtain ⟨hne, hrun⟩ := hrun
        simp only [Pg.run, Option.some.injEq, Prod.mk.injEq] at hrun
        obtain ⟨rfl, _⟩ := hrun
        obtain ⟨hgone, hcr⟩ := part0_ok h hry hp
        obtain ⟨h', hSS, hE', hfree⟩ := h.giveUps _ hgone
        obtain ⟨c1, c2, c3⟩ := hcr _ hSS hfree
        have hB' : look (puts σ.hp q.1.2) id = some B := by
          rcases look_puts q.1.2 σ.hp id with ⟨p, hp', h1, _⟩ | ⟨_, h2⟩
          · have := List.all_eq_true.1 hne p hp'
            simp [h1] at this
          · rw [h2]; exact hB
        obtain ⟨hsz, xs, hown, hx1, hx2⟩ := h'.rowCell hB' hk
        have ho1 : rows[r]? = some ov.row := All.mem hobl _ (by simp)
        have ho2 : q.1.1.length = ti.size := All.mem hobl _ (by simp)
        have ho3 : c + ti.size ≤ sz := All.mem hobl _ (by simp)
        have hcs' := rowsNew_eq (ov := ov) (d := rows.set r (ov.row.take c ++ q.1.1 ++ ov.row.drop (c + ti.size))) (fun p hp => All.mem hobl p (List.mem_append_right _ hp))
        generalize rowsNew ov (rows.set r (ov.row.take c ++ q.1.1 ++ ov.row.drop (c + ti.size))) = rows' at *
        have hoff : B.off r c = r * sz + c := by simp [Blk.off, hk]
        have hrlt := lt_of_getElem? ho1
        have hrl := hsz _ (List.mem_of_getElem? ho1)
        have hmul : (r + 1) * sz ≤ rows.length * sz := Nat.mul_le_mul_right _ hrlt
        rw [Nat.add_mul, Nat.one_mul] at hmul
        rcases hown.2 with ⟨e0, h0⟩ | ⟨g', cap, cur, epl, hgb, hheap, hnc, hcm, hcs, hcur⟩
        · omega
        · have hgg : g' = g := by rw [epl] at hg; simpa [blkOf] using hg
          subst hgg
          have hcapm : rows.length * sz ≤ cap * sz := Nat.mul_le_mul_right _ hnc
          have hvl : (a.eval y).cells.toList.length = ti.size := by simp; omega
          have hfit' : r * sz + c + (a.eval y).cells.toList.length ≤ cur.toList.length := by simp only [Array.length_toList]; rw [hcs]; simp only [Array.length_toList] at hvl; omega
          have hrow : (Instr.storeAt t (a.eval x) (a.eval y)).run P w = .ok () (w.setRow g' (cur.toList.take (r * sz + c) ++ (a.eval y).cells.toList ++ cur.toList.drop (r * sz + c + ti.size)).toArray) := by
            rw [he, hoff]
            exact run_store1 hT ht hheap (by simpa using hvl) (by rw [hcs]; omega) c2
          have hk' := h'.setRow_keep hB' hl hg (cur.toList.take (r * sz + c) ++ (a.eval y).cells.toList ++ cur.toList.drop (r * sz + c + ti.size)).toArray
          have hrow'l : ∀ z ∈ rows', z.length = sz := by
            intro z hz
            rw [hcs'] at hz
            rcases List.mem_or_eq_of_mem_set hz with hz | rfl
            · exact hsz z hz
            · simp only [List.length_append, List.length_take, List.length_drop]
              omega
          have hxsl := hown.1
          have hxcur : ∀ j, j < rows.length * sz → cur.toList[j]? = xs[j]? := fun j hj => by rw [← hcur, List.getElem?_take, if_pos hj]
          have hu := h'.upd (B' := { B with k := .row sz rows' }) hB' hl rfl (by funext r c; simp [Blk.off, hk]) (by simp [Blk.len, hk, hcs']) hg (cur.toList.take (r * sz + c) ++ (a.eval y).cells.toList ++ cur.toList.drop (r * sz + c + ti.size)).toArray (by
            rw [← hvl] at hk' ⊢
            have hlen' : rows'.length = rows.length := by rw [hcs']; simp
            refine ⟨hrow'l, (cur.toList.take (r * sz + c) ++ (a.eval y).cells.toList ++ cur.toList.drop (r * sz + c + (a.eval y).cells.toList.length)).take (rows.length * sz), ⟨?_, .inr ⟨g', cap, _, ?_, hgb, setRow_heap w g' cur _ B.ty (0, 0) hheap, ?_, hcm, ?_, ?_⟩⟩, fun u hu => ?_, fun j b u hb hu => ?_⟩
            · rw [hlen', List.length_take, splice_len _ _ _ hfit']; simp only [Array.length_toList]; rw [hcs]; omega
            · rw [hlen']; exact epl
            · rw [hlen']; exact hnc
            · simp only [List.size_toArray]; rw [splice_len _ _ _ hfit']; simpa using hcs
            · rw [hlen']
            · obtain ⟨j, hj⟩ := List.mem_iff_getElem?.1 hu
              rw [List.getElem?_take] at hj
              split at hj
              · rename_i hjlt
                rw [splice_get _ _ _ hfit'] at hj
                split at hj
                · rw [hxcur j hjlt] at hj; exact hx1 u (List.mem_of_getElem? hj)
                · split at hj
                  · exact c2 u (List.mem_of_getElem? hj)
                  · rw [hxcur j hjlt] at hj; exact hx1 u (List.mem_of_getElem? hj)
              · cases hj
            · have hjlt : j < rows.length * sz := by
                have := lt_of_getElem? hb
                rw [flatten_len hrow'l, hlen'] at this
                exact this
              rw [List.getElem?_take, if_pos hjlt, splice_get _ _ _ hfit'] at hu
              have hs0 : 0 < sz := by
                rcases Nat.eq_zero_or_pos sz with e | e
                · rw [e] at hjlt; omega
                · exact e
              have hj1 : j / sz < rows.length := by rw [Nat.div_lt_iff_lt_mul hs0]; exact hjlt
              have hj2 : j % sz < sz := Nat.mod_lt _ hs0
              have hj3 : j = j / sz * sz + j % sz := by rw [Nat.mul_comm, Nat.div_add_mod]
              have hr' : rows'[j / sz]? = some rows'[j / sz] := List.getElem?_eq_getElem (by omega)
              have hget := flatten_get hrow'l hr' hj2
              rw [← hj3, hb] at hget
              have hold : ∀ (z : List AV), rows[j / sz]? = some z → z[j % sz]? = some b → ∀ u, xs[j]? = some u → RelV0 (SS E (look (puts σ.hp q.1.2)) pl w) w b u := by
                intro z hz hzb u hu
                have h2 := flatten_get hsz hz hj2
                rw [← hj3, hzb] at h2
                exact hx2 j b u h2 hu
              have hrw : rows'[j / sz]? = if r = j / sz then some (ov.row.take c ++ q.1.1 ++ ov.row.drop (c + ti.size)) else rows[j / sz]? := by
                rw [hcs', List.getElem?_set]
                by_cases e : r = j / sz
                · rw [if_pos e, if_pos e, if_pos hrlt]
                · rw [if_neg e, if_neg e]
              rw [hrw] at hr'
              by_cases e : r = j / sz
              · rw [if_pos e] at hr'
                simp only [Option.some.injEq] at hr'
                rw [← hr', ← ho2, splice_get _ _ _ (by omega)] at hget
                have hj4 : r * sz + j % sz = j := by rw [e]; exact hj3.symm
                by_cases h1 : j % sz < c
                · rw [if_pos h1] at hget
                  rw [if_pos (by omega), hxcur j hjlt] at hu
                  exact (hold ov.row (by rw [← e]; exact ho1) hget.symm u hu).mono (fun _ hk => hk) hk'
                · rw [if_neg h1] at hget
                  rw [if_neg (by omega)] at hu
                  by_cases h2 : j % sz < c + q.1.1.length
                  · rw [if_pos h2] at hget
                    rw [if_pos (by omega)] at hu
                    refine (c3 (j % sz - c) b u hget.symm ?_).mono (fun _ hk => hk) hk'
                    have e5 : j - (r * sz + c) = j % sz - c := by omega
                    rw [e5] at hu
                    simpa using hu
                  · rw [if_neg h2] at hget
                    rw [if_neg (by omega), hxcur j hjlt] at hu
                    exact (hold ov.row (by rw [← e]; exact ho1) hget.symm u hu).mono (fun _ hk => hk) hk'
              · rw [if_neg e] at hr'
                have hout : j < r * sz + c ∨ r * sz + c + (a.eval y).cells.toList.length ≤ j := by
                  rcases Nat.lt_or_gt_of_ne e with hlt | hgt
                  · right
                    have : (r + 1) * sz ≤ j / sz * sz := Nat.mul_le_mul_right _ hlt
                    rw [Nat.add_mul] at this
                    omega
                  · left
                    have : (j / sz + 1) * sz ≤ r * sz := Nat.mul_le_mul_right _ hgt
                    rw [Nat.add_mul] at this
                    omega
                have hu' : xs[j]? = some u := by
                  rw [← hxcur j hjlt]
                  rcases hout with ho | ho
                  · rw [if_pos ho] at hu; exact hu
                  · rw [if_neg (by omega), if_neg (by omega)] at hu; exact hu
                exact (hold _ hr' hget.symm u hu').mono (fun _ hk => hk) hk')
          refine wp_skip_ok ho hrow ⟨pl, ?_⟩
          have := hu.put o.dst hd (av := undefA) (v := undef) (.pure _ _ undef_rel)
          unfold St.app
          have e : (q.1.2 ++ [(id, ({ B with k := .row sz rows' } : Blk))]).foldl (fun h p => Go.E.put h p.1 p.2) σ.hp = Go.E.put (puts σ.hp q.1.2) id { B with k := .row sz rows' } := by
            rw [List.foldl_append]; rfl
          rw [e]
          exact this
    · simp [Pg.run] at hrun
  · simp [Pg.run] at hrun
end
end Go.E
