/- EC: each operation of the model does what exec1 says (ninth part: pieces, copies, bytes as a text). Conditions: none. -/
import Derived.Test.YtjngmlkaijpbgaaEB
set_option linter.unusedVariables false
set_option linter.unusedSimpArgs false
namespace Go.E
open Go.RowKit
section
variable {P : Program} {E : Env} {T : Tab} {ov : Ov} {o : Oper} {σ : St} {pl : Nat → Value} {a : Act} {w : World} {eff : Eff} {log : List Nat}

/-- A bound that is given, or not. -/
def BoundIs (v : Option Value) (n : Option Int) : Prop := match n with | none => v = none | some n => ∃ k, v = some (.int k n)
theorem run_bounds (isS : Bool) (len cap : Nat) (lo hi : Option Value) (l : Int) (h : Option Int) (hlo : BoundIs lo (some l) ∨ (lo = none ∧ l = 0)) (hhi : BoundIs hi h) (h0 : 0 ≤ l) (h1 : l ≤ h.getD len) (h2 : h.getD len ≤ cap) (h3 : len ≤ cap) :
    (Instr.sliceBounds isS len cap lo hi none).run P w = .ok (l.toNat, (h.getD len).toNat, cap) w := by
  cases h with
  | none =>
    simp only [BoundIs] at hhi
    subst hhi
    simp only [Option.getD_none] at h1 h2
    rcases hlo with ⟨k, rfl⟩ | ⟨rfl, rfl⟩
    · simp [Instr.sliceBounds, Instr.sliceBound, asIntOf, h0, h1]
    · simp [Instr.sliceBounds]
  | some n =>
    obtain ⟨k', rfl⟩ := hhi
    simp only [Option.getD_some] at h1 h2
    have hn : 0 ≤ n := by omega
    have e : ((n.toNat : Nat) : Int) = n := by omega
    rcases hlo with ⟨k, rfl⟩ | ⟨rfl, rfl⟩
    · simp [Instr.sliceBounds, Instr.sliceBound, asIntOf, h0, h1, h2, hn, e]
    · simp [Instr.sliceBounds, Instr.sliceBound, asIntOf, h2, hn]

theorem bound_lo (h : RelX E σ pl a w) {lo : Option Operand} {l : Int} (hl : (match lo with | none => some 0 | some q => (match σ.ev q with | some (.i _ n) => some n | _ => none)) = some l) : BoundIs (lo.map a.eval) (some l) ∨ (lo.map a.eval = none ∧ l = 0) := by
  cases lo with
  | none =>
    simp only [Option.some.injEq] at hl
    exact .inr ⟨rfl, hl.symm⟩
  | some q =>
    simp only at hl
    split at hl
    · rename_i k n hq
      simp only [Option.some.injEq] at hl
      subst hl
      exact .inl ⟨k, by simp [relv_toV (h.ev hq) rfl]⟩
    · cases hl
theorem bound_hi (h : RelX E σ pl a w) {hi : Option Operand} {n : Option Int} (hl : (match hi with | none => some none | some q => (match σ.ev q with | some (.i _ n) => some (some n) | _ => none)) = some n) : BoundIs (hi.map a.eval) n := by
  cases hi with
  | none =>
    simp only [Option.some.injEq] at hl
    subst hl
    rfl
  | some q =>
    simp only at hl
    split at hl
    · rename_i k m hq
      simp only [Option.some.injEq] at hl
      subst hl
      exact ⟨k, by simp [relv_toV (h.ev hq) rfl]⟩
    · cases hl

theorem take_flat {α : Type} {sz : Nat} {rows : List (List α)} (h : ∀ r ∈ rows, r.length = sz) (m : Nat) (hm : m ≤ rows.length) : (rows.take m).flatten = rows.flatten.take (m * sz) := by
  have e2 := flatten_len (sz := sz) (rows := rows.take m) (fun r hr => h r (List.mem_of_mem_take hr))
  rw [List.length_take, Nat.min_eq_left hm] at e2
  have e3 : rows.flatten = (rows.take m).flatten ++ (rows.drop m).flatten := by rw [← List.flatten_append, List.take_append_drop]
  rw [e3, ← e2, List.take_left]
theorem ok_slice (hT : TabOk P T) (h : RelX E σ pl a w) (hd : ∀ q, o.dst = some q → q < E.nt) (t : TypeId) (x : Operand) (lo hi mx : Option Operand) (ho : o.op = .slice t x lo hi mx)
    (hrun : (exec1 P T ov o σ.ev).run (look σ.hp) [] = some (eff, log)) (hobl : All eff.obl) : Ok P E o a w (σ.app o.dst eff) := by
  simp only [exec1, ho] at hrun
  split at hrun
  · rename_i ti av ht hx
    have u := und hT ht w
    have hrx := h.ev hx
    split at hrun
    · -- a text
      rename_i l n z hl hn hdesc
      simp only [Pg.run, Option.some.injEq, Prod.mk.injEq] at hrun
      obtain ⟨rfl, _⟩ := hrun
      obtain ⟨o1, o2, o3⟩ : 0 ≤ l ∧ l ≤ n.getD z.size ∧ n.getD z.size ≤ z.size := hobl
      have hb := run_bounds (P := P) (w := w) false z.size z.size _ _ l n (bound_lo h hl) (bound_hi h hn) o1 o2 o3 (Nat.le_refl _)
      have e := relv_toV hrx rfl
      rw [hdesc] at u
      refine .pure h hd (v := .string (z.extract l.toNat (n.getD z.size).toNat)) ?_ (.pure _ _ (.s _))
      simp [execOp, ho, Instr.sliceAt, Instr.slice, u, e, hb]
    · -- a slice that nobody writes
      rename_i l n e rows hl hn hdesc
      split at hrun
      · rename_i te hte
        simp only [Pg.run, Option.some.injEq, Prod.mk.injEq] at hrun
        obtain ⟨rfl, _⟩ := hrun
        obtain ⟨o1, o2, o3, o4⟩ : 0 ≤ l ∧ l ≤ n.getD rows.length ∧ n.getD rows.length ≤ rows.length ∧ ∀ r ∈ rows, r.length = te.size := hobl
        have hr := relv_sl hrx
        generalize hu : a.eval x = u0 at hr
        cases hr with
        | sl _ A cap sz us hc hm hnn hsz hA h1 hh =>
          have hb := run_bounds (P := P) (w := w) true rows.length cap _ _ l n (bound_lo h hl) (bound_hi h hn) o1 o2 (by omega) hc
          rw [hdesc] at u
          have hlen : ((rows.take (n.getD rows.length).toNat).drop l.toNat).length = (n.getD rows.length).toNat - l.toNat := by simp; omega
          have hgetr : ∀ (j : Nat) (r : List AV), ((rows.take (n.getD rows.length).toNat).drop l.toNat)[j]? = some r → rows[l.toNat + j]? = some r := by
            intro j r hr
            rw [List.getElem?_drop, List.getElem?_take] at hr
            split at hr
            · exact hr
            · cases hr
          refine .pure h hd (v := .slice (if cap = l.toNat then A else A.map (·.add (l.toNat * te.size))) ((rows.take (n.getD rows.length).toNat).drop l.toNat).length (cap - l.toNat)) ?_ (.pure _ _ ?_)
          · rw [hlen]
            simp [execOp, ho, Instr.sliceAt, Instr.slice, u, hu, hb, szOf hT hte]
          · refine .sl _ _ _ sz (fun j q => us (l.toNat + j) q) (by rw [hlen]; omega) (by rw [hlen]; omega) (fun e => ?_) (fun r hr => hsz r (List.mem_of_mem_take (List.mem_of_mem_drop hr))) (fun h0 => ?_) (fun j q => h1 _ _) (fun j q r b hr hb => hh _ q r b (hgetr j r hr) hb)
            · split at e
              · omega
              · cases A with
                | none => have := hnn rfl; omega
                | some ad => cases e
            · rw [hlen] at h0
              have hne : ¬ cap = l.toNat := by omega
              obtain ⟨ad, rfl, hS, hcell⟩ := hA (by omega)
              refine ⟨ad.add (l.toNat * te.size), by rw [if_neg hne]; rfl, by rw [add_block]; exact hS, fun j q hj hq => ?_⟩
              rw [hlen] at hj
              have h0' : 0 < rows.length := by omega
              have hm := List.getElem_mem h0'
              have hse : sz = te.size := by rw [← hsz _ hm, o4 _ hm]
              rw [add_add', ← hse, show l.toNat * sz + (j * sz + q) = (l.toNat + j) * sz + q from by rw [Nat.add_mul, Nat.add_assoc]]
              exact hcell _ q (by omega) hq
      · simp [Pg.run] at hrun
    · -- the nil slice
      rename_i l n e hl hn hdesc
      simp only [Pg.run, Option.some.injEq, Prod.mk.injEq] at hrun
      obtain ⟨rfl, _⟩ := hrun
      obtain ⟨rfl, o2, o3⟩ : l = 0 ∧ n.getD 0 = 0 ∧ (look T e).isSome = true := hobl
      obtain ⟨te, hte⟩ := Option.isSome_iff_exists.1 o3
      have e0 : a.eval x = .slice none 0 0 := relv_nl hrx
      have hb := run_bounds (P := P) (w := w) true 0 0 _ _ 0 n (bound_lo h hl) (bound_hi h hn) (Int.le_refl _) (by simp only [Int.ofNat_eq_natCast, Int.natCast_zero] at *; omega) (by simp only [Int.natCast_zero] at *; omega) (Nat.le_refl _)
      rw [hdesc] at u
      refine .pure h hd (v := .slice none 0 0) ?_ (.pure _ _ .nl)
      have e1 : (n.getD ((0 : Nat) : Int)).toNat = 0 := by simp only [Int.natCast_zero] at *; omega
      rw [e1] at hb
      simp [execOp, ho, Instr.sliceAt, Instr.slice, u, e0, hb, szOf hT hte]
    · -- a row of one's own
      rename_i l n e id ver hl hn hdesc
      split at hrun
      · replace hrun := getB_run hrun
        obtain ⟨B, hB, hver, hlv, hrun⟩ := hrun
        split at hrun
        · rename_i sz rows hk
          simp only [Pg.run, Option.some.injEq, Prod.mk.injEq] at hrun
          obtain ⟨rfl, _⟩ := hrun
          have o1 : l = 0 := hobl.mem _ (by simp)
          have o2 : 0 ≤ n.getD rows.length := hobl.mem _ (by simp)
          have o3 : n.getD rows.length ≤ rows.length := hobl.mem _ (by simp)
          have o5 : ((look T e).map TI.size) = some sz := hobl.mem _ (by simp)
          obtain ⟨te, hte, hts⟩ := Option.map_eq_some_iff.1 o5
          have o4 : rowsNew ov (rows.take (n.getD rows.length).toNat) = rows.take (n.getD rows.length).toNat := rowsNew_eq fun p hp => hobl.mem p (by simp [hp])
          simp only [o4]
          subst o1
          obtain ⟨hsz, xs, hown, hx1, hxr⟩ := h.rowCell hB hk
          have he := relv_own hrx hB hver hlv
          have hm : (rows.take (n.getD rows.length).toNat).length = (n.getD rows.length).toNat := by rw [List.length_take]; omega
          rw [hdesc] at u
          have hfl := take_flat hsz (n.getD rows.length).toNat (by omega)
          have fin : ∀ v' : Value, (Instr.sliceAt t (pl id) (lo.map a.eval) (hi.map a.eval) none).run P w = .ok v' w → blkOf v' = blkOf (pl id) → w.ownsRow E.w0.heap.size B.ty sz v' (n.getD rows.length).toNat (xs.take ((n.getD rows.length).toNat * sz)) → v'.oneCell' = true →
              Ok P E o a w (σ.app o.dst { val := .own id (ver + 1), ups := [(id, ⟨ver + 1, B.ty, .row sz (rows.take (n.getD rows.length).toNat)⟩)], obl := [(0 : Int) = 0, 0 ≤ n.getD rows.length, n.getD rows.length ≤ rows.length, ((look T e).map TI.size) = some sz] ++ rowsObl ov (rows.take (n.getD rows.length).toNat) }) := by
            intro v' hrun' hblk hown' hone
            have hch := h.chg (w' := w) id ⟨ver + 1, B.ty, .row sz (rows.take (n.getD rows.length).toNat)⟩ v' (.inl fun C hC => by rw [hB] at hC; simp only [Option.some.injEq] at hC; subst hC; simp; omega)
              (fun _ _ _ => rfl) rfl rfl rfl (Nat.le_refl _) (fun k hk => .inr ⟨B, hB, hlv, by rw [← hblk]; exact hk⟩)
              ⟨fun r hr => hsz r (List.mem_of_mem_take hr), _, by rw [hm]; exact hown', fun u hu => hx1 u (List.mem_of_mem_take hu), fun j b u hb hu => by
                rw [hfl, List.getElem?_take] at hb
                rw [List.getElem?_take] at hu
                split at hb
                · rename_i hj
                  rw [if_pos hj] at hu
                  exact hxr j b u hb hu
                · cases hb⟩
            refine .value (v := v') ?_ ⟨setPl pl id v', hch.1.put o.dst hd (.own id (ver + 1) v' ⟨ver + 1, B.ty, .row sz (rows.take (n.getD rows.length).toNat)⟩ (by simp [look_put]) (Nat.le_refl _) hone fun _ _ => by simp [setPl])⟩
            simp only [execOp, ho, he, Sem.run_bind, Option.map_none, hrun']
            rfl
          rcases hown.2 with ⟨e1, h0⟩ | ⟨g, cap, cur, e1, hg, hheap, hnc, hcm, hcs, hcx⟩
          · have hz : (n.getD rows.length).toNat = 0 := by omega
            have hb := run_bounds (P := P) (w := w) true 0 0 _ _ 0 n (bound_lo h hl) (bound_hi h hn) (Int.le_refl _) (by rw [h0] at o2; exact o2) (by rw [h0] at o3; exact o3) (Nat.le_refl _)
            refine fin (.slice none 0 0) ?_ (by rw [e1]) ?_ rfl
            · have hz0 : (n.getD ((0 : Nat) : Int)).toNat = 0 := by have := o3; rw [h0] at this; omega
              rw [hz0] at hb
              simp [Instr.sliceAt, Instr.slice, u, e1, hb, szOf hT hte]
            · rw [hz]; simpa using World.ownsRow_nil w E.w0.heap.size B.ty sz
          · have hb := run_bounds (P := P) (w := w) true rows.length cap _ _ 0 n (bound_lo h hl) (bound_hi h hn) (Int.le_refl _) o2 (by omega) hnc
            refine fin (.slice (some ⟨g, 0, none⟩) (n.getD rows.length).toNat cap) ?_ (by rw [e1]; rfl) ⟨?_, .inr ⟨g, cap, cur, rfl, hg, hheap, by omega, hcm, hcs, ?_⟩⟩ rfl
            · simp [Instr.sliceAt, Instr.slice, u, e1, hb, szOf hT hte, add_none]
            · rw [List.length_take, hown.1]
              have : (n.getD rows.length).toNat * sz ≤ rows.length * sz := Nat.mul_le_mul_right _ (by omega)
              omega
            · rw [← hcx, List.take_take]
              have : (n.getD rows.length).toNat * sz ≤ rows.length * sz := Nat.mul_le_mul_right _ (by omega)
              rw [Nat.min_eq_left this]
        · simp [Pg.run] at hrun
      replace hrun := getB_run hrun
      obtain ⟨B, hB, hver, hlv, hrun⟩ := hrun
      split at hrun
      · rename_i sz rows hk
        simp only [Pg.run, Option.some.injEq, Prod.mk.injEq] at hrun
        obtain ⟨rfl, _⟩ := hrun
        obtain ⟨o1, o2, o3, o4, o5⟩ : 0 ≤ l ∧ l ≤ n.getD rows.length ∧ n.getD rows.length ≤ rows.length ∧ l < rows.length ∧ ((look T e).map TI.size) = some sz := hobl
        obtain ⟨te, hte, hts⟩ := Option.map_eq_some_iff.1 o5
        obtain ⟨hsz, xs, hown, _⟩ := h.rowCell hB hk
        have he := relv_own hrx hB hver hlv
        rcases hown.2 with ⟨_, h0⟩ | ⟨g, cap, cur, e1, _, _, hnc, hcm, _⟩
        · omega
        · have hb := run_bounds (P := P) (w := w) true rows.length cap _ _ l n (bound_lo h hl) (bound_hi h hn) o1 o2 (by omega) hnc
          rw [hdesc] at u
          have hne : ¬ cap = l.toNat := by omega
          refine .pure h hd (v := .slice (some ⟨g, l.toNat * sz, none⟩) ((n.getD rows.length).toNat - l.toNat) (cap - l.toNat)) ?_
            (.vw id ver _ _ _ B hB (by omega) rfl fun _ _ => ⟨g, cap - l.toNat, by rw [e1]; rfl, by omega, by unfold maxLen at *; omega, by simp [Blk.len, hk]; omega, ?_⟩)
          · simp [execOp, ho, Instr.sliceAt, Instr.slice, u, he, e1, hb, szOf hT hte, hne, hts, add_none]
          · have : (n.getD ↑rows.length - l).toNat = (n.getD ↑rows.length).toNat - l.toNat := by omega
            simp [Blk.off, hk, this]
      · simp [Pg.run] at hrun
    · -- an array of one's own
      rename_i l n len e id ver r c hl hn hdesc
      replace hrun := getB_run hrun
      obtain ⟨B, hB, hver, hlv, hrun⟩ := hrun
      split at hrun
      · rename_i cells hk
        replace hrun := chk_run hrun
        obtain ⟨hc, hrun⟩ := hrun
        simp only [Bool.and_eq_true, beq_iff_eq] at hc
        obtain ⟨rfl, rfl⟩ := hc
        simp only [Pg.run, Option.some.injEq, Prod.mk.injEq] at hrun
        obtain ⟨rfl, _⟩ := hrun
        obtain ⟨o1, o2, o3, o4, o5, o6, o7⟩ : 0 ≤ l ∧ l ≤ n.getD len ∧ n.getD len ≤ len ∧ l < len ∧ cells.length = len ∧ ((look T e).map TI.size) = some 1 ∧ len ≤ maxLen := hobl
        obtain ⟨te, hte, hts⟩ := Option.map_eq_some_iff.1 o6
        obtain ⟨g, hg, he⟩ := relv_ptr hrx hB hver hlv
        have hb := run_bounds (P := P) (w := w) false len len _ _ l n (bound_lo h hl) (bound_hi h hn) o1 o2 (by omega) (Nat.le_refl _)
        rw [hdesc] at u
        have hne : ¬ len = l.toNat := by omega
        have hoff : B.off 0 0 = 0 := by simp [Blk.off, hk]
        refine .pure h hd (v := .slice (some ⟨g, l.toNat, none⟩) ((n.getD len).toNat - l.toNat) (len - l.toNat)) ?_
          (.vw id ver _ _ _ B hB (by omega) rfl fun _ _ => ⟨g, len - l.toNat, hg, by omega, by omega, by simp [Blk.len, hk]; omega, ?_⟩)
        · simp [execOp, ho, Instr.sliceAt, Instr.sureAddr, u, he, hoff, hb, szOf hT hte, hne, hts, add_none]
        · have : (n.getD ↑len - l).toNat = (n.getD ↑len).toNat - l.toNat := by omega
          simp [Blk.off, hk, this]
      · simp [Pg.run] at hrun
    · simp [Pg.run] at hrun
  · simp [Pg.run] at hrun

theorem RelX.congr {hp' : List (Nat × Blk)} (h : RelX E σ pl a w) (he : look hp' = look σ.hp) : RelX E ⟨σ.slots, hp'⟩ pl a w := by
  obtain ⟨h1, h2, h3, h4, h5, h6⟩ := h
  exact ⟨h1, h2, h3, by rw [he]; exact h4, by rw [he]; exact h5, by rw [he]; exact h6⟩
theorem flatten1 {α : Type} : ∀ {rows : List (List α)} (j : Nat), (∀ r ∈ rows, r.length = 1) → rows.flatten[j]? = (rows[j]?).bind fun r => r[0]?
  | [], j, _ => by simp
  | r :: rows, j, h => by
    have hl := h r (by simp)
    rw [List.flatten_cons]
    cases j with
    | zero => rw [List.getElem?_append_left (by omega)]; rfl
    | succ j =>
      rw [List.getElem?_append_right (by omega), hl]
      exact flatten1 j fun x hx => h x (List.mem_cons_of_mem _ hx)

theorem ok_copy (hT : TabOk P T) (h : RelX E σ pl a w) (hd : ∀ q, o.dst = some q → q < E.nt) (args : Array Operand) (ts : Array TypeId) (ho : o.op = .call { callee := .builtin .copy, args := args, argTypes := ts })
    (hrun : (exec1 P T ov o σ.ev).run (look σ.hp) [] = some (eff, log)) (hobl : All eff.obl) : Ok P E o a w (σ.app o.dst eff) := by
  simp only [exec1, ho] at hrun
  split at hrun
  · rename_i av bv t rest h1 h2
    obtain ⟨x, y, e1, hx, hy⟩ := mapM_two h1
    have e1 := toArray_of e1
    have e2 := toArray_of h2
    subst e1
    subst e2
    split at hrun
    · rename_i ti ht
      split at hrun
      · rename_i e hdesc
        split at hrun
        · rename_i te hte
          replace hrun := chk_run hrun
          obtain ⟨hs1, hrun⟩ := hrun
          have hs1 : te.size = 1 := by simpa using hs1
          have hu := (hT t ti ht).1
          rw [hdesc] at hu
          obtain ⟨i, z, i1, i2, i3, i4, i5⟩ := inf hT hte
          obtain ⟨rows2, l', hk, hsh⟩ := rowsOf_ok h (h.ev hy) hrun
          have hro : ∀ ts' : Array TypeId, (execOp a.eval o).run P w = ((Builtin.copy_ (t :: rest).toArray o.type #[a.eval x, a.eval y]).run P w).andThen fun u w' => .ok (.value u) w' := by
            intro _
            obtain ⟨cs, hr⟩ := run_builtin (P := P) (a := a) (w := w) ho
            rw [hr]
            simp [builtin]
          split at hk
          · rename_i id ver
            replace hk := getB_run hk
            obtain ⟨B, hB, hver, hl, hk⟩ := hk
            split at hk
            · rename_i sz rows hbk
              simp only [Pg.run, Option.some.injEq, Prod.mk.injEq] at hk
              obtain ⟨rfl, _⟩ := hk
              have o2 : te.size = sz := All.mem hobl _ (by simp)
              have o3 : ∀ r ∈ rows2, r.length = sz := All.mem hobl _ (by simp)
              have o6 := rowsNew_eq (ov := ov) (d := rows2.take rows.length ++ rows.drop rows2.length) (fun p hp => All.mem hobl p (List.mem_append_right _ hp))
              have hs1' : sz = 1 := by omega
              subst hs1'
              obtain ⟨hrl, xs, hown, hx1, hxr⟩ := h.rowCell hB hbk
              have he := relv_own (h.ev hx) hB hver hl
              rw [o6]
              have ho2 := hown
              rcases hown.2 with ⟨e0, h0⟩ | ⟨g, cap, cur, e0, hgb, hheap, hnc, hcm, hcs, hcur⟩
              · have hr0 : rows = [] := List.eq_nil_of_length_eq_zero h0
                subst hr0
                obtain ⟨A, cap2, sz2, us, hv2, _⟩ := hsh
                have hrun2 : (Builtin.copy_ (t :: rest).toArray o.type #[a.eval x, a.eval y]).run P w = .ok (goInt 0) w := by
                  rw [he, e0, hv2]
                  cases A <;> simp [Builtin.copy_, run_underlying hu, Builtin.lenOf, Builtin.firstCells, sizeOf, typeInfo, i1, Nat.min_def, loadCells, loadCellsFrom]
                have hB0 : ({ ver := ver, ty := B.ty, k := BK.row 1 (List.take ([] : List (List AV)).length rows2 ++ List.drop rows2.length []) } : Blk) = B := by
                  cases B
                  simp at hbk hver ⊢
                  exact ⟨hver.symm, hbk.symm⟩
                refine .value (v := .int .i64 0) (w' := w) (by rw [hro #[], hrun2]; rfl) ⟨pl, ?_⟩
                have hc := h.congr (hp' := Go.E.put σ.hp id ({ ver := ver, ty := B.ty, k := BK.row 1 (List.take ([] : List (List AV)).length rows2 ++ List.drop rows2.length []) } : Blk)) (by
                  funext j; rw [look_put, hB0]; split
                  · rename_i e; subst e; exact hB.symm
                  · rfl)
                have := hc.put o.dst hd (av := .i .i64 (min rows2.length ([] : List (List AV)).length : Nat)) (v := .int .i64 0) (.pure _ _ (by simp; exact .i _ _))
                exact this
              · rcases hsh.flat o3 with ⟨ev, er⟩ | ⟨ad, cap2, ys, ev, hyl, hcell, hy1, hyr⟩
                · subst er
                  have hrun2 : (Builtin.copy_ (t :: rest).toArray o.type #[a.eval x, a.eval y]).run P w = .ok (goInt 0) w := by
                    rw [he, e0, ev]
                    simp [Builtin.copy_, run_underlying hu, Builtin.lenOf, Builtin.firstCells, sizeOf, typeInfo, i1, storeCells]
                  have hB0 : ({ ver := ver, ty := B.ty, k := BK.row 1 (List.take rows.length [] ++ List.drop ([] : List (List AV)).length rows) } : Blk) = B := by
                    cases B
                    simp at hbk hver ⊢
                    exact ⟨hver.symm, hbk.symm⟩
                  refine .value (v := .int .i64 0) (w' := w) (by rw [hro #[], hrun2]; rfl) ⟨pl, ?_⟩
                  have hc := h.congr (hp' := Go.E.put σ.hp id ({ ver := ver, ty := B.ty, k := BK.row 1 (List.take rows.length [] ++ List.drop ([] : List (List AV)).length rows) } : Blk)) (by
                    funext j; rw [look_put, hB0]; split
                    · rename_i e; subst e; exact hB.symm
                    · rfl)
                  have := hc.put o.dst hd (av := .i .i64 (min ([] : List (List AV)).length rows.length : Nat)) (v := .int .i64 0) (.pure _ _ (by simp; exact .i _ _))
                  exact this
                · simp only [Nat.mul_one] at hyl hcs hcur
                  have hxl : xs.length = rows.length := by have := hown.1; simpa using this
                  have hcl : (ys.take rows.length).length = Nat.min rows2.length rows.length := by rw [List.length_take, hyl, Nat.min_comm]
                  have hg : blkOf (pl id) = some g := by rw [e0]; rfl
                  have hcl2 : (ys.take rows.length).length = min rows2.length rows.length := hcl
                  have hfit : 0 + (ys.take rows.length).length ≤ cur.toList.length := by rw [hcl2]; simp; omega
                  have hrun2 : (Builtin.copy_ (t :: rest).toArray o.type #[a.eval x, a.eval y]).run P w = .ok (goInt (ys.take rows.length).length) (w.setRow g (cur.toList.take 0 ++ ys.take rows.length ++ cur.toList.drop (0 + (ys.take rows.length).length)).toArray) := by
                    rw [he, e0, ev]
                    have := run_copy_row P w t t o.type e g 0 rows.length cap ad rows2.length cap2 cur B.ty (ys.take rows.length) hu (by rw [i1]; simp [i2, o2]) hheap hcl (fun j v hv => hcell j v (by rw [List.getElem?_take] at hv; split at hv; exact hv; cases hv)) (by simpa using hfit) (fun v hv => hy1 v (List.mem_of_mem_take hv))
                    rw [← this]
                    rfl
                  have hrl' : ∀ r ∈ rows2.take rows.length ++ rows.drop rows2.length, r.length = 1 := by
                    intro r hr
                    rcases List.mem_append.1 hr with hr | hr
                    · exact o3 r (List.mem_of_mem_take hr)
                    · exact hrl r (List.mem_of_mem_drop hr)
                  have hrlen : (rows2.take rows.length ++ rows.drop rows2.length).length = rows.length := by simp; omega
                  have hk' := h.setRow_keep hB hl hg (cur.toList.take 0 ++ ys.take rows.length ++ cur.toList.drop (0 + (ys.take rows.length).length)).toArray
                  have hup := h.upd (B' := ⟨ver, B.ty, .row 1 (rows2.take rows.length ++ rows.drop rows2.length)⟩) hB hl hver.symm (by funext r c; simp [Blk.off, hbk]) (by simp only [Blk.len, hbk]; omega) hg (cur.toList.take 0 ++ ys.take rows.length ++ cur.toList.drop (0 + (ys.take rows.length).length)).toArray (by
                    refine ⟨hrl', (cur.toList.take 0 ++ ys.take rows.length ++ cur.toList.drop (0 + (ys.take rows.length).length)).take rows.length, ⟨?_, .inr ⟨g, cap, _, ?_, hgb, setRow_heap w g cur _ B.ty (0, 0) hheap, ?_, hcm, ?_, ?_⟩⟩, fun u hu => ?_, fun j b u hb hu => ?_⟩
                    · rw [hrlen, List.length_take, splice_len _ _ _ hfit]; simp; omega
                    · rw [hrlen]; exact e0
                    · rw [hrlen]; exact hnc
                    · simp only [List.size_toArray]; rw [splice_len _ _ _ hfit]; simpa using hcs
                    · rw [hrlen]; simp
                    · obtain ⟨j, hj⟩ := List.mem_iff_getElem?.1 hu
                      rw [List.getElem?_take] at hj
                      split at hj
                      · rename_i hjl
                        rw [splice_get _ _ _ hfit, if_neg (by omega)] at hj
                        split at hj
                        · exact hy1 u (List.mem_of_mem_take (List.mem_of_getElem? hj))
                        · refine hx1 u (List.mem_of_getElem? (i := j) ?_)
                          rw [← hcur, List.getElem?_take, if_pos hjl]; exact hj
                      · cases hj
                    · have hjl : j < rows.length := by
                        have := lt_of_getElem? hb
                        rw [flatten_len hrl', hrlen] at this
                        omega
                      rw [List.getElem?_take, if_pos hjl, splice_get _ _ _ hfit, if_neg (by omega)] at hu
                      rw [flatten1 j hrl'] at hb
                      by_cases h3 : j < rows2.length
                      · rw [List.getElem?_append_left (by simp; omega), List.getElem?_take, if_pos hjl, ← flatten1 j o3] at hb
                        rw [if_pos (by rw [hcl2]; omega), List.getElem?_take] at hu
                        simp only [Nat.sub_zero, hjl, if_true] at hu
                        exact (hyr j b u hb hu).mono (fun _ hk => hk) hk'
                      · rw [List.getElem?_append_right (by simp; omega), List.getElem?_drop] at hb
                        have ej : rows2.length + (j - (rows2.take rows.length).length) = j := by simp; omega
                        rw [ej, ← flatten1 j hrl] at hb
                        rw [if_neg (by rw [hcl2]; omega)] at hu
                        refine (hxr j b u hb ?_).mono (fun _ hk => hk) hk'
                        rw [← hcur, List.getElem?_take, if_pos hjl]; exact hu)
                  refine .value (v := goInt (ys.take rows.length).length) (by rw [hro #[], hrun2]; rfl) ⟨pl, ?_⟩
                  have := hup.put o.dst hd (av := .i .i64 (min rows2.length rows.length : Nat)) (v := goInt (ys.take rows.length).length) (.pure _ _ (by rw [hcl2]; exact .i _ _))
                  exact this
            · simp [Pg.run] at hk
          · simp [Pg.run] at hk
        · simp [Pg.run] at hrun
      · simp [Pg.run] at hrun
    · simp [Pg.run] at hrun
  · simp [Pg.run] at hrun
end
end Go.E
