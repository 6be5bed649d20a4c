/- E4: each operation of the model does what exec1 says (first part: values, arithmetic, building, reading). Conditions: none. -/
import Derived.Test.YtjngmlkaijpbgaaE3
set_option linter.unusedVariables false
set_option linter.unusedSimpArgs false
namespace Go.E
open Go.RowKit

def Ok (P : Program) (E : Env) (o : Oper) (a : Act) (w : World) (σ' : St) : Prop :=
  ∀ (K : Act → World → Prop) (Q : Exit → Act → World → Prop), (∀ a' w', Rel E σ' a' w' → K a' w') → o.wp P a w K Q

section
variable {P : Program} {E : Env} {T : Tab} {ov : Ov} {o : Oper} {σ : St} {pl : Nat → Value} {a : Act} {w : World} {eff : Eff} {log : List Nat}

theorem Ok.value {σ' : St} {v : Value} {w' : World} (hr : (execOp a.eval o).run P w = .ok (.value v) w') (h : Rel E σ' (a.put o.dst v) w') : Ok P E o a w σ' := by
  intro K Q hK
  unfold Oper.wp
  rw [hr]
  exact hK _ _ h
theorem Ok.skip {σ' : St} {w' : World} (hr : (execOp a.eval o).run P w = .ok .skip w') (h : Rel E σ' (a.put o.dst undef) w') : Ok P E o a w σ' := by
  intro K Q hK
  unfold Oper.wp
  rw [hr]
  exact hK _ _ h
theorem Ok.pure {v : Value} {av : AV} {obl : List Prop} (h : RelX E σ pl a w) (hd : ∀ q, o.dst = some q → q < E.nt) (hr : (execOp a.eval o).run P w = .ok (.value v) w)
    (hv : RelV (look σ.hp) pl (SS E (look σ.hp) pl w) w av v) : Ok P E o a w (σ.app o.dst { val := av, obl := obl }) :=
  .value hr ⟨pl, h.put o.dst hd hv⟩

theorem relv_pure {hp : Nat → Option Blk} {S : Nat → Prop} {av : AV} {v : Value} (h : RelV hp pl S w av v) (hp' : pureB av = true) : RelV0 S w av v := by
  cases h with
  | pure _ _ h => exact h
  | own => simp [pureB] at hp'
  | vw => simp [pureB] at hp'
  | ptr => simp [pureB] at hp'
  | fn => simp [pureB] at hp'
  | ifc => simp [pureB] at hp'
theorem relv_tup {hp : Nat → Option Blk} {S : Nat → Prop} {vs : List AV} {v : Value} (h : RelV hp pl S w (.tup vs) v) : RelV0 S w (.tup vs) v := by
  cases h with
  | pure _ _ h => exact h
theorem relv_toV {hp : Nat → Option Blk} {S : Nat → Prop} {av : AV} {v u : Value} (h : RelV hp pl S w av v) (hu : toV av = some u) : v = u := by
  cases h with
  | pure _ _ h => cases h <;> simp [toV] at hu <;> exact hu
  | own => simp [toV] at hu
  | vw => simp [toV] at hu
  | ptr => simp [toV] at hu
  | fn => simp [toV] at hu
  | ifc => simp [toV] at hu
theorem ofV_rel {S : Nat → Prop} {av : AV} {v : Value} (h : ofV v = some av) : RelV0 S w av v := by
  cases v <;> simp [ofV] at h <;> subst h
  · exact .b _
  · exact .i _ _
  · exact .s _
theorem rel0_one {S : Nat → Prop} {av : AV} {v : Value} (h : RelV0 S w av v) (hu : oneB av = true) : v.oneCell' = true := by
  cases h <;> first | rfl | (simp [oneB] at hu)
theorem relv_one {hp : Nat → Option Blk} {S : Nat → Prop} {av : AV} {v : Value} (h : RelV hp pl S w av v) (hu : oneB av = true) : v.oneCell' = true := by
  cases h with
  | pure _ _ h => exact rel0_one h hu
  | own _ _ _ _ _ _ h1 => exact h1
  | vw _ _ _ _ _ _ _ _ h1 => exact h1
  | ptr _ _ _ _ _ _ _ _ h1 => exact h1
  | fn => rfl
  | ifc => rfl

theorem pureVal_run {s : Sem Value} {v : Value} (h : pureVal s = some v) : s.run P w = .ok v w := by
  cases s <;> simp [pureVal] at h
  subst h
  rfl
theorem reto_run {x : Option AV} {hp : Nat → Option Blk} (h : (reto x).run hp [] = some (eff, log)) : ∃ av, x = some av ∧ eff = { val := av } := by
  cases x with
  | none => simp [reto, Pg.run] at h
  | some av => simp [reto, rets, Pg.run] at h; exact ⟨av, rfl, h.1.symm⟩

theorem ok_move (h : RelX E σ pl a w) (hd : ∀ q, o.dst = some q → q < E.nt) (x : Operand) (ho : o.op = .move x ∨ o.op = .assign x)
    (hrun : (reto (σ.ev x)).run (look σ.hp) [] = some (eff, log)) : Ok P E o a w (σ.app o.dst eff) := by
  obtain ⟨av, hx, rfl⟩ := reto_run hrun
  refine .pure h hd (v := a.eval x) ?_ (h.ev hx)
  rcases ho with ho | ho <;> simp [execOp, ho]

theorem ok_pick (h : RelX E σ pl a w) (hd : ∀ q, o.dst = some q → q < E.nt) (c x y : Operand) (ho : o.op = .pick c x y)
    (hrun : (exec1 P T ov o σ.ev).run (look σ.hp) [] = some (eff, log)) : Ok P E o a w (σ.app o.dst eff) := by
  simp only [exec1, ho] at hrun
  split at hrun
  · rename_i hc
    obtain ⟨av, hx, rfl⟩ := reto_run hrun
    have := relv_toV (h.ev hc) rfl
    exact .pure h hd (v := a.eval x) (by simp [execOp, ho, this, asBool]) (h.ev hx)
  · rename_i hc
    obtain ⟨av, hx, rfl⟩ := reto_run hrun
    have := relv_toV (h.ev hc) rfl
    exact .pure h hd (v := a.eval y) (by simp [execOp, ho, this, asBool]) (h.ev hx)
  · simp [Pg.run] at hrun

theorem ok_unOp (h : RelX E σ pl a w) (hd : ∀ q, o.dst = some q → q < E.nt) (op : UnOp) (t : TypeId) (x : Operand) (ho : o.op = .unOp op t x)
    (hrun : (exec1 P T ov o σ.ev).run (look σ.hp) [] = some (eff, log)) : Ok P E o a w (σ.app o.dst eff) := by
  simp only [exec1, ho] at hrun
  split at hrun
  · rename_i av hx
    split at hrun
    · rename_i va hva
      split at hrun
      · rename_i v hv
        obtain ⟨au, hu, rfl⟩ := reto_run hrun
        have e := relv_toV (h.ev hx) hva
        exact .pure h hd (v := v) (by simp [execOp, ho, e, pureVal_run hv]) (.pure _ _ (ofV_rel hu))
      · simp [Pg.run] at hrun
    · simp [Pg.run] at hrun
  · simp [Pg.run] at hrun

theorem eqGuard_toV {op : BinOp} {t : TypeId} {x y : Operand} {av bv : AV} {va vb : Value} (ha : toV av = some va) (hb : toV bv = some vb) : (eqGuard op t x y va vb).run P w = .ok () w := by
  cases av <;> simp [toV] at ha <;> subst ha <;> cases bv <;> simp [toV] at hb <;> subst hb <;> cases op <;> rfl
theorem eqGuard_agg {op : BinOp} {t : TypeId} {x y x' y' : Operand} {cs ds : Array Value} : eqGuard op t x y (.agg cs) (.agg ds) = eqGuard op t x' y' (.agg cs) (.agg ds) := rfl
theorem rel_agg {S : Nat → Prop} {cs : List AV} {v : Value} (h : RelV0 S w (.agg cs) v) : ∃ vs, v = .agg vs := by
  cases h with
  | agg _ vs => exact ⟨_, rfl⟩
theorem relv_agg {hp : Nat → Option Blk} {S : Nat → Prop} {cs : List AV} {v : Value} (h : RelV hp pl S w (.agg cs) v) : RelV0 S w (.agg cs) v := by
  cases h with
  | pure _ _ h => exact h
theorem binOp_neq_agg {t : TypeId} {cs ds : Array Value} {z : Bool} (h : (do eqGuard .eql t (.tmp 0) (.tmp 0) (.agg cs) (.agg ds); binOp .eql t (.agg cs) (.agg ds)).run P w = .ok (.bool z) w) :
    (do eqGuard .neq t (.tmp 0) (.tmp 0) (.agg cs) (.agg ds); binOp .neq t (.agg cs) (.agg ds)).run P w = .ok (.bool !z) w := by
  have e : eqGuard .neq t (.tmp 0) (.tmp 0) (.agg cs) (.agg ds) = eqGuard .eql t (.tmp 0) (.tmp 0) (.agg cs) (.agg ds) := rfl
  rw [Sem.run_bind] at h ⊢
  rw [e]
  cases hg : (eqGuard .eql t (.tmp 0) (.tmp 0) (.agg cs) (.agg ds)).run P w with
  | halt x w' => rw [hg] at h; simp at h
  | ok u w' =>
    rw [hg] at h
    simp only [Result.andThen_ok] at h ⊢
    simp only [binOp, Sem.run_bind] at h ⊢
    cases hq : (Op.equal t (.agg cs) (.agg ds)).run P w' with
    | halt x w'' => rw [hq] at h; simp at h
    | ok b w'' =>
      rw [hq] at h
      simp only [Result.andThen_ok, Sem.run_pure, Result.ok.injEq, Value.bool.injEq] at h ⊢
      exact ⟨by rw [h.1], h.2⟩

theorem TabOk.desc {t : Nat} {d : TypeDesc} (hT : TabOk P T) (h : (look T t).map TI.desc = some d) : P.underlying t = some d ∧ ∃ ti, look T t = some ti := by
  cases hl : look T t with
  | none => rw [hl] at h; cases h
  | some ti =>
    rw [hl] at h
    simp only [Option.map_some, Option.some.injEq] at h
    exact ⟨h ▸ (hT t ti hl).1, ti, rfl⟩
theorem ok_binOp (hT : TabOk P T) (h : RelX E σ pl a w) (hd : ∀ q, o.dst = some q → q < E.nt) (op : BinOp) (t : TypeId) (x y : Operand) (yt : TypeId) (ho : o.op = .binOp op t x y yt)
    (hrun : (exec1 P T ov o σ.ev).run (look σ.hp) [] = some (eff, log)) (hobl : All eff.obl) : Ok P E o a w (σ.app o.dst eff) := by
  simp only [exec1, ho] at hrun
  split at hrun
  · rename_i av bv hx hy
    split at hrun
    · rename_i va vb hva hvb
      split at hrun
      · rename_i v hv
        obtain ⟨au, hu, rfl⟩ := reto_run hrun
        have e1 := relv_toV (h.ev hx) hva
        have e2 := relv_toV (h.ev hy) hvb
        exact .pure h hd (v := v) (by simp [execOp, ho, e1, e2, eqGuard_toV hva hvb, pureVal_run hv]) (.pure _ _ (ofV_rel hu))
      · split at hrun
        · rename_i p q htd _
          simp only [rets, Pg.run, Option.some.injEq, Prod.mk.injEq] at hrun
          obtain ⟨rfl, _⟩ := hrun
          obtain ⟨hu, _⟩ := hT.desc htd
          have e1 := relv_toV (h.ev hx) rfl
          have e2 := relv_toV (h.ev hy) rfl
          refine .pure h hd (v := .bool (p == q)) ?_ (.pure _ _ (.b _))
          simp [execOp, ho, e1, e2, eqGuard, binOp, run_equal_bool w t p q hu]
        · rename_i p q htd _
          simp only [rets, Pg.run, Option.some.injEq, Prod.mk.injEq] at hrun
          obtain ⟨rfl, _⟩ := hrun
          obtain ⟨hu, _⟩ := hT.desc htd
          have e1 := relv_toV (h.ev hx) rfl
          have e2 := relv_toV (h.ev hy) rfl
          refine .pure h hd (v := .bool (!(p == q))) ?_ (.pure _ _ (.b _))
          simp [execOp, ho, e1, e2, eqGuard, binOp, run_equal_bool w t p q hu]
        · simp [Pg.run] at hrun
    · split at hrun
      · rename_i cs ds z _ hov
        simp only [Pg.run, Option.some.injEq, Prod.mk.injEq] at hrun
        obtain ⟨rfl, _⟩ := hrun
        have r1 := relv_agg (h.ev hx)
        have r2 := relv_agg (h.ev hy)
        have hq : AggEq P t cs ds z := hobl
        have hq := hq _ _ _ _ r1 r2
        obtain ⟨v1, e1⟩ := rel_agg r1
        obtain ⟨v2, e2⟩ := rel_agg r2
        rw [e1, e2] at hq
        refine .pure h hd (v := .bool z) ?_ (.pure _ _ (.b z))
        simp only [execOp, ho, e1, e2, eqGuard_agg (x' := .tmp 0) (y' := .tmp 0)]
        simp only [Sem.run_bind] at hq ⊢
        rw [hq]
        rfl
      · rename_i cs ds z _ hov
        simp only [Pg.run, Option.some.injEq, Prod.mk.injEq] at hrun
        obtain ⟨rfl, _⟩ := hrun
        have r1 := relv_agg (h.ev hx)
        have r2 := relv_agg (h.ev hy)
        have hq : AggEq P t cs ds (!z) := hobl
        have hq := hq _ _ _ _ r1 r2
        obtain ⟨v1, e1⟩ := rel_agg r1
        obtain ⟨v2, e2⟩ := rel_agg r2
        rw [e1, e2] at hq
        have hq := binOp_neq_agg hq
        refine .pure h hd (v := .bool z) ?_ (.pure _ _ (.b z))
        simp only [execOp, ho, e1, e2, eqGuard_agg (x' := .tmp 0) (y' := .tmp 0)]
        simp only [Sem.run_bind, Bool.not_not] at hq ⊢
        rw [hq]
        rfl
      · simp [Pg.run] at hrun
  · simp [Pg.run] at hrun

theorem ok_extract (h : RelX E σ pl a w) (hd : ∀ q, o.dst = some q → q < E.nt) (x : Operand) (ix : Nat) (ho : o.op = .extract x ix)
    (hrun : (exec1 P T ov o σ.ev).run (look σ.hp) [] = some (eff, log)) : Ok P E o a w (σ.app o.dst eff) := by
  simp only [exec1, ho] at hrun
  split at hrun
  · rename_i vs hx
    obtain ⟨av, hv, rfl⟩ := reto_run hrun
    have hr := relv_tup (h.ev hx)
    generalize hu : a.eval x = u at hr
    cases hr with
    | tup _ us hl hh =>
      have hlt := lt_of_getElem? hv
      have hlt' : ix < us.length := by omega
      refine .pure h hd (v := us[ix]) ?_ (.pure _ _ (hh ix av _ hv (List.getElem?_eq_getElem hlt')))
      simp [execOp, ho, hu, Instr.extract, List.getElem?_eq_getElem hlt']
  · simp [Pg.run] at hrun

theorem ok_makeFunc (h : RelX E σ pl a w) (hd : ∀ q, o.dst = some q → q < E.nt) (f : Go.Fn) (first cap : Array Operand) (ho : o.op = .makeFunc f first cap)
    (hrun : (exec1 P T ov o σ.ev).run (look σ.hp) [] = some (eff, log)) : Ok P E o a w (σ.app o.dst eff) := by
  simp only [exec1, ho] at hrun
  split at hrun
  · rename_i l1 l2 h1 h2
    simp only [rets, Pg.run, Option.some.injEq, Prod.mk.injEq] at hrun
    obtain ⟨rfl, _⟩ := hrun
    obtain ⟨n1, g1⟩ := mapM_get h1
    obtain ⟨n2, g2⟩ := mapM_get h2
    refine .pure h hd (v := .func f (first.map a.eval) (cap.map a.eval)) (by simp [execOp, ho, Instr.makeFunc]) ?_
    have := RelV.fn (hp := look σ.hp) (pl := pl) (S := SS E (look σ.hp) pl w) (w := w) f l1 l2 (first.toList.map a.eval) (cap.toList.map a.eval) (by simp [n1]) (by simp [n2])
      (fun j av u ha hu => by
        simp only [List.getElem?_map, Option.map_eq_some_iff] at hu
        obtain ⟨x, hx, rfl⟩ := hu
        exact h.ev (g1 j x av hx ha))
      (fun j av u ha hu => by
        simp only [List.getElem?_map, Option.map_eq_some_iff] at hu
        obtain ⟨x, hx, rfl⟩ := hu
        exact h.ev (g2 j x av hx ha))
    rw [← Array.toList_map, ← Array.toList_map, Array.toArray_toList, Array.toArray_toList] at this
    exact this
  · simp [Pg.run] at hrun

theorem ok_makeInterface (hT : TabOk P T) (h : RelX E σ pl a w) (hd : ∀ q, o.dst = some q → q < E.nt) (t : TypeId) (x : Operand) (ho : o.op = .makeInterface t x)
    (hrun : (exec1 P T ov o σ.ev).run (look σ.hp) [] = some (eff, log)) : Ok P E o a w (σ.app o.dst eff) := by
  simp only [exec1, ho] at hrun
  split at hrun
  · rename_i ti av ht hx
    split at hrun
    · simp [Pg.run] at hrun
    · rename_i hne
      simp only [rets, Pg.run, Option.some.injEq, Prod.mk.injEq] at hrun
      obtain ⟨rfl, _⟩ := hrun
      have hu := (hT t ti ht).1
      refine .pure h hd (v := .iface t (a.eval x)) ?_ (.ifc t av _ (h.ev hx))
      have : (underlying t).run P w = .ok ti.desc w := run_underlying hu w
      simp only [execOp, ho, Instr.makeInterface, Sem.run_bind, this, Result.andThen_ok]
      clear this hu ht
      generalize ti.desc = d at hne ⊢
      cases d <;> first | rfl | exact absurd rfl (hne _)
  · simp [Pg.run] at hrun

theorem und {t : TypeId} {ti : TI} (hT : TabOk P T) (h : look T t = some ti) (w : World) : (underlying t).run P w = .ok ti.desc w := run_underlying (hT t ti h).1 w
theorem inf {t : TypeId} {ti : TI} (hT : TabOk P T) (h : look T t = some ti) : ∃ i z, P.info? t = some i ∧ i.size = ti.size ∧ i.bytes = ti.bytes ∧ i.zero = some z ∧ z.cells.toList.map avC = ti.zero.map some := by
  have h2 := (hT t ti h).2
  cases hi : P.info? t with
  | none => simp [hi] at h2
  | some i =>
    simp only [hi, Option.map_some, Option.some.injEq, Prod.mk.injEq] at h2
    cases hz : i.zero with
    | none => simp [hz] at h2
    | some z =>
      simp only [hz, Option.map_some, Option.some.injEq] at h2
      exact ⟨i, z, rfl, h2.1, h2.2.1, hz, h2.2.2⟩
theorem szOf {t : TypeId} {ti : TI} (hT : TabOk P T) (h : look T t = some ti) (w : World) : (sizeOf t).run P w = .ok ti.size w := by
  obtain ⟨i, z, h1, h2, _⟩ := inf hT h
  simp [sizeOf, typeInfo, h1, h2]
theorem isAggR {t : TypeId} {ti : TI} (hT : TabOk P T) (h : look T t = some ti) (w : World) : (isAgg t).run P w = .ok ti.isAgg w := by
  unfold isAgg
  rw [Sem.run_bind, und hT h w, Result.andThen_ok]
  unfold TI.isAgg
  generalize ti.desc = d
  cases d <;> rfl
theorem zero_rel {ti : TI} {z : Value} (h : z.cells.toList.map avC = ti.zero.map some) (S : Nat → Prop) (w : World) :
    z.cells.size = ti.zero.length ∧ (∀ u ∈ z.cells.toList, u.oneCell' = true) ∧ ∀ (j : Nat) (a : AV) (u : Value), ti.zero[j]? = some a → z.cells[j]? = some u → RelV0 S w a u := by
  have hl : z.cells.size = ti.zero.length := by simpa using congrArg List.length h
  have key : ∀ (j : Nat) (a : AV) (u : Value), ti.zero[j]? = some a → z.cells[j]? = some u → avC u = some a := by
    intro j a u ha hu
    have hj := congrArg (fun l => l[j]?) h
    simp only [List.getElem?_map, ha, Option.map_some] at hj
    have hu' : z.cells.toList[j]? = some u := by simpa using hu
    rw [hu'] at hj
    simpa using hj
  refine ⟨hl, fun u hu => ?_, fun j a u ha hu => (avC_rel (key j a u ha hu)).1⟩
  obtain ⟨j, hj, rfl⟩ := List.mem_iff_getElem.1 hu
  have hj' : j < ti.zero.length := by simp at hj; omega
  exact (avC_rel (S := S) (w := w) (key j _ _ (List.getElem?_eq_getElem hj') (by simp at hj; simp [hj]))).2

theorem rel_takeDrop {S : Nat → Prop} {cs : List AV} {vs : List Value} (hl : vs.length = cs.length) (h1 : ∀ u ∈ vs, u.oneCell' = true)
    (h : ∀ (j : Nat) (a : AV) (u : Value), cs[j]? = some a → vs[j]? = some u → RelV0 S w a u) (off n : Nat) : RelV0 S w (.agg ((cs.drop off).take n)) (.agg ((vs.drop off).take n).toArray) := by
  refine .agg _ _ (by simp [hl]) (fun u hu => h1 u (List.mem_of_mem_drop (List.mem_of_mem_take hu))) (fun j a u ha hu => ?_)
  rw [List.getElem?_take] at ha hu
  split at ha
  · rw [if_pos (by assumption)] at hu
    rw [List.getElem?_drop] at ha hu
    exact h _ a u ha hu
  · cases ha
theorem extract_toList (vs : List Value) (off n : Nat) : vs.toArray.extract off (off + n) = ((vs.drop off).take n).toArray := by
  apply Array.ext'
  simp [Nat.add_sub_cancel_left]

theorem ok_field (hT : TabOk P T) (h : RelX E σ pl a w) (hd : ∀ q, o.dst = some q → q < E.nt) (t : TypeId) (x : Operand) (f : Nat) (ho : o.op = .field t x f)
    (hrun : (exec1 P T ov o σ.ev).run (look σ.hp) [] = some (eff, log)) : Ok P E o a w (σ.app o.dst eff) := by
  simp only [exec1, ho] at hrun
  split at hrun
  · rename_i ti cs ht hx
    split at hrun
    · rename_i fs hfs
      split at hrun
      · rename_i fd hfd
        split at hrun
        · rename_i tf htf
          have u1 := und hT ht w
          rw [hfs] at u1
          have hr := relv_agg (h.ev hx)
          generalize hu : a.eval x = u at hr
          cases hr with
          | agg _ vs hl h1 hh =>
            split at hrun
            · rename_i hag
              unfold chk at hrun
              split at hrun
              · simp only [rets, Pg.run, Option.some.injEq, Prod.mk.injEq] at hrun
                obtain ⟨rfl, _⟩ := hrun
                refine .pure h hd (v := .agg ((vs.drop fd.offset).take tf.size).toArray) ?_ (.pure _ _ (rel_takeDrop hl h1 hh _ _))
                simp only [execOp, ho, hu, Instr.field, Sem.run_bind, u1, Result.andThen_ok, hfd, asAgg, Sem.run_pure, part, isAggR hT htf, hag, if_true, szOf hT htf, extract_toList]
              · simp [Pg.run] at hrun
            · rename_i hag
              obtain ⟨av, hv, rfl⟩ := reto_run hrun
              have hlt := lt_of_getElem? hv
              have hlt' : fd.offset < vs.length := by omega
              refine .pure h hd (v := vs[fd.offset]) ?_ (.pure _ _ (hh _ av _ hv (List.getElem?_eq_getElem hlt')))
              have hq : vs.toArray[fd.offset]? = some vs[fd.offset] := by simp [List.getElem?_eq_getElem hlt']
              simp only [execOp, ho, hu, Instr.field, Sem.run_bind, u1, Result.andThen_ok, hfd, asAgg, Sem.run_pure, part, isAggR hT htf, hag, Bool.false_eq_true, if_false, hq]
        · simp [Pg.run] at hrun
      · simp [Pg.run] at hrun
    · simp [Pg.run] at hrun
  · simp [Pg.run] at hrun
end
end Go.E
