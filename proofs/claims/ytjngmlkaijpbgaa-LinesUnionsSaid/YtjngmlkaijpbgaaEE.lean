/- EE: regions: in the order of the text, and in whatever order the model draws. Conditions: none. -/
import Derived.Test.YtjngmlkaijpbgaaED
set_option linter.unusedVariables false
set_option linter.unusedSimpArgs false
namespace Go.E
open Go.RowKit

section
variable {P : Program} {E : Env} {T : Tab} {ov : Ov} {o : Oper} {σ : St} {pl : Nat → Value} {a : Act} {w : World} {eff : Eff} {log : List Nat}

theorem ok_nilCheck (h : RelX E σ pl a w) (hd : ∀ q, o.dst = some q → q < E.nt) (x : Operand) (ho : o.op = .nilCheck x)
    (hrun : (exec1 P T ov o σ.ev).run (look σ.hp) [] = some (eff, log)) : Ok P E o a w (σ.app o.dst eff) := by
  simp only [exec1, ho] at hrun
  split at hrun
  · rename_i id ver r c hx
    replace hrun := getB_run hrun
    obtain ⟨B, hB, hv, hl, hrun⟩ := hrun
    simp only [rets, Pg.run, Option.some.injEq, Prod.mk.injEq] at hrun
    obtain ⟨rfl, _⟩ := hrun
    have hr := h.ev hx
    obtain ⟨g, hg, he⟩ := relv_ptr hr hB hv hl
    refine .pure h hd (v := a.eval x) ?_ hr
    simp [execOp, ho, he]
  · rename_i cs hx
    simp only [rets, Pg.run, Option.some.injEq, Prod.mk.injEq] at hrun
    obtain ⟨rfl, _⟩ := hrun
    have hr := h.ev hx
    have hr0 := relv_eptr hr
    have he : ∃ ad, a.eval x = .pointer (some ad) := by
      generalize a.eval x = v at hr0 ⊢
      cases hr0 with
      | eptr _ ad u hS hA h1 hh => exact ⟨ad, rfl⟩
    obtain ⟨ad, he⟩ := he
    refine .pure h hd (v := a.eval x) ?_ hr
    simp [execOp, ho, he]
  · rename_i f first cap hx
    simp only [rets, Pg.run, Option.some.injEq, Prod.mk.injEq] at hrun
    obtain ⟨rfl, _⟩ := hrun
    have hr := h.ev hx
    have he : ∃ v1 v2, a.eval x = .func (.func f) v1 v2 := by
      generalize a.eval x = v at hr ⊢
      cases hr with
      | pure _ _ h0 => cases h0 with | fn _ _ _ v1 v2 => exact ⟨_, _, rfl⟩
      | fn _ _ _ v1 v2 => exact ⟨_, _, rfl⟩
    obtain ⟨v1, v2, he⟩ := he
    refine .pure h hd (v := a.eval x) ?_ hr
    simp [execOp, ho, he]
  · simp [Pg.run] at hrun

/-- **Each operation does what exec1 says.** -/
theorem exec1_ok (hT : TabOk P T) (h : RelX E σ pl a w) (hd : ∀ q, o.dst = some q → q < E.nt) (hrun : (exec1 P T ov o σ.ev).run (look σ.hp) [] = some (eff, log)) (hobl : All eff.obl) : Ok P E o a w (σ.app o.dst eff) := by
  cases ho : o.op with
  | move x => exact ok_move h hd x (.inl ho) (by simpa only [exec1, ho] using hrun)
  | assign x => exact ok_move h hd x (.inr ho) (by simpa only [exec1, ho] using hrun)
  | pick c x y => exact ok_pick h hd c x y ho hrun
  | alloc t => exact ok_alloc hT h hd t ho hrun
  | box t x => exact ok_box h hd t x ho hrun
  | build t ps => exact ok_build hT h hd t ps ho hrun
  | buildSlice t n ps => exact ok_buildSlice hT h hd t n ps ho hrun hobl
  | load t x => exact ok_load hT h hd t x ho hrun hobl
  | store t x y => exact ok_store hT h hd t x y ho hrun hobl
  | nilCheck x => exact ok_nilCheck h hd x ho hrun
  | binOp op t x y yt => exact ok_binOp hT h hd op t x y yt ho hrun hobl
  | unOp op t x => exact ok_unOp h hd op t x ho hrun
  | convert s d x => exact ok_convert hT h hd s d x ho hrun hobl
  | makeInterface t x => exact ok_makeInterface hT h hd t x ho hrun
  | makeFunc f fi ca => exact ok_makeFunc h hd f fi ca ho hrun
  | makeSlice t x y => exact ok_makeSlice hT h hd t x y ho hrun hobl
  | slice t x lo hi mx => exact ok_slice hT h hd t x lo hi mx ho hrun hobl
  | fieldAddr t x f => exact ok_fieldAddr hT h hd t x f ho hrun
  | field t x f => exact ok_field hT h hd t x f ho hrun
  | indexAddr t x i => exact ok_indexAddr hT h hd t x i ho hrun hobl
  | index t x i => exact ok_index hT h hd t x i ho hrun hobl
  | extract x i => exact ok_extract h hd x i ho hrun
  | call c =>
    obtain ⟨callee, args, ts⟩ := c
    cases callee with
    | value f => exact ok_call h hd f args ts ho hrun hobl
    | invoke r m => simp [exec1, ho, Pg.run] at hrun
    | builtin b =>
      cases b with
      | len => exact ok_len hT h hd args ts ho hrun
      | cap => exact ok_cap hT h hd args ts ho hrun
      | min => exact ok_min h hd args ts ho hrun
      | max => exact ok_max h hd args ts ho hrun
      | append => exact ok_append hT h hd args ts ho hrun hobl
      | copy => exact ok_copy hT h hd args ts ho hrun hobl
      | _ => simp [exec1, ho, Pg.run] at hrun
  | _ => simp [exec1, ho, Pg.run] at hrun
end

/-- What one operation has done. -/
structure Rec where
  dst : Option Nat
  val : AV
  ups : List (Nat × Blk)
  rds : List Nat
def St.stp (σ : St) (r : Rec) : St := ⟨putO σ.slots r.dst r.val, puts σ.hp r.ups⟩
def gslot (ops : Array Oper) (j : Nat) : Option Nat := (ops[j]?).bind (·.dst)
/-- Is the operation wanted? (none: not known) -/
def wantB (ops : Array Oper) (o : Oper) (slot : Nat → Option AV) : Option Bool :=
  match o.guard with
  | none => some true
  | some (j, want) => match gslot ops j with
    | some d => (match slot d with
      | some (.b b) => some (b == want)
      | some (.tup []) => some false
      | _ => none)
    | none => none
def dstB (nt : Nat) (d : Option Nat) : Bool := match d with | some d => Nat.blt d nt | none => true
def step1 (P : Program) (T : Tab) (ovs : List (Nat × Ov)) (nt : Nat) (ops : Array Oper) (i : Nat) (o : Oper) (σ : St) : Option (Rec × List Prop) :=
  if dstB nt o.dst then
    match wantB ops o (look σ.slots) with
    | some true => (match (exec1 P T ((look ovs i).getD {}) o σ.ev).run (look σ.hp) [] with
      | some (eff, log) => some (⟨o.dst, (told ((look ovs i).getD {}) eff).val, eff.ups, log⟩, (told ((look ovs i).getD {}) eff).obl)
      | none => none)
    | some false => some (⟨o.dst, undefA, [], []⟩, [])
    | none => none
  else none
/-- A region, in the order of the text. -/
def runR (P : Program) (T : Tab) (ovs : List (Nat × Ov)) (nt : Nat) (ops : Array Oper) : Nat → List Oper → St → Option (List Rec × List Prop)
  | _, [], _ => some ([], [])
  | i, o :: l, σ => match step1 P T ovs nt ops i o σ with
    | some (r, p) => (match runR P T ovs nt ops (i + 1) l (σ.stp r) with
      | some (rs, ps) => some (r :: rs, p ++ ps)
      | none => none)
    | none => none
def St.recs (σ : St) (rs : List Rec) : St := rs.foldl St.stp σ

section
variable {P : Program} {E : Env} {T : Tab} {σ : St} {pl : Nat → Value} {a : Act} {w : World}

theorem want_ok {ops : Array Oper} {o : Oper} {b : Bool} (h : RelX E σ pl a w) (hw : wantB ops o (look σ.slots) = some b) : Region.wanted o (yielded ops a.tmps) = b := by
  unfold wantB at hw
  unfold Region.wanted
  split at hw
  · rename_i hg
    simp only [Option.some.injEq] at hw
    rw [hg]
    exact hw
  · rename_i j want hg
    rw [hg]
    simp only
    split at hw
    · rename_i d hd
      split at hw
      · rename_i b' hs
        simp only [Option.some.injEq] at hw
        obtain ⟨v, hv, hr⟩ := h.slots d _ hs
        have := relv_toV hr rfl
        subst this
        unfold yielded
        unfold gslot at hd
        rw [hd]
        simp only [Option.bind_some, hv]
        rw [← hw]
        cases b' <;> cases want <;> rfl
      · rename_i hs
        simp only [Option.some.injEq] at hw
        obtain ⟨v, hv, hr⟩ := h.slots d _ hs
        have hr0 := relv_tup hr
        unfold yielded
        unfold gslot at hd
        rw [hd]
        simp only [Option.bind_some, hv]
        cases hr0 with
        | tup _ vs => rw [← hw]; rfl
      · cases hw
    · cases hw

/-- One operation of a region, carried out or passed over. -/
theorem step1_ok {ovs : List (Nat × Ov)} {ops : Array Oper} {i : Nat} {o : Oper} {r : Rec} {ps : List Prop} (hT : TabOk P T) (hi : ops[i]? = some o) (hs : step1 P T ovs E.nt ops i o σ = some (r, ps)) (hp : ∀ p ∈ ps, p) (h : Rel E σ a w)
    {K : Act → World → Prop} {Q : Exit → Act → World → Prop} (hK : ∀ a' w', Rel E (σ.stp r) a' w' → K a' w') : wpOp P ops Q i K a w := by
  obtain ⟨pl, h⟩ := h
  unfold step1 at hs
  split at hs
  · rename_i hdst
    have hd : ∀ q, o.dst = some q → q < E.nt := by
      intro q hq
      unfold dstB at hdst
      rw [hq] at hdst
      simpa using hdst
    unfold wpOp
    rw [hi]
    simp only
    split at hs
    · rename_i hw
      rw [want_ok h hw]
      simp only [if_true]
      split at hs
      · rename_i eff log hrun
        simp only [Option.some.injEq, Prod.mk.injEq] at hs
        obtain ⟨rfl, rfl⟩ := hs
        left
        have hobl : All eff.obl := All.of fun p hp' => hp p (by
          unfold told
          split
          · exact List.mem_cons_of_mem _ hp'
          · exact hp')
        refine exec1_ok hT h hd hrun hobl K Q fun a' w' hr => hK a' w' ?_
        have hval : (told ((look ovs i).getD {}) eff).val = eff.val := by
          unfold told at hp ⊢
          split
          · rename_i x hx
            simp only
            have : eff.val = x := hp _ (by simp [hx])
            exact this.symm
          · rfl
        have hst : σ.stp ⟨o.dst, (told ((look ovs i).getD {}) eff).val, eff.ups, log⟩ = σ.app o.dst eff := by
          unfold St.stp St.app
          simp only [hval]
          rfl
        rw [hst]
        exact hr
      · cases hs
    · rename_i hw
      rw [want_ok h hw]
      simp only [Bool.false_eq_true, if_false]
      simp only [Option.some.injEq, Prod.mk.injEq] at hs
      obtain ⟨rfl, _⟩ := hs
      exact hK _ _ ⟨pl, h.put o.dst hd (.pure _ _ undef_rel)⟩
    · cases hs
  · cases hs

theorem wpOps_run {ovs : List (Nat × Ov)} {ops : Array Oper} {Q : Exit → Act → World → Prop} (hT : TabOk P T) : ∀ (l : List Oper) (i : Nat) (σ : St) (rs : List Rec) (ps : List Prop), (∀ j, l[j]? = ops[i + j]?) →
    runR P T ovs E.nt ops i l σ = some (rs, ps) → (∀ p ∈ ps, p) → (∀ a' w', Rel E (σ.recs rs) a' w' → Q .normal a' w') → ∀ a w, Rel E σ a w → wpOps P ops Q (List.range' i l.length) a w
  | [], i, σ, rs, ps, _, hr, _, hQ, a, w, h => by
    simp only [runR, Option.some.injEq, Prod.mk.injEq] at hr
    obtain ⟨rfl, _⟩ := hr
    exact hQ a w h
  | o :: l, i, σ, rs, ps, hl, hr, hp, hQ, a, w, h => by
    simp only [runR] at hr
    cases h1 : step1 P T ovs E.nt ops i o σ with
    | none => rw [h1] at hr; cases hr
    | some x =>
      obtain ⟨r, p1⟩ := x
      rw [h1] at hr
      simp only at hr
      cases h2 : runR P T ovs E.nt ops (i + 1) l (σ.stp r) with
      | none => rw [h2] at hr; cases hr
      | some y =>
        obtain ⟨rs', p2⟩ := y
        rw [h2] at hr
        simp only [Option.some.injEq, Prod.mk.injEq] at hr
        obtain ⟨rfl, rfl⟩ := hr
        have hi : ops[i]? = some o := by have := hl 0; simpa using this.symm
        rw [List.length_cons, List.range'_succ, wpOps_cons]
        exact step1_ok hT hi h1 (fun p hp' => hp p (List.mem_append_left _ hp')) h fun a' w' hr' =>
          wpOps_run hT l (i + 1) (σ.stp r) rs' p2 (fun j => by have := hl (j + 1); simpa [Nat.add_assoc, Nat.add_comm 1 j] using this) h2 (fun p hp' => hp p (List.mem_append_right _ hp')) hQ a' w' hr'

theorem Rel.drew (h : Rel E σ a w) : Rel E σ a { w with drawn := w.drawn + 1 } := by
  obtain ⟨pl, h⟩ := h
  exact ⟨pl, (h.grow (w' := { w with drawn := w.drawn + 1 }) ⟨rfl, rfl, rfl, Nat.le_refl _, fun _ _ => rfl⟩).1⟩

theorem region_seq {ovs : List (Nat × Ov)} {ops : Array Oper} {id : Nat} {Q : Exit → Act → World → Prop} {rs : List Rec} {ps : List Prop} (hT : TabOk P T) (hr : runR P T ovs E.nt ops 0 ops.toList σ = some (rs, ps)) (hp : ∀ p ∈ ps, p)
    (hQ : ∀ a' w', Rel E (σ.recs rs) a' w' → Q .normal a' w') (h : Rel E σ a w) : (Code.region id ops false).wp P Q a w := by
  refine wp_region ?_
  have := wpOps_run (P := P) (E := E) (ovs := ovs) (ops := ops) (Q := Q) hT ops.toList 0 σ rs ps (fun j => by simp) hr hp hQ a w h
  rwa [Array.length_toList, ← List.range_eq_range'] at this
end
end Go.E
