/- EP: the laws of a walk that is written out: the code is never written: it is read out of the function by its parts. Conditions: none. -/
import Derived.Test.YtjngmlkaijpbgaaEI
set_option linter.unusedVariables false
set_option linter.unusedSimpArgs false
namespace Go.E
open Go.RowKit

def bodyOf (fn : Func) : Code := fn.body.getD .skip
def cL : Code → Code | .seq a _ => a | _ => .skip
def cR : Code → Code | .seq _ b => b | _ => .skip
def cT : Code → Code | .cond _ t _ => t | _ => .skip
def cF : Code → Code | .cond _ _ f => f | _ => .skip
def cQ : Code → Operand | .cond q _ _ => q | _ => .const (.bool false)
def cB : Code → Code | .block _ b => b | .loop b => b | _ => .skip
def cO : Code → Array Oper | .region _ ops _ => ops | _ => #[]
/-- What kind of code it is; of a block and an exit: which. -/
def kindOf : Code → Nat
  | .skip => 0
  | .region _ _ false => 1
  | .region _ _ true => 2
  | .seq _ _ => 3
  | .cond _ _ _ => 4
  | .loop _ => 6
  | .ret => 8
  | .block i _ => 100 + 2 * i
  | .exit i => 101 + 2 * i
  | _ => 9

/-- A region, carried out: the obligations and the state, made narrower. -/
def regN (P : Program) (T : Tab) (ovs : List (Nat × Ov)) (nt : Nat) (c : Code) (σ : St) (ks kb : List Nat) : Option (Prop × St) :=
  match runR P T ovs nt (cO c) 0 (cO c).toList σ with
  | some (rs, ps) => some (All ps, (σ.recs rs).norm [] ks kb)
  | none => none
/-- The same, of a region whose order the model draws. -/
def regA (P : Program) (T : Tab) (ovs : List (Nat × Ov)) (nt : Nat) (c : Code) (σ : St) (ks kb : List Nat) : Option (Prop × St) :=
  match runR P T ovs nt (cO c) 0 (cO c).toList σ with
  | some (rs, ps) => if ordB (cO c) rs then some (All ps, (σ.recs rs).norm [] ks kb) else none
  | none => none

section
variable {P : Program} {E : Env} {T : Tab} {σ : St} {Q : Exit → St → Prop} {c : Code} {nt : Nat}

theorem st_skip (h : kindOf c = 0) (k : Q .normal σ) : AWP P E c Q σ := by
  cases c with
  | skip => exact awp_skip k
  | region i o d => cases d <;> simp [kindOf] at h
  | block => simp [kindOf] at h <;> omega
  | exit => simp [kindOf] at h
  | _ => simp [kindOf] at h
theorem st_ret (h : kindOf c = 8) (k : Q .ret σ) : AWP P E c Q σ := by
  cases c with
  | ret => exact awp_ret k
  | region i o d => cases d <;> simp [kindOf] at h
  | block => simp [kindOf] at h <;> omega
  | exit => simp [kindOf] at h <;> omega
  | _ => simp [kindOf] at h
theorem st_seq (h : kindOf c = 3) (k : AWP P E (cL c) (QSeq (AWP P E (cR c) Q) Q) σ) : AWP P E c Q σ := by
  cases c with
  | seq a b => exact awp_seq k
  | region i o d => cases d <;> simp [kindOf] at h
  | block => simp [kindOf] at h <;> omega
  | exit => simp [kindOf] at h <;> omega
  | _ => simp [kindOf] at h
theorem st_block (i : Nat) (h : kindOf c = 100 + 2 * i) (k : AWP P E (cB c) (QBlk i Q) σ) : AWP P E c Q σ := by
  cases c with
  | block j b =>
    simp [kindOf] at h
    have hij : j = i := by omega
    subst hij
    exact awp_block k
  | region i o d => cases d <;> simp [kindOf] at h <;> omega
  | exit => simp [kindOf] at h <;> omega
  | _ => simp [kindOf] at h <;> omega
theorem st_exit (i : Nat) (h : kindOf c = 101 + 2 * i) (k : Q (.exit i) σ) : AWP P E c Q σ := by
  cases c with
  | exit j =>
    simp [kindOf] at h
    have hij : j = i := by omega
    subst hij
    exact awp_exit k
  | region i o d => cases d <;> simp [kindOf] at h <;> omega
  | block => simp [kindOf] at h <;> omega
  | _ => simp [kindOf] at h <;> omega
theorem st_true (h : kindOf c = 4) (hq : σ.ev (cQ c) = some (.b true)) (k : AWP P E (cT c) Q σ) : AWP P E c Q σ := by
  cases c with
  | cond q x y => exact aw_cond_true hq k
  | region i o d => cases d <;> simp [kindOf] at h
  | block => simp [kindOf] at h <;> omega
  | exit => simp [kindOf] at h <;> omega
  | _ => simp [kindOf] at h
theorem st_false (h : kindOf c = 4) (hq : σ.ev (cQ c) = some (.b false)) (k : AWP P E (cF c) Q σ) : AWP P E c Q σ := by
  cases c with
  | cond q x y => exact aw_cond_false hq k
  | region i o d => cases d <;> simp [kindOf] at h
  | block => simp [kindOf] at h <;> omega
  | exit => simp [kindOf] at h <;> omega
  | _ => simp [kindOf] at h
theorem st_dec (p : Prop) [Decidable p] (h : kindOf c = 4) (hq : σ.ev (cQ c) = some (.b (decide p))) (k1 : p → AWP P E (cT c) Q σ) (k2 : ¬p → AWP P E (cF c) Q σ) : AWP P E c Q σ := by
  cases c with
  | cond q x y => exact aw_cond_dec p hq k1 k2
  | region i o d => cases d <;> simp [kindOf] at h
  | block => simp [kindOf] at h <;> omega
  | exit => simp [kindOf] at h <;> omega
  | _ => simp [kindOf] at h
theorem st_cond (t : Bool) (h : kindOf c = 4) (hq : σ.ev (cQ c) = some (.b t)) (k1 : t = true → AWP P E (cT c) Q σ) (k2 : t = false → AWP P E (cF c) Q σ) : AWP P E c Q σ := by
  cases c with
  | cond q x y => exact awp_cond t hq k1 k2
  | region i o d => cases d <;> simp [kindOf] at h
  | block => simp [kindOf] at h <;> omega
  | exit => simp [kindOf] at h <;> omega
  | _ => simp [kindOf] at h
theorem st_dec' (t : Bool) (h : kindOf c = 4) (hq : σ.ev (cQ c) = some (.b t)) (k1 : t = true → AWP P E (cT c) Q σ) (k2 : ¬ t = true → AWP P E (cF c) Q σ) : AWP P E c Q σ :=
  st_cond t h hq k1 fun e => k2 (by rw [e]; simp)
theorem st_split (p : Prop) (k1 : p → AWP P E c Q σ) (k2 : ¬p → AWP P E c Q σ) : AWP P E c Q σ := aw_split p k1 k2
theorem st_join {σ' : St} (h1 : AWP P E c (fun e s => e = .normal ∧ s = σ') σ) (h2 : Q .normal σ') : AWP P E c Q σ :=
  h1.mono fun e s ⟨e1, e2⟩ => by subst e1; subst e2; exact h2
theorem st_reg {σ' : St} {A : Prop} (cx : Ctx P T E nt) (ovs : List (Nat × Ov)) (ks kb : List Nat) (h : kindOf c = 1) (hr : regN P T ovs nt c σ ks kb = some (A, σ')) (hA : A) (k : Q .normal σ') : AWP P E c Q σ := by
  cases c with
  | region i o d =>
    cases d with
    | true => simp [kindOf] at h
    | false =>
      unfold regN at hr
      split at hr
      · rename_i rs ps hrun
        simp only [Option.some.injEq, Prod.mk.injEq] at hr
        obtain ⟨rfl, rfl⟩ := hr
        exact fun a w hrel => wp_mono (aw_region (Q := fun e s => e = .normal ∧ s = σ.recs rs) cx hrun rfl hA ⟨rfl, rfl⟩ a w hrel) fun e a' w' ⟨s, ⟨e1, e2⟩, h2⟩ => by
          subst e1
          subst e2
          exact ⟨_, k, h2.norm [] ks kb⟩
      · cases hr
  | block => simp [kindOf] at h <;> omega
  | exit => simp [kindOf] at h <;> omega
  | _ => simp [kindOf] at h
theorem st_any {σ' : St} {A : Prop} (cx : Ctx P T E nt) (ovs : List (Nat × Ov)) (ks kb : List Nat) (h : kindOf c = 2) (hr : regA P T ovs nt c σ ks kb = some (A, σ')) (hA : A) (k : Q .normal σ') : AWP P E c Q σ := by
  cases c with
  | region i o d =>
    cases d with
    | false => simp [kindOf] at h
    | true =>
      unfold regA at hr
      split at hr
      · rename_i rs ps hrun
        split at hr
        · rename_i hord
          simp only [Option.some.injEq, Prod.mk.injEq] at hr
          obtain ⟨rfl, rfl⟩ := hr
          exact fun a w hrel => wp_mono (aw_region_any (Q := fun e s => e = .normal ∧ s = σ.recs rs) cx hrun hord rfl hA ⟨rfl, rfl⟩ a w hrel) fun e a' w' ⟨s, ⟨e1, e2⟩, h2⟩ => by
            subst e1
            subst e2
            exact ⟨_, k, h2.norm [] ks kb⟩
        · cases hr
      · cases hr
  | block => simp [kindOf] at h <;> omega
  | exit => simp [kindOf] at h <;> omega
  | _ => simp [kindOf] at h
theorem st_loop {X : Type} (H : X → St) (dec : X → Nat) (inv : X → Prop) (ks kb : List Nat) (x0 : X) (h : kindOf c = 6) (h0 : σ.norm [] ks kb = H x0) (hi : inv x0)
    (hs : ∀ x, inv x → AWP P E (cB c) (QSeq (LoopNext H dec inv ks kb (dec x)) Q) (H x)) : AWP P E c Q σ := by
  cases c with
  | loop b => exact awp_loopX H dec inv ks kb x0 h0 hi hs
  | region i o d => cases d <;> simp [kindOf] at h
  | block => simp [kindOf] at h <;> omega
  | exit => simp [kindOf] at h <;> omega
  | _ => simp [kindOf] at h
theorem st_con {f : FuncId} {fn : Func} {args : List AV} {res : AV} (hT : TabOk P T) (hm : P.follows .mixedOrders = true) (rs : List ResultVar) (nt : Nat) (hf : P.funcs[f]? = some fn)
    (hb : (fn.body.isSome && !(fn.name == "runtime.NumGoroutine") && fn.ntmps == nt && Nat.ble args.length nt && Nat.ble rs.length 4) = true)
    (hts : fn.results = rs.toArray) (h : ∀ E : Env, Ctx P T E nt → AWP P E (bodyOf fn) (QRet T rs res) ⟨slots0 0 args, []⟩) : Con P f args res := by
  simp only [Bool.and_eq_true, Bool.not_eq_true', beq_iff_eq] at hb
  obtain ⟨⟨⟨⟨h1, h2⟩, h3⟩, h4⟩, h5⟩ := hb
  obtain ⟨b, hb'⟩ := Option.isSome_iff_exists.1 h1
  refine con_of_body (c := b) hT hm rs nt hf hb' h2 h3 h4 hts h5 ?_
  have : bodyOf fn = b := by simp [bodyOf, hb']
  rw [← this]
  exact h
/-- A slice that is handed in is no longer than can be: a contract may take that for granted. -/
theorem con_len {f : FuncId} {args : List AV} {res : AV} (j : Nat) {rows : List (List AV)} (hj : args[j]? = some (.sl rows)) (hc : Callable P f) (k : rows.length ≤ maxLen → Con P f args res) : Con P f args res := by
  refine ⟨hc, fun w S0 vs hS hl hv => ?_⟩
  have hlt : j < args.length := by
    by_cases e : j < args.length
    · exact e
    · rw [List.getElem?_eq_none (by omega)] at hj; cases hj
  have hm : rows.length ≤ maxLen := by
    have h0 := hv j _ _ hj (List.getElem?_eq_getElem (by omega : j < vs.length))
    generalize vs[j]'(by omega) = v at h0
    cases h0 with
    | sl _ A cap sz u hc hm => exact hm
  exact (k hm).2 w S0 vs hS hl hv
theorem con_lens {α : Type} {f : FuncId} {fn : Func} {args : List AV} {res : AV} (j : Nat) (g : α → List AV) (xs : List α) (hj : args[j]? = some (.sl (xs.map g))) (hf : P.funcs[f]? = some fn) (hb : (fn.body.isSome && !(fn.name == "runtime.NumGoroutine")) = true) (k : xs.length ≤ 9223372036854775807 → Con P f args res) : Con P f args res := by
  refine con_len j hj ?_ fun h => k (by rw [List.length_map] at h; exact h)
  simp only [Bool.and_eq_true, Bool.not_eq_true'] at hb
  refine ⟨fn, hf, hb.2, ?_⟩
  cases h : fn.body with
  | none => rw [h] at hb; simp at hb
  | some c => rfl
theorem callable_of {f : FuncId} {fn : Func} (hf : P.funcs[f]? = some fn) (hb : (fn.body.isSome && !(fn.name == "runtime.NumGoroutine")) = true) : Callable P f := by
  simp only [Bool.and_eq_true, Bool.not_eq_true'] at hb
  refine ⟨fn, hf, hb.2, ?_⟩
  cases h : fn.body with
  | none => rw [h] at hb; simp at hb
  | some c => rfl
end
end Go.E
