/- ER: contracts of calls that hand back memory of their own, from a walk. Conditions: none. -/
import Derived.Test.YtjngmlkaijpbgaaEP
set_option linter.unusedVariables false
set_option linter.unusedSimpArgs false
namespace Go.E
open Go.RowKit
section
variable {P : Program} {E : Env} {T : Tab} {σ : St} {c : Code} {nt : Nat}

/-- The result's variable holds the row (the nil slice where it is empty), or points to the array. -/
def ResB (rv : ResultVar) (ty : Nat) (k : BK) (σ : St) : Prop :=
  ∃ t, rv = .tmp t ∧
    ((∃ id ver sz rows, look σ.slots t = some (.own id ver) ∧ look σ.hp id = some ⟨ver, ty, .row sz rows⟩ ∧ k = .row sz rows) ∨
     (∃ sz, look σ.slots t = some .nl ∧ k = .row sz []) ∨
     (∃ id ver cells, look σ.slots t = some (.ptr id ver 0 0) ∧ look σ.hp id = some ⟨ver, ty, .arr cells⟩ ∧ k = .arr cells))
def QRetB (rv : ResultVar) (ty : Nat) (k : BK) : Exit → St → Prop
  | .normal, σ => ResB rv ty k σ
  | .ret, σ => ResB rv ty k σ
  | _, _ => False
theorem run_resB {a : Act} {w : World} {pl : Nat → Value} {rv : ResultVar} {ty : Nat} {k : BK} (h : RelX E σ pl a w) (hr : ResB rv ty k σ) :
    ∃ v, (runRes a.tmps rv).run P w = .ok v w ∧ BlkRel E.w0.heap.size (fun _ => none) (fun _ => .bool false) (fun b => (E.S0 b ∨ (E.w0.heap.size ≤ b ∧ b < w.heap.size)) ∧ blkOf v ≠ some b) w v ⟨0, ty, k⟩ := by
  obtain ⟨t, rfl, hr⟩ := hr
  have slot : ∀ av, look σ.slots t = some av → ∃ v, (runRes a.tmps (.tmp t)).run P w = .ok v w ∧ RelV (look σ.hp) pl (SS E (look σ.hp) pl w) w av v := by
    intro av hs
    obtain ⟨v, h1, h2⟩ := h.slots t av hs
    exact ⟨v, by simp [runRes, Array.getD_eq_getD_getElem?, h1], h2⟩
  have hS : ∀ {id : Nat} {B : Blk}, look σ.hp id = some B → B.live = true → ∀ b, SS E (look σ.hp) pl w b → (E.S0 b ∨ (E.w0.heap.size ≤ b ∧ b < w.heap.size)) ∧ blkOf (pl id) ≠ some b := by
    intro id B hB hl b hb
    rcases hb with hb | ⟨h1, h2, h3⟩
    · refine ⟨.inl hb, fun e => ?_⟩
      have := (h.blk_lt hB hl e).1
      have := E.hS0 b hb
      omega
    · exact ⟨.inr ⟨h1, h2⟩, h3 id B hB hl⟩
  rcases hr with ⟨id, ver, sz, rows, h1, h2, rfl⟩ | ⟨sz, h1, rfl⟩ | ⟨id, ver, cells, h1, h2, rfl⟩
  · obtain ⟨v, e1, e2⟩ := slot _ h1
    have hl : (⟨ver, ty, .row sz rows⟩ : Blk).live = true := rfl
    have := relv_own e2 h2 rfl hl
    subst this
    obtain ⟨c1, xs, c2, c3, c4⟩ := h.rowCell h2 rfl
    exact ⟨_, e1, c1, xs, c2, c3, fun j b u hb hu => (c4 j b u hb hu).mono (hS h2 hl) (fun _ _ => rfl)⟩
  · obtain ⟨v, e1, e2⟩ := slot _ h1
    have := relv_nl e2
    subst this
    exact ⟨_, e1, fun r hr => by simp at hr, [], World.ownsRow_nil _ _ _ _, fun u hu => by simp at hu, fun j b u hb => by simp at hb⟩
  · obtain ⟨v, e1, e2⟩ := slot _ h1
    have hl : (⟨ver, ty, .arr cells⟩ : Blk).live = true := rfl
    obtain ⟨g, hg, he⟩ := relv_ptr e2 h2 rfl hl
    obtain ⟨g', vs, d1, d2, d3, d4, d5⟩ := h.arrCell h2 rfl
    have hgg : g' = g := by rw [d1] at hg; simpa [blkOf] using hg
    subst hgg
    simp only [Blk.off, Nat.add_zero] at he
    subst he
    refine ⟨_, e1, g', vs, rfl, ?_, d2, d3, d4, fun j b u hb hu => (d5 j b u hb hu).mono (fun b hb => ?_) (fun _ _ => rfl)⟩
    · exact (h.blk_lt h2 hl hg).1
    · have := hS h2 hl b hb
      rw [d1] at this
      exact this
theorem conB_of_awp {f : FuncId} {fn : Func} {args : List AV} {ty : Nat} {k : BK} (rv : ResultVar) (hf : P.funcs[f]? = some fn) (hb : fn.body = some c) (hn : (fn.name == "runtime.NumGoroutine") = false) (hl : Nat.ble args.length fn.ntmps = true)
    (hts : fn.results = #[rv]) (h : ∀ E : Env, E.nt = fn.ntmps → AWP P E c (QRetB rv ty k) ⟨slots0 0 args, []⟩) : ConB P f args ty k := by
  have hl' : args.length ≤ fn.ntmps := Nat.le_of_ble_eq_true hl
  refine ⟨⟨fn, hf, hn, by rw [hb]; rfl⟩, fun w S0 vs hS0 hvl hv => ?_⟩
  refine calls_of_wp hf hb ?_
  have hrel : RelX ⟨w, S0, fn.ntmps, hS0⟩ ⟨slots0 0 args, []⟩ (fun _ => undef) { tmps := vs.toArray ++ Array.replicate (fn.ntmps - vs.toArray.size) undef, defers := [] } w := by
    refine ⟨by simp; omega, rfl, Below.refl _ _, fun t av ht => ?_, fun id B hB => by simp [look] at hB, fun id id' B B' hB => by simp [look] at hB⟩
    rw [look_slots0, if_pos (by omega), Nat.sub_zero] at ht
    have hlt : t < args.length := by
      by_cases e : t < args.length
      · exact e
      · rw [List.getElem?_eq_none (by omega)] at ht; cases ht
    have h1 : vs[t]? = some (vs[t]'(by omega)) := List.getElem?_eq_getElem (by omega)
    refine ⟨vs[t]'(by omega), ?_, .pure _ _ ((hv t av _ ht h1).mono (fun k hk => .inl hk) (fun _ _ => rfl))⟩
    rw [Array.getElem?_append_left (by simp; omega)]
    simp [h1]
  refine wp_mono (h ⟨w, S0, fn.ntmps, hS0⟩ rfl _ w ⟨_, hrel⟩) fun e a' w' ⟨σ', h1, pl, h2⟩ => ?_
  have fin : ResB rv ty k σ' → a'.defers = [] ∧ ∃ v, (results fn a'.tmps).run P w' = .ok v w' ∧ ∃ v', Ending.returned v = .returned v' ∧
      BlkRel w.heap.size (fun _ => none) (fun _ => .bool false) (fun b => (S0 b ∨ (w.heap.size ≤ b ∧ b < w'.heap.size)) ∧ blkOf v' ≠ some b) w' v' ⟨0, ty, k⟩ ∧ Below w.heap.size w w' := by
    intro hr
    obtain ⟨v, e1, e2⟩ := run_resB (P := P) h2 hr
    exact ⟨h2.dfr, v, results_run1 hts e1, v, rfl, e2, h2.below⟩
  cases e with
  | normal => exact fin h1
  | ret => exact fin h1
  | _ => exact h1.elim
theorem st_conB {f : FuncId} {fn : Func} {args : List AV} {ty : Nat} {k : BK} (hT : TabOk P T) (hm : P.follows .mixedOrders = true) (rv : ResultVar) (nt : Nat) (hf : P.funcs[f]? = some fn)
    (hb : (fn.body.isSome && !(fn.name == "runtime.NumGoroutine") && fn.ntmps == nt && Nat.ble args.length nt) = true)
    (hts : fn.results = #[rv]) (h : ∀ E : Env, Ctx P T E nt → AWP P E (bodyOf fn) (QRetB rv ty k) ⟨slots0 0 args, []⟩) : ConB P f args ty k := by
  simp only [Bool.and_eq_true, Bool.not_eq_true', beq_iff_eq] at hb
  obtain ⟨⟨⟨h1, h2⟩, h3⟩, h4⟩ := hb
  obtain ⟨b, hb'⟩ := Option.isSome_iff_exists.1 h1
  refine conB_of_awp (c := b) rv hf hb' h2 (by rw [h3]; exact h4) hts fun E hE => ?_
  have : bodyOf fn = b := by simp [bodyOf, hb']
  rw [← this]
  exact h E ⟨hT, hm, by rw [hE, h3]⟩
theorem qb_own {rv : ResultVar} {ty sz : Nat} {rows rows' : List (List AV)} (e : Exit) (he : e = .normal ∨ e = .ret) (t id ver : Nat) (hr : rv = .tmp t) (hs : look σ.slots t = some (.own id ver)) (hB : look σ.hp id = some ⟨ver, ty, .row sz rows'⟩) (hk : rows' = rows) : QRetB rv ty (.row sz rows) e σ := by
  subst hk
  rcases he with rfl | rfl <;> exact ⟨t, hr, .inl ⟨id, ver, sz, rows', hs, hB, rfl⟩⟩
theorem qb_nil {rv : ResultVar} {ty sz : Nat} {rows : List (List AV)} (e : Exit) (he : e = .normal ∨ e = .ret) (t : Nat) (hr : rv = .tmp t) (hs : look σ.slots t = some .nl) (hk : rows = []) : QRetB rv ty (.row sz rows) e σ := by
  subst hk
  rcases he with rfl | rfl <;> exact ⟨t, hr, .inr (.inl ⟨sz, hs, rfl⟩)⟩
theorem qb_ptr {rv : ResultVar} {ty : Nat} {cells cells' : List AV} (e : Exit) (he : e = .normal ∨ e = .ret) (t id ver : Nat) (hr : rv = .tmp t) (hs : look σ.slots t = some (.ptr id ver 0 0)) (hB : look σ.hp id = some ⟨ver, ty, .arr cells'⟩) (hk : cells' = cells) : QRetB rv ty (.arr cells) e σ := by
  subst hk
  rcases he with rfl | rfl <;> exact ⟨t, hr, .inr (.inr ⟨id, ver, cells', hs, hB, rfl⟩)⟩
theorem ConB.le {f : FuncId} {args args' : List AV} {ty : Nat} {k : BK} (h : ConB P f args' ty k) (hl : ZLe args args') : ConB P f args ty k := by
  refine ⟨h.1, fun w S0 vs hS hv hr => h.2 w S0 vs hS (hv.trans hl.1) fun j y u hy hu => ?_⟩
  have hj : j < args.length := by
    have := hl.1
    by_cases e : j < args.length
    · exact e
    · rw [List.getElem?_eq_none (by omega)] at hy; cases hy
  exact hl.2 j _ y (List.getElem?_eq_getElem hj) hy S0 w u (hr j _ u (List.getElem?_eq_getElem hj) hu)
theorem conB_len {f : FuncId} {args : List AV} {ty : Nat} {k : BK} (j : Nat) {rows : List (List AV)} (hj : args[j]? = some (.sl rows)) (hc : Callable P f) (kk : rows.length ≤ maxLen → ConB P f args ty k) : ConB P f args ty k := by
  refine ⟨hc, fun w S0 vs hS hl hv => ?_⟩
  have hlt : j < args.length := by
    by_cases e : j < args.length
    · exact e
    · rw [List.getElem?_eq_none (by omega)] at hj; cases hj
  have hm : rows.length ≤ maxLen := by
    have h0 := hv j _ _ hj (List.getElem?_eq_getElem (by omega : j < vs.length))
    generalize vs[j]'(by omega) = v at h0
    cases h0 with
    | sl _ A cap sz u hc hm => exact hm
  exact (kk hm).2 w S0 vs hS hl hv
theorem conB_lens {α : Type} {f : FuncId} {fn : Func} {args : List AV} {ty : Nat} {k : BK} (j : Nat) (g : α → List AV) (xs : List α) (hj : args[j]? = some (.sl (xs.map g))) (hf : P.funcs[f]? = some fn) (hb : (fn.body.isSome && !(fn.name == "runtime.NumGoroutine")) = true) (kk : xs.length ≤ 9223372036854775807 → ConB P f args ty k) : ConB P f args ty k :=
  conB_len j hj (callable_of hf hb) fun h => kk (by rw [List.length_map] at h; exact h)
/-- A call that hands back memory of its own, as one that hands back what nobody writes. -/
theorem ConB.toCon {f : FuncId} {args : List AV} {ty sz : Nat} {rows : List (List AV)} (h : ConB P f args ty (.row sz rows)) : Con P f args (.sl rows) := by
  refine ⟨h.1, fun w S0 vs hS hl hv => (h.2 w S0 vs hS hl hv).mono fun e w' ⟨v, e1, e2, e3⟩ => ⟨v, e1, ?_, e3⟩⟩
  obtain ⟨_, xs, ho, _, _⟩ := id e2
  refine row_sl (B := ⟨0, ty, .row sz rows⟩) e2 rfl (fun k hk => hk.1) fun k hk => .inr ?_
  rcases ho.2 with ⟨rfl, _⟩ | ⟨g, cap, cur, rfl, g1, g2, _⟩
  · simp [blkOf] at hk
  · simp [blkOf] at hk
    subst hk
    exact ⟨g1, (Array.getElem?_eq_some_iff.1 g2).1⟩
theorem told_chunk {cs : List AV} {n : Nat} (h : cs.length = n) : chunks n 1 ([] ++ cs ++ []) = [cs] := by
  simp only [chunks, List.nil_append, List.append_nil]
  rw [List.take_of_length_le (by omega)]
end
end Go.E
