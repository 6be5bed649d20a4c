/- EH: control: sequences, branches, blocks, loops; states made narrower; a function's contract from its body. Conditions: none. -/
import Derived.Test.YtjngmlkaijpbgaaEG
set_option linter.unusedVariables false
set_option linter.unusedSimpArgs false
namespace Go.E
open Go.RowKit

/-- From every world that the state tells of, the code comes to an exit and a state of Q's. -/
def AWP (P : Program) (E : Env) (c : Code) (Q : Exit → St → Prop) (σ : St) : Prop :=
  ∀ a w, Rel E σ a w → c.wp P (fun e a' w' => ∃ σ', Q e σ' ∧ Rel E σ' a' w') a w
def QSeq (N : St → Prop) (Q : Exit → St → Prop) : Exit → St → Prop
  | .normal, σ => N σ
  | e, σ => Q e σ
def QBlk (id : Nat) (Q : Exit → St → Prop) : Exit → St → Prop
  | .exit i, σ => if i = id then Q .normal σ else Q (.exit i) σ
  | e, σ => Q e σ

section
variable {P : Program} {E : Env} {T : Tab} {σ : St} {Q : Exit → St → Prop} {c x y : Code}

theorem AWP.mono {Q' : Exit → St → Prop} (h : AWP P E c Q σ) (hq : ∀ e σ, Q e σ → Q' e σ) : AWP P E c Q' σ :=
  fun a w hr => wp_mono (h a w hr) fun e a' w' ⟨σ', h1, h2⟩ => ⟨σ', hq _ _ h1, h2⟩
theorem awp_skip (h : Q .normal σ) : AWP P E .skip Q σ := fun a w hr => wp_skip ⟨σ, h, hr⟩
theorem awp_ret (h : Q .ret σ) : AWP P E .ret Q σ := fun a w hr => wp_ret ⟨σ, h, hr⟩
theorem awp_exit {id : Nat} (h : Q (.exit id) σ) : AWP P E (.exit id) Q σ := fun a w hr => wp_exit ⟨σ, h, hr⟩
theorem awp_seq (h : AWP P E x (QSeq (AWP P E y Q) Q) σ) : AWP P E (.seq x y) Q σ := fun a w hr => wp_seq <| wp_mono (h a w hr) fun e a' w' ⟨σ', h1, h2⟩ => by
  cases e with
  | normal => exact h1 a' w' h2
  | _ => exact ⟨σ', h1, h2⟩
theorem awp_block {id : Nat} (h : AWP P E c (QBlk id Q) σ) : AWP P E (.block id c) Q σ := fun a w hr => wp_block <| wp_mono (h a w hr) fun e a' w' ⟨σ', h1, h2⟩ => by
  cases e with
  | exit i =>
    simp only [QBlk] at h1
    simp only [Exit.inBlock]
    split at h1
    · rename_i e; rw [if_pos e]; exact ⟨σ', h1, h2⟩
    · rename_i e; rw [if_neg e]; exact ⟨σ', h1, h2⟩
  | _ => exact ⟨σ', h1, h2⟩
theorem awp_cond {q : Operand} (t : Bool) (hq : σ.ev q = some (.b t)) (h1 : t = true → AWP P E x Q σ) (h2 : t = false → AWP P E y Q σ) : AWP P E (.cond q x y) Q σ := fun a w hr => by
  obtain ⟨pl, hx⟩ := hr
  have hr := hx.ev hq
  have he : a.eval q = .bool t := (relv_toV hr rfl)
  exact wp_cond_split he (fun e => h1 e a w ⟨pl, hx⟩) (fun e => h2 e a w ⟨pl, hx⟩)
theorem awp_loop (I : Nat → St → Prop) (n : Nat) (h0 : I n σ) (hstep : ∀ n σ', I n σ' → AWP P E c (QSeq (fun σ'' => ∃ m, m < n ∧ I m σ'') Q) σ') : AWP P E (.loop c) Q σ := fun a w hr => by
  let J : Act → World → Prop := fun a w => ∃ n σ, I n σ ∧ Rel E σ a w
  have least : ∀ (p : Nat → Prop), (∃ n, p n) → ∃ n, p n ∧ ∀ m, p m → n ≤ m := by
    intro p ⟨n, hn⟩
    induction n using Nat.strongRecOn with
    | _ n ih =>
      by_cases hm : ∃ m, m < n ∧ p m
      · obtain ⟨m, h1, h2⟩ := hm
        exact ih m h1 h2
      · exact ⟨n, hn, fun m h1 => Nat.le_of_not_lt fun h2 => hm ⟨m, h2, h1⟩⟩
  have key : ∀ n (a : Act) (w : World), (∃ σ, I n σ ∧ Rel E σ a w) → (Code.loop c).wp P (fun e a' w' => ∃ σ', Q e σ' ∧ Rel E σ' a' w') a w := by
    intro n0 a0 w0 h00
    have hμ : ∀ (a : Act) (w : World), ∃ m : Nat, ∀ h : J a w, (∃ σ, I m σ ∧ Rel E σ a w) ∧ ∀ m', (∃ σ, I m' σ ∧ Rel E σ a w) → m ≤ m' := by
      intro a w
      by_cases hJ : J a w
      · obtain ⟨n, h1, h2⟩ := least (fun n => ∃ σ, I n σ ∧ Rel E σ a w) hJ
        exact ⟨n, fun _ => ⟨h1, h2⟩⟩
      · exact ⟨0, fun h => absurd h hJ⟩
    let μ : Act → World → Nat := fun a w => Classical.choose (hμ a w)
    have hμs : ∀ (a : Act) (w : World) (h : J a w), (∃ σ, I (μ a w) σ ∧ Rel E σ a w) ∧ ∀ m', (∃ σ, I m' σ ∧ Rel E σ a w) → μ a w ≤ m' := fun a w => Classical.choose_spec (hμ a w)
    refine wp_loop J μ ⟨n0, h00⟩ fun a w hJ => ?_
    obtain ⟨⟨σ1, h1, h2⟩, _⟩ := hμs a w hJ
    refine wp_mono (hstep _ σ1 h1 a w h2) fun e a' w' ⟨σ', h3, h4⟩ => ?_
    cases e with
    | normal =>
      obtain ⟨m, hm, h5⟩ := h3
      have hJ' : J a' w' := ⟨m, σ', h5, h4⟩
      have := (hμs a' w' hJ').2 m ⟨σ', h5, h4⟩
      exact ⟨hJ', by omega⟩
    | _ => exact ⟨σ', h3, h4⟩
  exact key n a w ⟨σ, h0, hr⟩
theorem awp_weak {σ' : St} (hw : ∀ a w, Rel E σ a w → Rel E σ' a w) (h : AWP P E c Q σ') : AWP P E c Q σ := fun a w hr => h a w (hw a w hr)

theorem awp_region {ovs : List (Nat × Ov)} {ops : Array Oper} {id : Nat} {rs : List Rec} {ps : List Prop} {σ' : St} (hT : TabOk P T) (hr : runR P T ovs E.nt ops 0 ops.toList σ = some (rs, ps)) (hp : All ps) (hσ : σ.recs rs = σ') (h : Q .normal σ') : AWP P E (.region id ops false) Q σ := by
  subst hσ
  exact fun a w hr' => region_seq hT hr hp.mem (fun a' w' h' => ⟨_, h, h'⟩) hr'
theorem awp_region_any {ovs : List (Nat × Ov)} {ops : Array Oper} {id : Nat} {rs : List Rec} {ps : List Prop} {σ' : St} (hm : P.follows .mixedOrders = true) (hT : TabOk P T) (hr : runR P T ovs E.nt ops 0 ops.toList σ = some (rs, ps)) (hp : All ps)
    (hord : ordB ops rs = true) (hσ : σ.recs rs = σ') (h : Q .normal σ') : AWP P E (.region id ops true) Q σ := by
  subst hσ
  exact fun a w hr' => region_any hm hT hr hp.mem hord (fun a' w' h' => ⟨_, h, h'⟩) hr'

/-! ### Narrower states -/
/-- A value in the narrower state: rows of fz are read from now on; blocks of kb are kept, at version 0; whatever else led to a block is dead. -/
def nAV (hp : Nat → Option Blk) (fz kb : List Nat) : Nat → AV → AV
  | 0, _ => .dead
  | d + 1, a => match a with
    | .fn f first cap => .fn f (first.map (nAV hp fz kb d)) (cap.map (nAV hp fz kb d))
    | .ifc t x => .ifc t (nAV hp fz kb d x)
    | .own id ver => nOwn hp fz kb id ver (.own id ver) (.own id 0)
    | .vw id ver lo n => nOwn hp fz kb id ver (.vw id ver lo n) (.vw id 0 lo n)
    | .ptr id ver r c => nOwn hp fz kb id ver (.ptr id ver r c) (.ptr id 0 r c)
    | a => a
where nOwn (hp : Nat → Option Blk) (fz kb : List Nat) (id ver : Nat) (a a' : AV) : AV :=
  if fz.contains id then (match (arg1 a).run hp [] with
    | some ((x, ids), _) => if ids.all fz.contains then x else .dead
    | none => .dead)
  else if kb.contains id then (match hp id with | some B => if B.ver == ver && B.live then a' else .dead | none => .dead)
  else .dead
def nK (hp : Nat → Option Blk) (fz kb : List Nat) : BK → BK
  | .var cells => .var (cells.map (nAV hp fz kb 3))
  | k => k
def nHp (hp : Nat → Option Blk) (fz kb : List Nat) (id : Nat) : Option Blk :=
  if fz.contains id then none else match hp id with
  | some B => if B.live then some ⟨0, B.ty, nK hp fz kb B.k⟩ else none
  | none => none
def St.norm (σ : St) (fz ks kb : List Nat) : St :=
  ⟨ks.filterMap fun t => (look σ.slots t).map fun a => (t, nAV (look σ.hp) fz kb 3 a), kb.filterMap fun id => (nHp (look σ.hp) fz kb id).map fun B => (id, B)⟩

theorem look_filterMap {β : Type} (g : Nat → Option β) : ∀ (l : List Nat) (q : Nat), look (l.filterMap fun t => (g t).map fun b => (t, b)) q = if l.contains q then g q else none
  | [], q => rfl
  | t :: l, q => by
    have ih := look_filterMap g l q
    by_cases e : t = q
    · subst e
      cases hg : g t with
      | none =>
        rw [List.filterMap_cons_none (by simp [hg]), ih, hg]
        simp
      | some b =>
        rw [List.filterMap_cons_some (b := (t, b)) (by simp [hg])]
        simp [look]
    · have e' : (q == t) = false := by simpa using fun e' => e e'.symm
      have e2 : (t == q) = false := by simpa using e
      cases hg : g t with
      | none =>
        rw [List.filterMap_cons_none (by simp [hg]), ih, List.contains_cons, e', Bool.false_or]
      | some b =>
        rw [List.filterMap_cons_some (b := (t, b)) (by simp [hg])]
        rw [List.contains_cons, e', Bool.false_or, ← ih]
        simp only [look, e2, Bool.false_eq_true, if_false]

theorem look_norm_hp (σ : St) (fz ks kb : List Nat) (id : Nat) : look (σ.norm fz ks kb).hp id = if kb.contains id then nHp (look σ.hp) fz kb id else none := look_filterMap _ kb id
theorem norm_hp_some {fz ks kb : List Nat} {id : Nat} {B : Blk} (h : look (σ.norm fz ks kb).hp id = some B) : kb.contains id = true ∧ fz.contains id = false ∧ ∃ B0, look σ.hp id = some B0 ∧ B0.live = true ∧ B = ⟨0, B0.ty, nK (look σ.hp) fz kb B0.k⟩ := by
  rw [look_norm_hp] at h
  split at h
  · rename_i hk
    unfold nHp at h
    split at h
    · cases h
    · rename_i hf
      split at h
      · rename_i B0 hB0
        split at h
        · rename_i hl
          simp only [Option.some.injEq] at h
          exact ⟨hk, by simpa using hf, B0, hB0, hl, h.symm⟩
        · cases h
      · cases h
  · cases h
theorem nK_live (hp : Nat → Option Blk) (fz kb : List Nat) (B : Blk) (v t : Nat) : (⟨v, t, nK hp fz kb B.k⟩ : Blk).live = B.live := by
  cases hk : B.k <;> simp [Blk.live, nK, hk]
theorem nK_off (hp : Nat → Option Blk) (fz kb : List Nat) (B : Blk) (v t : Nat) : (⟨v, t, nK hp fz kb B.k⟩ : Blk).off = B.off := by
  funext r c
  cases hk : B.k <;> simp [Blk.off, nK, hk]
theorem nK_len (hp : Nat → Option Blk) (fz kb : List Nat) (B : Blk) (v t : Nat) : (⟨v, t, nK hp fz kb B.k⟩ : Blk).len = B.len := by
  cases hk : B.k <;> simp [Blk.len, nK, hk]

theorem nAV_ok {pl : Nat → Value} {a : Act} {w : World} (h : RelX E σ pl a w) (fz ks kb : List Nat) (S' : Nat → Prop) (hS : ∀ k, SS E (look σ.hp) pl w k → S' k)
    (hI : ∀ ids : List Nat, ids.all fz.contains = true → InS (look σ.hp) pl S' ids) : ∀ (d : Nat) (av : AV) (v : Value), RelV (look σ.hp) pl (SS E (look σ.hp) pl w) w av v → RelV (look (σ.norm fz ks kb).hp) pl S' w (nAV (look σ.hp) fz kb d av) v := by
  have dead : ∀ v, RelV (look (σ.norm fz ks kb).hp) pl S' w .dead v := fun v => .pure _ _ (.dead v)
  have own : ∀ (id ver : Nat) (av av' : AV) (v : Value), RelV (look σ.hp) pl (SS E (look σ.hp) pl w) w av v →
      (∀ B, look σ.hp id = some B → B.ver = ver → B.live = true → look (σ.norm fz ks kb).hp id = some ⟨0, B.ty, nK (look σ.hp) fz kb B.k⟩ → RelV (look (σ.norm fz ks kb).hp) pl S' w av' v) →
      RelV (look (σ.norm fz ks kb).hp) pl S' w (nAV.nOwn (look σ.hp) fz kb id ver av av') v := by
    intro id ver av av' v hv hk
    unfold nAV.nOwn
    split
    · split
      · rename_i x ids l hrun
        split
        · rename_i hall
          obtain ⟨_, h2⟩ := arg1_ok h av v [] _ hv hrun
          exact .pure _ _ (h2 S' hS (hI _ hall))
        · exact dead v
      · exact dead v
    · rename_i hf
      split
      · rename_i hkb
        split
        · rename_i B hB
          split
          · rename_i hc
            simp only [Bool.and_eq_true, beq_iff_eq] at hc
            refine hk B hB hc.1 hc.2 ?_
            rw [look_norm_hp, if_pos hkb]
            unfold nHp
            rw [if_neg hf, hB]
            simp only [hc.2, if_true]
          · exact dead v
        · exact dead v
      · exact dead v
  intro d
  induction d with
  | zero => intro av v _; exact dead v
  | succ d ih =>
    intro av v hv
    cases av with
    | fn f first cap =>
      simp only [nAV]
      obtain ⟨v1, v2, rfl, n1, n2, r1, r2⟩ : ∃ (v1 v2 : List Value), v = .func f v1.toArray v2.toArray ∧ v1.length = first.length ∧ v2.length = cap.length ∧
          (∀ (j : Nat) (b : AV) (u : Value), first[j]? = some b → v1[j]? = some u → RelV (look σ.hp) pl (SS E (look σ.hp) pl w) w b u) ∧
          (∀ (j : Nat) (b : AV) (u : Value), cap[j]? = some b → v2[j]? = some u → RelV (look σ.hp) pl (SS E (look σ.hp) pl w) w b u) := by
        cases hv with
        | pure _ _ h0 =>
          cases h0 with
          | fn _ _ _ v1 v2 l1 l2 h1 h2 => exact ⟨v1, v2, rfl, l1, l2, fun j b u hb hu => .pure _ _ (h1 j b u hb hu), fun j b u hb hu => .pure _ _ (h2 j b u hb hu)⟩
        | fn _ _ _ v1 v2 l1 l2 h1 h2 => exact ⟨v1, v2, rfl, l1, l2, h1, h2⟩
      refine .fn f _ _ v1 v2 (by simp [n1]) (by simp [n2]) (fun j b u hb hu => ?_) (fun j b u hb hu => ?_)
      · rw [List.getElem?_map] at hb
        cases hq : first[j]? with
        | none => rw [hq] at hb; cases hb
        | some q => rw [hq] at hb; simp only [Option.map_some, Option.some.injEq] at hb; subst hb; exact ih q u (r1 j q u hq hu)
      · rw [List.getElem?_map] at hb
        cases hq : cap[j]? with
        | none => rw [hq] at hb; cases hb
        | some q => rw [hq] at hb; simp only [Option.map_some, Option.some.injEq] at hb; subst hb; exact ih q u (r2 j q u hq hu)
    | ifc t x =>
      simp only [nAV]
      obtain ⟨v', rfl, h'⟩ : ∃ v', v = .iface t v' ∧ RelV (look σ.hp) pl (SS E (look σ.hp) pl w) w x v' := by
        cases hv with
        | pure _ _ h0 => cases h0 with | ifc _ _ v' h' => exact ⟨v', rfl, .pure _ _ h'⟩
        | ifc _ _ v' h' => exact ⟨v', rfl, h'⟩
      exact .ifc t _ v' (ih x v' h')
    | own id ver =>
      simp only [nAV]
      refine own id ver _ _ v hv fun B hB hver hl hB' => ?_
      cases hv with
      | pure _ _ h0 => cases h0
      | own _ _ _ C hC hv' h1 hh =>
        rw [hB] at hC
        simp only [Option.some.injEq] at hC
        subst hC
        exact .own id 0 v _ hB' (Nat.le_refl _) h1 fun _ _ => hh hver.symm hl
    | vw id ver lo n =>
      simp only [nAV]
      refine own id ver _ _ v hv fun B hB hver hl hB' => ?_
      cases hv with
      | pure _ _ h0 => cases h0
      | vw _ _ _ _ _ C hC hv' h1 hh =>
        rw [hB] at hC
        simp only [Option.some.injEq] at hC
        subst hC
        refine .vw id 0 lo n v _ hB' (Nat.le_refl _) h1 fun _ _ => ?_
        rw [nK_len, nK_off]
        exact hh hver.symm hl
    | ptr id ver r c =>
      simp only [nAV]
      refine own id ver _ _ v hv fun B hB hver hl hB' => ?_
      cases hv with
      | pure _ _ h0 => cases h0
      | ptr _ _ _ _ _ C hC hv' h1 hh =>
        rw [hB] at hC
        simp only [Option.some.injEq] at hC
        subst hC
        refine .ptr id 0 r c v _ hB' (Nat.le_refl _) h1 fun _ _ => ?_
        rw [nK_off]
        exact hh hver.symm hl
    | _ =>
      simp only [nAV]
      cases hv with
      | pure _ _ h0 => exact .pure _ _ (h0.mono hS (fun _ _ => rfl))

theorem Rel.norm {a : Act} {w : World} (h : Rel E σ a w) (fz ks kb : List Nat) : Rel E (σ.norm fz ks kb) a w := by
  obtain ⟨pl, h⟩ := h
  refine ⟨pl, ?_⟩
  have hS : ∀ k, SS E (look σ.hp) pl w k → SS E (look (σ.norm fz ks kb).hp) pl w k := by
    rintro k (hk | ⟨h1, h2, h3⟩)
    · exact .inl hk
    · refine .inr ⟨h1, h2, fun id B hB hl => ?_⟩
      obtain ⟨_, _, B0, hB0, hl0, _⟩ := norm_hp_some hB
      exact h3 id B0 hB0 hl0
  have hI : ∀ ids : List Nat, ids.all fz.contains = true → InS (look σ.hp) pl (SS E (look (σ.norm fz ks kb).hp) pl w) ids := by
    intro ids hall i hi B hB hl k hk
    have hif : fz.contains i = true := List.all_eq_true.1 hall i hi
    obtain ⟨h1, h2⟩ := h.blk_lt hB hl hk
    refine .inr ⟨h1, h2, fun id C hC hlC e => ?_⟩
    obtain ⟨_, hf, C0, hC0, hl0, _⟩ := norm_hp_some hC
    have hne : i ≠ id := by
      rintro rfl
      rw [hf] at hif
      cases hif
    exact h.dist i id B C0 hB hC0 hl hl0 hne k hk e
  refine ⟨h.nt, h.dfr, h.below, fun t av ht => ?_, fun id B hB => ?_, fun id id' B B' hB hB' hl hl' hne k hk => ?_⟩
  · have : look (σ.norm fz ks kb).slots t = if ks.contains t then (look σ.slots t).map (nAV (look σ.hp) fz kb 3) else none := by
      have := look_filterMap (fun t => (look σ.slots t).map (nAV (look σ.hp) fz kb 3)) ks t
      rw [← this]
      unfold St.norm
      simp only [Option.map_map]
      rfl
    rw [this] at ht
    split at ht
    · cases hs : look σ.slots t with
      | none => rw [hs] at ht; cases ht
      | some b =>
        rw [hs] at ht
        simp only [Option.map_some, Option.some.injEq] at ht
        subst ht
        obtain ⟨v, h1, h2⟩ := h.slots t b hs
        exact ⟨v, h1, nAV_ok h fz ks kb _ hS hI 3 b v h2⟩
    · cases ht
  · obtain ⟨_, _, B0, hB0, hl0, rfl⟩ := norm_hp_some hB
    have hb := h.blks id B0 hB0
    unfold BlkRel at hb ⊢
    cases hk : B0.k with
    | var cells =>
      rw [hk] at hb
      simp only [nK] at hb ⊢
      obtain ⟨g, vs, e1, e2, e3, e4, e5, e6⟩ := hb
      refine ⟨g, vs, e1, e2, e3, by simp [e4], e5, fun j b u hb hu => ?_⟩
      rw [List.getElem?_map] at hb
      cases hq : cells[j]? with
      | none => rw [hq] at hb; cases hb
      | some q =>
        rw [hq] at hb
        simp only [Option.map_some, Option.some.injEq] at hb
        subst hb
        exact nAV_ok h fz ks kb _ hS hI 3 q u (e6 j q u hq hu)
    | arr cells =>
      rw [hk] at hb
      simp only [nK] at hb ⊢
      obtain ⟨g, vs, e1, e2, e3, e4, e5, e6⟩ := hb
      exact ⟨g, vs, e1, e2, e3, e4, e5, fun j b u hb hu => (e6 j b u hb hu).mono hS (fun _ _ => rfl)⟩
    | row sz rows =>
      rw [hk] at hb
      simp only [nK] at hb ⊢
      obtain ⟨e0, xs, e1, e2, e3⟩ := hb
      exact ⟨e0, xs, e1, e2, fun j b u hb hu => (e3 j b u hb hu).mono hS (fun _ _ => rfl)⟩
    | gone => simp only [nK]
  · obtain ⟨_, _, B0, hB0, hl0, rfl⟩ := norm_hp_some hB
    obtain ⟨_, _, C0, hC0, hl1, rfl⟩ := norm_hp_some hB'
    exact h.dist id id' B0 C0 hB0 hC0 hl0 hl1 hne k hk

theorem awp_norm (fz ks kb : List Nat) {σ' : St} (he : σ.norm fz ks kb = σ') (h : AWP P E c Q σ') : AWP P E c Q σ := awp_weak (fun a w hr => he ▸ hr.norm fz ks kb) h

/-! ### Two blocks' numbers, exchanged -/
def sw (i j n : Nat) : Nat := if n = i then j else if n = j then i else n
theorem sw_sw (i j n : Nat) : sw i j (sw i j n) = n := by
  unfold sw
  by_cases h1 : n = i
  · subst h1
    by_cases h2 : j = n
    · simp [h2]
    · simp [h2]
  · by_cases h2 : n = j
    · subst h2; simp [h1]
    · simp [h1, h2]
theorem sw_inj {i j m n : Nat} (h : sw i j m = sw i j n) : m = n := by rw [← sw_sw i j m, h, sw_sw]
def swAV (i j : Nat) : Nat → AV → AV
  | 0, _ => .dead
  | d + 1, a => match a with
    | .fn f first cap => .fn f (first.map (swAV i j d)) (cap.map (swAV i j d))
    | .ifc t x => .ifc t (swAV i j d x)
    | .own id ver => .own (sw i j id) ver
    | .vw id ver lo n => .vw (sw i j id) ver lo n
    | .ptr id ver r c => .ptr (sw i j id) ver r c
    | a => a
def swK (i j : Nat) : BK → BK
  | .var cells => .var (cells.map (swAV i j 3))
  | k => k
def swB (i j : Nat) (B : Blk) : Blk := ⟨B.ver, B.ty, swK i j B.k⟩
def St.swap (σ : St) (i j : Nat) : St := ⟨σ.slots.map fun p => (p.1, swAV i j 3 p.2), σ.hp.map fun p => (sw i j p.1, swB i j p.2)⟩
def St.swaps (σ : St) (l : List (Nat × Nat)) : St := l.foldl (fun σ p => σ.swap p.1 p.2) σ
theorem look_map2 {β γ : Type} (f : β → γ) : ∀ (l : List (Nat × β)) (t : Nat), look (l.map fun p => (p.1, f p.2)) t = (look l t).map f
  | [], t => rfl
  | (k, v) :: l, t => by
    simp only [List.map_cons, look]
    split
    · rfl
    · exact look_map2 f l t
theorem look_mapS {β γ : Type} (f : β → γ) (i j : Nat) : ∀ (l : List (Nat × β)) (t : Nat), look (l.map fun p => (sw i j p.1, f p.2)) t = (look l (sw i j t)).map f
  | [], t => rfl
  | (k, v) :: l, t => by
    have ih := look_mapS f i j l t
    simp only [List.map_cons, look]
    by_cases e : sw i j k = t
    · have e2 : k = sw i j t := by rw [← e, sw_sw]
      simp [e, ← e2]
    · have e2 : ¬ k = sw i j t := fun h => e (by rw [h, sw_sw])
      have e' : (sw i j k == t) = false := by simpa using e
      have e2' : (k == sw i j t) = false := by simpa using e2
      simp only [e', e2', Bool.false_eq_true, if_false]
      exact ih
theorem swAV0 {S : Nat → Prop} {w : World} (i j : Nat) : ∀ (d : Nat) {a : AV} {v : Value}, RelV0 S w a v → RelV0 S w (swAV i j d a) v
  | 0, a, v, h => .dead v
  | d + 1, a, v, h => by
    cases h with
    | fn f first cap v1 v2 l1 l2 h1 h2 =>
      refine .fn f _ _ v1 v2 (by simp [l1]) (by simp [l2]) (fun k b u hb hu => ?_) (fun k b u hb hu => ?_)
      · rw [List.getElem?_map] at hb
        obtain ⟨b0, hb0, rfl⟩ := Option.map_eq_some_iff.1 hb
        exact swAV0 i j d (h1 k b0 u hb0 hu)
      · rw [List.getElem?_map] at hb
        obtain ⟨b0, hb0, rfl⟩ := Option.map_eq_some_iff.1 hb
        exact swAV0 i j d (h2 k b0 u hb0 hu)
    | ifc t x v h => exact .ifc t _ v (swAV0 i j d h)
    | b x => exact .b x
    | i k n => exact .i k n
    | s x => exact .s x
    | agg cs vs hl h1 h => exact .agg cs vs hl h1 h
    | sl rows A cap sz u hc hm hn hsz hA h1 h => exact .sl rows A cap sz u hc hm hn hsz hA h1 h
    | nl => exact .nl
    | eptr cs ad u hS hA h1 h => exact .eptr cs ad u hS hA h1 h
    | np => exact .np
    | nilf => exact .nilf
    | nili => exact .nili
    | tup cs vs hl h => exact .tup cs vs hl h
    | dead v => exact .dead v
theorem swB_live (i j : Nat) (B : Blk) : (swB i j B).live = B.live := by cases B with | mk v t k => cases k <;> rfl
theorem swB_off (i j : Nat) (B : Blk) : (swB i j B).off = B.off := by cases B with | mk v t k => cases k <;> rfl
theorem swB_len (i j : Nat) (B : Blk) : (swB i j B).len = B.len := by cases B with | mk v t k => cases k <;> simp [swB, swK, Blk.len]
theorem swAV_rel {hp hp' : Nat → Option Blk} {pl pl' : Nat → Value} {S : Nat → Prop} {w : World} (i j : Nat) (hh : ∀ id B, hp id = some B → hp' (sw i j id) = some (swB i j B)) (hl : ∀ id, pl' (sw i j id) = pl id) :
    ∀ (d : Nat) {a : AV} {v : Value}, RelV hp pl S w a v → RelV hp' pl' S w (swAV i j d a) v
  | 0, a, v, h => .pure _ _ (.dead v)
  | d + 1, a, v, h => by
    cases h with
    | pure a v h => exact .pure _ _ (swAV0 i j (d + 1) h)
    | own id ver v B hB hv h1 h => exact .own _ ver v (swB i j B) (hh id B hB) hv h1 fun e hlv => by rw [hl]; exact h e (by rwa [swB_live] at hlv)
    | vw id ver lo n v B hB hv h1 h => exact .vw _ ver lo n v (swB i j B) (hh id B hB) hv h1 fun e hlv => by rw [hl, swB_len, swB_off]; exact h e (by rwa [swB_live] at hlv)
    | ptr id ver r c v B hB hv h1 h => exact .ptr _ ver r c v (swB i j B) (hh id B hB) hv h1 fun e hlv => by rw [hl, swB_off]; exact h e (by rwa [swB_live] at hlv)
    | fn f first cap v1 v2 l1 l2 h1 h2 =>
      refine .fn f _ _ v1 v2 (by simp [l1]) (by simp [l2]) (fun k b u hb hu => ?_) (fun k b u hb hu => ?_)
      · rw [List.getElem?_map] at hb
        obtain ⟨b0, hb0, rfl⟩ := Option.map_eq_some_iff.1 hb
        exact swAV_rel i j hh hl d (h1 k b0 u hb0 hu)
      · rw [List.getElem?_map] at hb
        obtain ⟨b0, hb0, rfl⟩ := Option.map_eq_some_iff.1 hb
        exact swAV_rel i j hh hl d (h2 k b0 u hb0 hu)
    | ifc t x v h => exact .ifc t _ v (swAV_rel i j hh hl d h)
theorem Rel.swap {a : Act} {w : World} (h : Rel E σ a w) (i j : Nat) : Rel E (σ.swap i j) a w := by
  obtain ⟨pl, h⟩ := h
  have lh : ∀ id, look (σ.swap i j).hp id = (look σ.hp (sw i j id)).map (swB i j) := fun id => look_mapS _ i j _ id
  have ls : ∀ t, look (σ.swap i j).slots t = (look σ.slots t).map (swAV i j 3) := fun t => look_map2 _ _ t
  have hh : ∀ id B, look σ.hp id = some B → look (σ.swap i j).hp (sw i j id) = some (swB i j B) := fun id B hB => by rw [lh, sw_sw, hB]; rfl
  have hb : ∀ {id : Nat} {B : Blk}, look (σ.swap i j).hp id = some B → ∃ B0, look σ.hp (sw i j id) = some B0 ∧ B = swB i j B0 := by
    intro id B hB
    rw [lh] at hB
    obtain ⟨B0, h0, rfl⟩ := Option.map_eq_some_iff.1 hB
    exact ⟨B0, h0, rfl⟩
  have hS : ∀ k, SS E (look σ.hp) pl w k → SS E (look (σ.swap i j).hp) (fun id => pl (sw i j id)) w k := by
    rintro k (hk | ⟨h1, h2, h3⟩)
    · exact .inl hk
    · refine .inr ⟨h1, h2, fun id B hB hl => ?_⟩
      obtain ⟨B0, h0, rfl⟩ := hb hB
      exact h3 _ B0 h0 (by rwa [swB_live] at hl)
  have rel : ∀ (d : Nat) {av : AV} {v : Value}, RelV (look σ.hp) pl (SS E (look σ.hp) pl w) w av v → RelV (look (σ.swap i j).hp) (fun id => pl (sw i j id)) (SS E (look (σ.swap i j).hp) (fun id => pl (sw i j id)) w) w (swAV i j d av) v := by
    intro d av v hr
    exact (swAV_rel i j hh (fun id => by rw [sw_sw]) d hr).mono (HExt.refl _ _) hS (fun _ _ => rfl)
  refine ⟨fun id => pl (sw i j id), h.nt, h.dfr, h.below, fun t av ht => ?_, fun id B hB => ?_, fun id id' B B' hB hB' hl hl' hne k hk => ?_⟩
  · rw [ls] at ht
    obtain ⟨a0, h0, rfl⟩ := Option.map_eq_some_iff.1 ht
    obtain ⟨v, h1, h2⟩ := h.slots t a0 h0
    exact ⟨v, h1, rel 3 h2⟩
  · obtain ⟨B0, h0, rfl⟩ := hb hB
    have h1 := h.blks _ B0 h0
    obtain ⟨ver, ty, k⟩ := B0
    cases k with
    | var cells =>
      obtain ⟨g, vs, e1, e2, e3, e4, e5, e6⟩ := h1
      refine ⟨g, vs, e1, e2, e3, by simp [e4], e5, fun q b u hb' hu => ?_⟩
      rw [List.getElem?_map] at hb'
      obtain ⟨b0, hb0, rfl⟩ := Option.map_eq_some_iff.1 hb'
      exact rel 3 (e6 q b0 u hb0 hu)
    | arr cells =>
      obtain ⟨g, vs, e1, e2, e3, e4, e5, e6⟩ := h1
      exact ⟨g, vs, e1, e2, e3, e4, e5, fun q b u hb' hu => (e6 q b u hb' hu).mono hS (fun _ _ => rfl)⟩
    | row sz rows =>
      obtain ⟨e0, xs, e1, e2, e3⟩ := h1
      exact ⟨e0, xs, e1, e2, fun q b u hb' hu => (e3 q b u hb' hu).mono hS (fun _ _ => rfl)⟩
    | gone => trivial
  · obtain ⟨B0, h0, rfl⟩ := hb hB
    obtain ⟨B0', h0', rfl⟩ := hb hB'
    exact h.dist _ _ B0 B0' h0 h0' (by rwa [swB_live] at hl) (by rwa [swB_live] at hl') (fun e => hne (sw_inj e)) k hk
theorem Rel.swaps {a : Act} {w : World} : ∀ (l : List (Nat × Nat)) {σ : St}, Rel E σ a w → Rel E (σ.swaps l) a w
  | [], σ, h => h
  | p :: l, σ, h => Rel.swaps l (h.swap p.1 p.2)

/-- The nil slice in a slot, as a row of one's own. -/
def St.adopt (σ : St) (s id ty sz : Nat) : Option St :=
  match look σ.slots s, look σ.hp id with
  | some .nl, none => some ⟨put σ.slots s (.own id 0), put σ.hp id ⟨0, ty, .row sz []⟩⟩
  | _, _ => none
theorem Rel.adopt {σ' : St} {s id ty sz : Nat} {a : Act} {w : World} (hs : σ.adopt s id ty sz = some σ') (h : Rel E σ a w) : Rel E σ' a w := by
  unfold St.adopt at hs
  split at hs
  · rename_i h1 h2
    simp only [Option.some.injEq] at hs
    subst hs
    obtain ⟨pl, h⟩ := h
    have hpl : ∀ i, look σ.hp i ≠ none → (if i = id then Value.slice none 0 0 else pl i) = pl i := fun i hi => by
      rw [if_neg]; rintro rfl; exact hi h2
    have hl' : ∀ i, look (put σ.hp id ⟨0, ty, .row sz []⟩) i = if id = i then some ⟨0, ty, .row sz []⟩ else look σ.hp i := fun i => look_put _ _ _ _
    have hE : HExt (look σ.hp) pl (look (put σ.hp id ⟨0, ty, .row sz []⟩)) (fun i => if i = id then Value.slice none 0 0 else pl i) := by
      intro i B hB
      have hne : id ≠ i := by rintro rfl; rw [h2] at hB; cases hB
      refine ⟨B, by rw [hl', if_neg hne, hB], .inr ⟨rfl, fun hl => ⟨hl, ?_, rfl, Nat.le_refl _⟩⟩⟩
      exact hpl i (by rw [hB]; simp)
    have hS : ∀ k, SS E (look σ.hp) pl w k → SS E (look (put σ.hp id ⟨0, ty, .row sz []⟩)) (fun i => if i = id then Value.slice none 0 0 else pl i) w k := by
      rintro k (hk | ⟨g1, g2, g3⟩)
      · exact .inl hk
      · refine .inr ⟨g1, g2, fun i B hB hl => ?_⟩
        rw [hl'] at hB
        split at hB
        · rename_i e
          subst e
          simp [blkOf]
        · rename_i e
          simp only [hpl i (by rw [hB]; simp)]
          exact g3 i B hB hl
    have hm := h.mem (pl' := fun i => if i = id then Value.slice none 0 0 else pl i) (put σ.hp id ⟨0, ty, .row sz []⟩) hE hS (fun _ _ => rfl) h.below (fun i B hB => ?_) (fun i i' B B' hB hB' hl hl2 hne k hk => ?_)
    · refine ⟨_, hm.nt, hm.dfr, hm.below, fun t av ht => ?_, hm.blks, hm.dist⟩
      simp only [look_put] at ht
      split at ht
      · rename_i e
        subst e
        simp only [Option.some.injEq] at ht
        subst ht
        obtain ⟨v, e1, e2⟩ := h.slots s _ h1
        have : v = .slice none 0 0 := by
          cases e2 with
          | pure _ _ h0 => cases h0; rfl
        subst this
        exact ⟨_, e1, .own id 0 _ ⟨0, ty, .row sz []⟩ (by rw [hl', if_pos rfl]) (Nat.le_refl _) rfl fun _ _ => by simp⟩
      · exact hm.slots t av ht
    · rw [hl'] at hB
      split at hB
      · rename_i e
        subst e
        simp only [Option.some.injEq] at hB
        subst hB
        simp only [BlkRel, if_true]
        exact ⟨fun r hr => by simp at hr, [], ⟨by simp, .inl ⟨rfl, rfl⟩⟩, fun u hu => by simp at hu, fun j a u ha => by simp at ha⟩
      · rename_i e
        simp only [hpl i (by rw [hB]; simp)]
        exact (h.blks i B hB).keep hE hS (fun _ _ => rfl) (fun _ _ _ => rfl)
    · rw [hl'] at hB hB'
      split at hB
      · rename_i e
        subst e
        simp [blkOf] at hk
      · rename_i e
        simp only [hpl i (by rw [hB]; simp)] at hk
        split at hB'
        · rename_i e'
          subst e'
          simp [blkOf]
        · rename_i e'
          simp only [hpl i' (by rw [hB']; simp)]
          exact h.dist i i' B B' hB hB' hl hl2 hne k hk
  · cases hs
theorem awp_adopt (s id ty sz : Nat) {σ' : St} (he : σ.adopt s id ty sz = some σ') (h : AWP P E c Q σ') : AWP P E c Q σ := awp_weak (fun a w hr => hr.adopt he) h

/-! ### A function's contract from its body -/
def slots0 : Nat → List AV → List (Nat × AV)
  | _, [] => []
  | i, a :: l => (i, a) :: slots0 (i + 1) l
theorem look_slots0 : ∀ (l : List AV) (i j : Nat), look (slots0 i l) j = if i ≤ j then l[j - i]? else none
  | [], i, j => by simp [slots0, look]
  | a :: l, i, j => by
    have ih := look_slots0 l (i + 1) j
    by_cases e : i = j
    · subst e; simp [slots0, look]
    · have : (i == j) = false := by simpa using e
      simp only [slots0, look, this, Bool.false_eq_true, if_false, ih]
      by_cases h : i ≤ j
      · rw [if_pos (by omega), if_pos h]
        obtain ⟨q, hq⟩ : ∃ q, j - i = q + 1 := ⟨j - i - 1, by omega⟩
        have : j - (i + 1) = q := by omega
        rw [this, hq]
        rfl
      · rw [if_neg (by omega), if_neg h]
/-- A result: what its variable holds. -/
def resA (T : Tab) (σ : St) : ResultVar → Option (AV × List Prop)
  | .tmp t => (look σ.slots t).map fun a => (a, [])
  | .cell q t => match look σ.slots q, look T t with
    | some (.ptr id ver 0 0), some ti => (match look σ.hp id with
      | some B => if B.ver == ver then (match B.k with
        | .var cells => if ti.isAgg then (if cells.length == ti.size && cells.all fun a => pureB a && oneB a then some (.agg cells, []) else none)
            else (match cells with | [a] => some (a, []) | _ => none)
        | .arr cells => if ti.isAgg then some (.agg cells, [cells.length = ti.size]) else none
        | _ => none) else none
      | none => none)
    | _, _ => none
def resOf (T : Tab) (rs : List ResultVar) (σ : St) : Option (AV × List Prop) :=
  match rs.mapM (resA T σ) with
  | some avs => (match (mapPg arg2 (avs.map (·.1))).run (look σ.hp) [] with
    | some (l, log) => (match (giveUp (l.flatMap (·.2))).run (look σ.hp) log with
      | some _ => some (match l.map (·.1) with | [x] => x | xs => .tup xs, (avs.map (·.2)).flatten)
      | none => none)
    | none => none)
  | none => none
def ResIs (T : Tab) (rs : List ResultVar) (res : AV) (σ : St) : Prop := ∃ r obl, resOf T rs σ = some (r, obl) ∧ All obl ∧ AVle r res
def QRet (T : Tab) (rs : List ResultVar) (res : AV) : Exit → St → Prop
  | .normal, σ => ResIs T rs res σ
  | .ret, σ => ResIs T rs res σ
  | _, _ => False

theorem mapM_get' {α β : Type} {f : α → Option β} : ∀ {l : List α} {m : List β}, l.mapM f = some m → m.length = l.length ∧ ∀ (j : Nat) (x : α), l[j]? = some x → ∃ y, m[j]? = some y ∧ f x = some y
  | [], m, h => by simp at h; subst h; exact ⟨rfl, fun j x hx => by simp at hx⟩
  | x :: l, m, h => by
    rw [List.mapM_cons] at h
    cases h1 : f x with
    | none => simp [h1] at h
    | some y =>
      cases h2 : l.mapM f with
      | none => simp [h1, h2] at h
      | some ys =>
        simp [h1, h2] at h
        subst h
        obtain ⟨e1, e2⟩ := mapM_get' h2
        refine ⟨by simp [e1], fun j z hz => ?_⟩
        cases j with
        | zero => simp at hz; subst hz; exact ⟨y, rfl, h1⟩
        | succ j => obtain ⟨u, e3, e4⟩ := e2 j z (by simpa using hz); exact ⟨u, by simpa using e3, e4⟩

def runRes (tmps : Array Value) : ResultVar → Sem Value
  | .tmp t => pure (tmps.getD t undef)
  | .cell a t => do loadVar t (← asAddr (tmps.getD a undef))
theorem run_var1 {w : World} {t : TypeId} {ti : TI} (hT : TabOk P T) (ht : look T t = some ti) (hg : ti.isAgg = false) {ad : Addr} {v : Value} (hc : w.cell? ad = some v) : (loadVar t ad).run P w = .ok v w := by
  simp [loadVar, isAggR hT ht, hg, hc]
theorem run_varN {w : World} {t : TypeId} {ti : TI} (hT : TabOk P T) (ht : look T t = some ti) (hg : ti.isAgg = true) {ad : Addr} {vs : List Value} (hl : vs.length = ti.size) (hc : ∀ j v, vs[j]? = some v → w.cell? (ad.add j) = some v) :
    (loadVar t ad).run P w = .ok (.agg vs.toArray) w := by
  have := run_loadCells_list (P := P) w ad vs hc
  rw [hl] at this
  simp [loadVar, isAggR hT ht, hg, szOf hT ht, this]
theorem run_resA {a : Act} {w : World} {pl : Nat → Value} (hT : TabOk P T) (h : RelX E σ pl a w) {rv : ResultVar} {av : AV} {obl : List Prop} (hr : resA T σ rv = some (av, obl)) (ho : ∀ p ∈ obl, p) :
    ∃ v, (runRes a.tmps rv).run P w = .ok v w ∧ RelV (look σ.hp) pl (SS E (look σ.hp) pl w) w av v := by
  cases rv with
  | tmp t =>
    simp only [resA] at hr
    cases hs : look σ.slots t with
    | none => rw [hs] at hr; cases hr
    | some b =>
      rw [hs] at hr
      simp only [Option.map_some, Option.some.injEq, Prod.mk.injEq] at hr
      obtain ⟨rfl, rfl⟩ := hr
      obtain ⟨v, h1, h2⟩ := h.slots t b hs
      refine ⟨v, ?_, h2⟩
      simp [runRes, Array.getD_eq_getD_getElem?, h1]
  | cell q t =>
    simp only [resA] at hr
    split at hr
    · rename_i id ver ti hs ht
      obtain ⟨v0, h1, h2⟩ := h.slots q _ hs
      split at hr
      · rename_i B hB
        split at hr
        · rename_i hv
          have hver : B.ver = ver := by simpa using hv
          split at hr
          · rename_i cells hk
            have hl : B.live = true := by simp [Blk.live, hk]
            obtain ⟨g, hg, he⟩ := relv_ptr h2 hB hver hl
            obtain ⟨g', vs, hp1, hp2, hp3, hp4, hp5⟩ := h.varCell hB hk
            rw [hp1] at hg
            simp only [blkOf, Option.some.injEq] at hg
            subst hg
            have hoff : B.off 0 0 = 0 := by simp [Blk.off, hk]
            rw [hoff] at he
            subst he
            split at hr
            · rename_i hag
              split at hr
              · rename_i hc
                simp only [Option.some.injEq, Prod.mk.injEq] at hr
                obtain ⟨rfl, rfl⟩ := hr
                simp only [Bool.and_eq_true, beq_iff_eq, List.all_eq_true] at hc
                refine ⟨.agg vs.toList.toArray, ?_, .pure _ _ (.agg _ _ (by simp [hp3]) hp4 (fun j av u ha hu => ?_))⟩
                · simp only [runRes, Sem.run_bind, Array.getD_eq_getD_getElem?, h1, Option.getD_some]
                  show (loadVar t ⟨g', 0, none⟩).run P w = _
                  rw [run_varN hT ht hag (vs := vs.toList) (by simp [hp3, hc.1]) (fun j v hj => by rw [add_none, cell_of w g' _ vs _ _ hp2]; simpa using hj)]
                · have hm := hc.2 av (List.mem_of_getElem? ha)
                  exact relv_pure (hp5 j av u ha (by simpa using hu)) (by simpa using hm.1)
              · cases hr
            · rename_i hag
              split at hr
              · rename_i b
                simp only [Option.some.injEq, Prod.mk.injEq] at hr
                obtain ⟨rfl, rfl⟩ := hr
                have hq : vs[0]? = some (vs[0]'(by simp at hp3; omega)) := by rw [Array.getElem?_eq_getElem]
                refine ⟨vs[0]'(by simp at hp3; omega), ?_, hp5 0 b _ rfl hq⟩
                simp only [runRes, Sem.run_bind, Array.getD_eq_getD_getElem?, h1, Option.getD_some]
                show (loadVar t ⟨g', 0, none⟩).run P w = _
                rw [run_var1 hT ht (by simpa using hag) (by rw [cell_of w g' _ vs _ _ hp2]; exact hq)]
              · cases hr
          · rename_i cells hk
            have hl : B.live = true := by simp [Blk.live, hk]
            obtain ⟨g, hg, he⟩ := relv_ptr h2 hB hver hl
            obtain ⟨g', vs, hp1, hp2, hp3, hp4, hp5⟩ := h.arrCell hB hk
            rw [hp1] at hg
            simp only [blkOf, Option.some.injEq] at hg
            subst hg
            have hoff : B.off 0 0 = 0 := by simp [Blk.off, hk]
            rw [hoff] at he
            subst he
            split at hr
            · rename_i hag
              simp only [Option.some.injEq, Prod.mk.injEq] at hr
              obtain ⟨rfl, rfl⟩ := hr
              have hsz : cells.length = ti.size := ho _ (by simp)
              refine ⟨.agg vs.toList.toArray, ?_, .pure _ _ (.agg _ _ (by simp [hp3]) hp4 (fun j av u ha hu => hp5 j av u ha (by simpa using hu)))⟩
              simp only [runRes, Sem.run_bind, Array.getD_eq_getD_getElem?, h1, Option.getD_some]
              show (loadVar t ⟨g', 0, none⟩).run P w = _
              rw [run_varN hT ht hag (vs := vs.toList) (by simp [hp3, hsz]) (fun j v hj => by rw [add_none, cell_of w g' _ vs _ _ hp2]; simpa using hj)]
            · cases hr
          · cases hr
        · cases hr
      · cases hr
    · cases hr

theorem results_run1 {fn : Func} {r1 : ResultVar} (h : fn.results = #[r1]) {tmps : Array Value} {w : World} {v1 : Value} (h1 : (runRes tmps r1).run P w = .ok v1 w) : (results fn tmps).run P w = .ok v1 w := by
  show (do let vs ← fn.results.mapM (runRes tmps); pure (if h : vs.size = 1 then vs[0] else .tuple vs) : Sem Value).run P w = _
  rw [h]
  simp [Sem.run_bind, h1]
theorem results_run2 {fn : Func} {r1 r2 : ResultVar} (h : fn.results = #[r1, r2]) {tmps : Array Value} {w : World} {v1 v2 : Value} (h1 : (runRes tmps r1).run P w = .ok v1 w) (h2 : (runRes tmps r2).run P w = .ok v2 w) : (results fn tmps).run P w = .ok (.tuple #[v1, v2]) w := by
  show (do let vs ← fn.results.mapM (runRes tmps); pure (if h : vs.size = 1 then vs[0] else .tuple vs) : Sem Value).run P w = _
  rw [h]
  simp [Sem.run_bind, h1, h2]
theorem results_run3 {fn : Func} {r1 r2 r3 : ResultVar} (h : fn.results = #[r1, r2, r3]) {tmps : Array Value} {w : World} {v1 v2 v3 : Value} (h1 : (runRes tmps r1).run P w = .ok v1 w) (h2 : (runRes tmps r2).run P w = .ok v2 w) (h3 : (runRes tmps r3).run P w = .ok v3 w) : (results fn tmps).run P w = .ok (.tuple #[v1, v2, v3]) w := by
  show (do let vs ← fn.results.mapM (runRes tmps); pure (if h : vs.size = 1 then vs[0] else .tuple vs) : Sem Value).run P w = _
  rw [h]
  simp [Sem.run_bind, h1, h2, h3]
theorem results_run4 {fn : Func} {r1 r2 r3 r4 : ResultVar} (h : fn.results = #[r1, r2, r3, r4]) {tmps : Array Value} {w : World} {v1 v2 v3 v4 : Value} (h1 : (runRes tmps r1).run P w = .ok v1 w) (h2 : (runRes tmps r2).run P w = .ok v2 w) (h3 : (runRes tmps r3).run P w = .ok v3 w) (h4 : (runRes tmps r4).run P w = .ok v4 w) : (results fn tmps).run P w = .ok (.tuple #[v1, v2, v3, v4]) w := by
  show (do let vs ← fn.results.mapM (runRes tmps); pure (if h : vs.size = 1 then vs[0] else .tuple vs) : Sem Value).run P w = _
  rw [h]
  simp [Sem.run_bind, h1, h2, h3, h4]

theorem run_results {a : Act} {w : World} {pl : Nat → Value} (hT : TabOk P T) (fn : Func) (rs : List ResultVar) (hts : fn.results = rs.toArray) (hlen : rs.length ≤ 4) (h : RelX E σ pl a w) {res : AV} (hres : ResIs T rs res σ) :
    ∃ v, (results fn a.tmps).run P w = .ok v w ∧ RelV0 (fun k => E.S0 k ∨ (E.w0.heap.size ≤ k ∧ k < w.heap.size)) w res v := by
  obtain ⟨r0, obl, hres, hobl, hle⟩ := hres
  suffices hs : ∃ v, (results fn a.tmps).run P w = .ok v w ∧ RelV0 (fun k => E.S0 k ∨ (E.w0.heap.size ≤ k ∧ k < w.heap.size)) w r0 v by
    obtain ⟨v, h1, h2⟩ := hs
    exact ⟨v, h1, hle _ _ _ h2⟩
  unfold resOf at hres
  split at hres
  · rename_i avs havs
    split at hres
    · rename_i l log hl
      split at hres
      · rename_i q hg
        simp only [Option.some.injEq, Prod.mk.injEq] at hres
        obtain ⟨hres, hobl'⟩ := hres
        subst hobl'
        obtain ⟨m1, m2⟩ := mapM_get' havs
        have hget : ∀ (j : Nat) (rv : ResultVar), rs[j]? = some rv → ∃ b v, avs[j]? = some b ∧ (runRes a.tmps rv).run P w = .ok v w ∧ RelV (look σ.hp) pl (SS E (look σ.hp) pl w) w b.1 v := by
          intro j rv hj
          obtain ⟨b, h1, h2⟩ := m2 j rv hj
          obtain ⟨v, h3, h4⟩ := run_resA hT h h2 (fun p hp => hobl.mem p (List.mem_flatten.2 ⟨b.2, List.mem_map.2 ⟨b, List.mem_of_getElem? h1, rfl⟩, hp⟩))
          exact ⟨b, v, h1, h3, h4⟩
        have hvs : ∃ vs : List Value, vs.length = rs.length ∧ (∀ (j : Nat) (rv : ResultVar) (v : Value), rs[j]? = some rv → vs[j]? = some v → (runRes a.tmps rv).run P w = .ok v w) ∧
            ∀ (j : Nat) (b : AV) (u : Value), (avs.map (·.1))[j]? = some b → vs[j]? = some u → RelV (look σ.hp) pl (SS E (look σ.hp) pl w) w b u := by
          clear hl hg hobl m2 havs hres hts hlen
          induction rs generalizing avs with
          | nil => exact ⟨[], rfl, fun j rv v hj => by simp at hj, fun j b u _ hu => by simp at hu⟩
          | cons rv rs ih =>
            cases avs with
            | nil => simp at m1
            | cons b0 avs =>
              obtain ⟨b, v, e1, e2, e3⟩ := hget 0 rv rfl
              simp only [List.getElem?_cons_zero, Option.some.injEq] at e1
              subst e1
              obtain ⟨vs, f1, f2, f3⟩ := ih avs (by simpa using m1) (fun j rv hj => by
                obtain ⟨b, v, e1, e2, e3⟩ := hget (j + 1) rv (by simpa using hj)
                exact ⟨b, v, by simpa using e1, e2, e3⟩)
              refine ⟨v :: vs, by simp [f1], fun j rv' v' hj hv' => ?_, fun j b u hb hu => ?_⟩
              · cases j with
                | zero => simp at hj hv'; subst hj hv'; exact e2
                | succ j => exact f2 j rv' v' (by simpa using hj) (by simpa using hv')
              · cases j with
                | zero => simp at hb hu; subst hb hu; exact e3
                | succ j => exact f3 j b u (by simpa using hb) (by simpa using hu)
        obtain ⟨vs, f1, f2, f3⟩ := hvs
        obtain ⟨n1, n2, n3⟩ := mapPg_ok (f := arg2) h (arg2_ok h) _ vs [] _ (by simp [m1, f1]) f3 hl
        have hall := n3 (fun k => E.S0 k ∨ (E.w0.heap.size ≤ k ∧ k < w.heap.size)) (fun k hk => hk.elim .inl fun h => .inr ⟨h.1, h.2.1⟩) (fun i _ B hB hlv k hk => .inr (h.blk_lt hB hlv hk))
        rw [← hres]
        have n1' : (l.map (·.1)).length = rs.length := by
          dsimp only at n1
          simp only [List.length_map] at n1 ⊢
          omega
        generalize l.map (·.1) = xs at hall n1' ⊢
        clear hget m1 m2 havs hl hg hres hobl n1 n2 n3 f3
        match rs, xs, vs, hts, hlen, n1', f1, f2, hall with
        | [], [], [], hts, _, _, _, _, hall => exact ⟨_, results_none hts _ P w, .tup [] [] rfl (fun j a u ha => by simp at ha)⟩
        | [t], [x], [v], hts, _, _, _, f2, hall => exact ⟨_, results_run1 hts (f2 0 t v rfl rfl), hall 0 x _ rfl rfl⟩
        | [t, u], [x, y], [v, v'], hts, _, _, _, f2, hall => exact ⟨_, results_run2 hts (f2 0 t v rfl rfl) (f2 1 u v' rfl rfl), .tup [x, y] [_, _] rfl hall⟩
        | [t, u, t3], [x, y, z], [v, v', v3], hts, _, _, _, f2, hall => exact ⟨_, results_run3 hts (f2 0 t v rfl rfl) (f2 1 u v' rfl rfl) (f2 2 t3 v3 rfl rfl), .tup [x, y, z] [_, _, _] rfl hall⟩
        | [t, u, t3, t4], [x, y, z, z4], [v, v', v3, v4], hts, _, _, _, f2, hall => exact ⟨_, results_run4 hts (f2 0 t v rfl rfl) (f2 1 u v' rfl rfl) (f2 2 t3 v3 rfl rfl) (f2 3 t4 v4 rfl rfl), .tup [x, y, z, z4] [_, _, _, _] rfl hall⟩
      · cases hres
    · cases hres
  · cases hres

/-- **A function's contract, from its body.** -/
theorem con_of_awp {f : FuncId} {fn : Func} {args : List AV} {res : AV} (hT : TabOk P T) (rs : List ResultVar) (hf : P.funcs[f]? = some fn) (hb : fn.body = some c) (hn : (fn.name == "runtime.NumGoroutine") = false) (hl : Nat.ble args.length fn.ntmps = true)
    (hts : fn.results = rs.toArray) (hlen : Nat.ble rs.length 4 = true) (h : ∀ E : Env, E.nt = fn.ntmps → AWP P E c (QRet T rs res) ⟨slots0 0 args, []⟩) : Con P f args res := by
  have hl' : args.length ≤ fn.ntmps := Nat.le_of_ble_eq_true hl
  refine ⟨⟨fn, hf, hn, by rw [hb]; rfl⟩, fun w S0 vs hS0 hvl hv => ?_⟩
  refine calls_of_wp hf hb ?_
  have hrel : RelX ⟨w, S0, fn.ntmps, hS0⟩ ⟨slots0 0 args, []⟩ (fun _ => undef) { tmps := vs.toArray ++ Array.replicate (fn.ntmps - vs.toArray.size) undef, defers := [] } w := by
    refine ⟨by simp; omega, rfl, Below.refl _ _, fun t av ht => ?_, fun id B hB => by simp [look] at hB, fun id id' B B' hB => by simp [look] at hB⟩
    rw [look_slots0, if_pos (by omega), Nat.sub_zero] at ht
    have hlt : t < args.length := by
      by_cases e : t < args.length
      · exact e
      · rw [List.getElem?_eq_none (by omega)] at ht; cases ht
    have h1 : vs[t]? = some (vs[t]'(by omega)) := List.getElem?_eq_getElem (by omega)
    refine ⟨vs[t]'(by omega), ?_, .pure _ _ ((hv t av _ ht h1).mono (fun k hk => .inl hk) (fun _ _ => rfl))⟩
    rw [Array.getElem?_append_left (by simp; omega)]
    simp [h1]
  refine wp_mono (h ⟨w, S0, fn.ntmps, hS0⟩ rfl _ w ⟨_, hrel⟩) fun e a' w' ⟨σ', h1, pl, h2⟩ => ?_
  have fin : ResIs T rs res σ' → a'.defers = [] ∧ ∃ v, (results fn a'.tmps).run P w' = .ok v w' ∧ ∃ v', Ending.returned v = .returned v' ∧ RelV0 (fun k => S0 k ∨ (w.heap.size ≤ k ∧ k < w'.heap.size)) w' res v' ∧ Below w.heap.size w w' := by
    intro hr
    obtain ⟨v, e1, e2⟩ := run_results (P := P) hT fn rs hts (Nat.le_of_ble_eq_true hlen) h2 hr
    exact ⟨h2.dfr, v, e1, v, rfl, e2, h2.below⟩
  cases e with
  | normal => exact fin h1
  | ret => exact fin h1
  | _ => exact h1.elim
end
end Go.E
