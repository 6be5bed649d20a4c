/- EF: a region in whatever order the model draws: what is read and written by two of its operations that are not bound does not meet. Conditions: none. -/
import Derived.Test.YtjngmlkaijpbgaaEE
set_option linter.unusedVariables false
set_option linter.unusedSimpArgs false
namespace Go.E
open Go.RowKit

/-! ### Only the operands matter -/
section
variable {P : Program} {T : Tab} {ov : Ov} {o : Oper} {ρ ρ' : Operand → Option AV}

theorem mapM_congr' : ∀ {l : List Operand}, (∀ x ∈ l, ρ x = ρ' x) → l.mapM ρ = l.mapM ρ'
  | [], _ => rfl
  | x :: l, h => by
    rw [List.mapM_cons, List.mapM_cons, h x (by simp), mapM_congr' fun y hy => h y (List.mem_cons_of_mem _ hy)]
theorem mapPg_congr {α β : Type} {f g : α → Pg β} : ∀ {l : List α}, (∀ x ∈ l, f x = g x) → mapPg f l = mapPg g l
  | [], _ => rfl
  | x :: l, h => by
    unfold mapPg
    rw [h x (by simp), mapPg_congr fun y hy => h y (List.mem_cons_of_mem _ hy)]

theorem exec1_congr (h : ∀ x ∈ o.op.operands.toList, ρ x = ρ' x) : exec1 P T ov o ρ = exec1 P T ov o ρ' := by
  cases ho : o.op with
  | build t ps =>
    rw [ho] at h
    have : mapPg (partP ρ) ps.toList = mapPg (partP ρ') ps.toList := mapPg_congr fun p hp => by
      unfold partP
      rw [h p.2 (by simp only [Op.operands]; exact List.mem_map.2 ⟨p, hp, rfl⟩)]
    simp only [exec1, ho, this]
  | buildSlice t n ps =>
    rw [ho] at h
    have : mapPg (partP ρ) ps.toList = mapPg (partP ρ') ps.toList := mapPg_congr fun p hp => by
      unfold partP
      rw [h p.2 (by simp only [Op.operands]; exact List.mem_map.2 ⟨p, hp, rfl⟩)]
    simp only [exec1, ho, this]
  | makeFunc f fi ca =>
    rw [ho] at h
    have h1 : fi.toList.mapM ρ = fi.toList.mapM ρ' := mapM_congr' fun x hx => h x (by simp only [Op.operands, Array.toList_append]; exact List.mem_append_left _ hx)
    have h2 : ca.toList.mapM ρ = ca.toList.mapM ρ' := mapM_congr' fun x hx => h x (by simp only [Op.operands, Array.toList_append]; exact List.mem_append_right _ hx)
    simp only [exec1, ho, h1, h2]
  | slice t x lo hi mx =>
    rw [ho] at h
    have h1 : ρ x = ρ' x := h x (by simp [Op.operands])
    have h2 : ∀ y, lo = some y → ρ y = ρ' y := fun y hy => h y (by simp [Op.operands, hy])
    have h3 : ∀ y, hi = some y → ρ y = ρ' y := fun y hy => h y (by simp [Op.operands, hy])
    cases lo <;> cases hi <;> cases mx <;> simp_all [exec1]
  | call c =>
    rw [ho] at h
    obtain ⟨callee, args, ts⟩ := c
    have h1 : args.toList.mapM ρ = args.toList.mapM ρ' := mapM_congr' fun x hx => h x (by
      simp only [Op.operands, Call.operands, Array.toList_append]; exact List.mem_append_right _ hx)
    cases callee with
    | value f =>
      have h2 : ρ f = ρ' f := h f (by simp [Op.operands, Call.operands])
      cases f <;> simp_all [exec1]
    | invoke r m => simp [exec1, ho]
    | builtin b => cases b <;> simp only [exec1, ho, h1]
  | _ =>
    rw [ho] at h
    simp [Op.operands] at h
    simp [exec1, ho, h]
end

/-! ### What two states agree on -/
section
variable {P : Program} {E : Env} {T : Tab} {σ σ' : St} {a : Act} {w : World}

theorem Rel.congr (h : Rel E σ a w) (hs : look σ'.slots = look σ.slots) (hh : look σ'.hp = look σ.hp) : Rel E σ' a w := by
  obtain ⟨pl, h⟩ := h
  refine ⟨pl, h.nt, h.dfr, h.below, ?_, ?_, ?_⟩
  · rw [hs, hh]; exact h.slots
  · rw [hh]; exact h.blks
  · rw [hh]; exact h.dist

theorem step1_congr {ovs : List (Nat × Ov)} {nt : Nat} {ops : Array Oper} {i : Nat} {o : Oper} {r : Rec} {ps : List Prop} (h : step1 P T ovs nt ops i o σ = some (r, ps))
    (hs : ∀ d ∈ o.looksAt ops, look σ'.slots d = look σ.slots d) (hh : ∀ q ∈ r.rds, look σ'.hp q = look σ.hp q) : step1 P T ovs nt ops i o σ' = some (r, ps) := by
  have hw : wantB ops o (look σ'.slots) = wantB ops o (look σ.slots) := by
    unfold wantB
    split
    · rfl
    · rename_i j want hg
      cases hd : gslot ops j with
      | none => rfl
      | some d =>
        have : d ∈ o.looksAt ops := by
          unfold Oper.looksAt
          unfold gslot at hd
          simp [hg, hd]
        simp only [hs d this]
  have he : exec1 P T ((look ovs i).getD {}) o σ'.ev = exec1 P T ((look ovs i).getD {}) o σ.ev := exec1_congr fun x hx => by
    cases x with
    | tmp t =>
      have : t ∈ o.looksAt ops := by
        unfold Oper.looksAt
        refine List.mem_append_left _ (List.mem_filterMap.2 ⟨.tmp t, hx, rfl⟩)
      exact hs t this
    | _ => rfl
  unfold step1 at h ⊢
  rw [hw, he]
  split at h
  · rename_i hd
    rw [if_pos hd]
    split at h
    · rename_i hw'
      split at h
      · rename_i eff log hrun
        simp only [Option.some.injEq, Prod.mk.injEq] at h
        obtain ⟨rfl, rfl⟩ := h
        rw [Pg.run_local _ hrun hh]
      · cases h
    · exact h
    · cases h
  · cases h

theorem step1_dst {ovs : List (Nat × Ov)} {nt : Nat} {ops : Array Oper} {i : Nat} {o : Oper} {r : Rec} {ps : List Prop} (h : step1 P T ovs nt ops i o σ = some (r, ps)) : r.dst = o.dst := by
  unfold step1 at h
  split at h
  · split at h
    · split at h
      · simp only [Option.some.injEq, Prod.mk.injEq] at h
        obtain ⟨rfl, rfl⟩ := h
        rfl
      · cases h
    · simp only [Option.some.injEq, Prod.mk.injEq] at h
      obtain ⟨rfl, rfl⟩ := h
      rfl
    · cases h
  · cases h

/-- What has been carried out of a region: of the first n, those of D. -/
def SD (σ : St) (rs : Nat → Rec) (D : Nat → Bool) : Nat → St
  | 0 => σ
  | k + 1 => if D k then (SD σ rs D k).stp (rs k) else SD σ rs D k

theorem look_stp_slots (σ : St) (r : Rec) (d : Nat) : look (σ.stp r).slots d = if r.dst = some d then some r.val else look σ.slots d := by
  unfold St.stp
  cases hr : r.dst with
  | none => simp [putO]
  | some q => simp [putO, look_put]
/-- The last of the blocks written. -/
def lastU (ups : List (Nat × Blk)) (i : Nat) : Option Blk := look (puts [] ups) i
theorem look_puts' : ∀ (ups : List (Nat × Blk)) (hp hp' : List (Nat × Blk)) (i : Nat), look hp i = look hp' i → look (puts hp ups) i = look (puts hp' ups) i
  | [], _, _, _, h => h
  | p :: ups, hp, hp', i, h => look_puts' ups _ _ i (by rw [look_put, look_put, h])
theorem look_puts_none : ∀ (ups : List (Nat × Blk)) (hp : List (Nat × Blk)) (i : Nat), (∀ p ∈ ups, p.1 ≠ i) → look (puts hp ups) i = look hp i := by
  intro ups hp i h
  rcases look_puts ups hp i with ⟨p, hp, h1, _⟩ | ⟨_, h2⟩
  · exact absurd h1 (h p hp)
  · exact h2
theorem look_puts_some (ups : List (Nat × Blk)) (hp hp' : List (Nat × Blk)) (i : Nat) (h : ∃ p ∈ ups, p.1 = i) : look (puts hp ups) i = look (puts hp' ups) i := by
  induction ups generalizing hp hp' with
  | nil => simp at h
  | cons p ups ih =>
    by_cases h' : ∃ q ∈ ups, q.1 = i
    · exact ih _ _ h'
    · obtain ⟨q, hq, e⟩ := h
      have : p.1 = i := by
        rcases List.mem_cons.1 hq with rfl | hq
        · exact e
        · exact absurd ⟨q, hq, e⟩ h'
      have hn : ∀ q ∈ ups, q.1 ≠ i := fun q hq e => h' ⟨q, hq, e⟩
      show look (puts (put hp p.1 p.2) ups) i = look (puts (put hp' p.1 p.2) ups) i
      rw [look_puts_none _ _ _ hn, look_puts_none _ _ _ hn, look_put, look_put, if_pos this, if_pos this]

theorem SD_slots_agree {rs : Nat → Rec} {D D' : Nat → Bool} {d : Nat} : ∀ n, (∀ j < n, D j ≠ D' j → (rs j).dst ≠ some d) → look (SD σ rs D n).slots d = look (SD σ rs D' n).slots d
  | 0, _ => rfl
  | n + 1, h => by
    have ih := SD_slots_agree n fun j hj => h j (by omega)
    have h0 := h n (by omega)
    simp only [SD]
    cases h1 : D n <;> cases h2 : D' n <;> simp only [Bool.false_eq_true, if_true, if_false, look_stp_slots, ih] <;> simp [h1, h2] at h0 <;> simp [h0]
theorem SD_hp_agree {rs : Nat → Rec} {D D' : Nat → Bool} {q : Nat} : ∀ n, (∀ j < n, D j ≠ D' j → ∀ p ∈ (rs j).ups, p.1 ≠ q) → look (SD σ rs D n).hp q = look (SD σ rs D' n).hp q
  | 0, _ => rfl
  | n + 1, h => by
    have ih := SD_hp_agree n fun j hj => h j (by omega)
    have h0 := h n (by omega)
    simp only [SD]
    cases h1 : D n <;> cases h2 : D' n <;> simp only [Bool.false_eq_true, if_true, if_false]
    · exact ih
    · rw [ih]; exact (look_puts_none _ _ _ (h0 (by simp [h1, h2]))).symm
    · rw [← ih]; exact look_puts_none _ _ _ (h0 (by simp [h1, h2]))
    · exact look_puts' _ _ _ _ ih

theorem SD_slots_ins {rs : Nat → Rec} {D D' : Nat → Bool} {i : Nat} (hD : ∀ j, D' j = (D j || j == i)) (hi : D i = false) {d : Nat} :
    ∀ n, i < n → (∀ j, i < j → j < n → D j = true → (rs i).dst = some d → (rs j).dst ≠ some d) → look (SD σ rs D' n).slots d = look ((SD σ rs D n).stp (rs i)).slots d
  | 0, h, _ => by omega
  | n + 1, hn, h => by
    by_cases e : i = n
    · subst e
      simp only [SD]
      have h1 : D' i = true := by rw [hD]; simp
      rw [h1, hi]
      simp only [if_true, Bool.false_eq_true, if_false, look_stp_slots]
      rw [SD_slots_agree (σ := σ) (D := D') (D' := D) i fun j hj hne => by
        exfalso; apply hne; rw [hD]; have : (j == i) = false := by simpa using by omega
        simp [this]]
    · have ih := SD_slots_ins hD hi (d := d) n (by omega) fun j h1 h2 => h j h1 (by omega)
      have hDn : D' n = D n := by
        rw [hD]
        have : (n == i) = false := by simpa using fun e' => e e'.symm
        simp [this]
      simp only [SD, hDn]
      cases hn' : D n with
      | false => simpa [hn'] using ih
      | true =>
        have h0 := h n (by omega) (by omega) hn'
        simp only [if_true, look_stp_slots] at ih ⊢
        rw [ih]
        by_cases e1 : (rs i).dst = some d
        · have := h0 e1
          simp [e1, this]
        · simp [e1]
theorem SD_hp_ins {rs : Nat → Rec} {D D' : Nat → Bool} {i : Nat} (hD : ∀ j, D' j = (D j || j == i)) (hi : D i = false) {q : Nat} :
    ∀ n, i < n → (∀ j, i < j → j < n → D j = true → (∃ p ∈ (rs i).ups, p.1 = q) → ∀ p ∈ (rs j).ups, p.1 ≠ q) → look (SD σ rs D' n).hp q = look ((SD σ rs D n).stp (rs i)).hp q
  | 0, h, _ => by omega
  | n + 1, hn, h => by
    by_cases e : i = n
    · subst e
      simp only [SD]
      have h1 : D' i = true := by rw [hD]; simp
      rw [h1, hi]
      simp only [if_true, Bool.false_eq_true, if_false]
      refine look_puts' _ _ _ _ (SD_hp_agree (σ := σ) (D := D') (D' := D) i fun j hj hne => ?_)
      exfalso; apply hne; rw [hD]; have : (j == i) = false := by simpa using by omega
      simp [this]
    · have ih := SD_hp_ins hD hi (q := q) n (by omega) fun j h1 h2 => h j h1 (by omega)
      have hDn : D' n = D n := by
        rw [hD]
        have : (n == i) = false := by simpa using fun e' => e e'.symm
        simp [this]
      simp only [SD, hDn]
      cases hn' : D n with
      | false => simpa [hn'] using ih
      | true =>
        have h0 := h n (by omega) (by omega) hn'
        simp only [if_true]
        by_cases e1 : ∃ p ∈ (rs i).ups, p.1 = q
        · have h2 := h0 e1
          show look (puts (SD σ rs D' n).hp (rs n).ups) q = look (puts (puts (SD σ rs D n).hp (rs n).ups) (rs i).ups) q
          rw [look_puts_none _ _ _ h2, ih]
          exact look_puts_some _ _ _ _ e1
        · have h3 : ∀ p ∈ (rs i).ups, p.1 ≠ q := fun p hp e' => e1 ⟨p, hp, e'⟩
          show look (puts (SD σ rs D' n).hp (rs n).ups) q = look (puts (puts (SD σ rs D n).hp (rs n).ups) (rs i).ups) q
          rw [look_puts_none _ _ _ h3]
          refine look_puts' _ _ _ _ ?_
          rw [ih]
          exact look_puts_none _ _ _ h3
end
end Go.E
