/- EG: a region in whatever order the model draws, the law. Conditions: none. -/
import Derived.Test.YtjngmlkaijpbgaaEF
set_option linter.unusedVariables false
set_option linter.unusedSimpArgs false
namespace Go.E
open Go.RowKit

def closedD (ops : Array Oper) (D : Nat → Bool) : Prop := ∀ (j : Nat) (o : Oper), ops[j]? = some o → D j = true → ∀ e ∈ o.after.toList, Region.binds .any e = true → D e.on = true
def maskOf (o : Oper) (acc : List Nat) : Nat := o.after.toList.foldl (fun m e => if Region.binds .any e then m ||| 2 ^ e.on ||| acc.getD e.on 0 else m) 0
def masks : List Oper → List Nat → List Nat
  | [], acc => acc
  | o :: os, acc => masks os (acc ++ [maskOf o acc])
def maskB (m j : Nat) : Bool := m.testBit j

theorem masks_ok {ops : Array Oper} {D : Nat → Bool} (hD : closedD ops D) : ∀ (l : List Oper) (acc : List Nat), (∀ j, l[j]? = ops[acc.length + j]?) →
    (∀ (j m : Nat), acc[j]? = some m → ∀ i, m.testBit i = true → D j = true → D i = true) → ∀ (j m : Nat), (masks l acc)[j]? = some m → ∀ i, m.testBit i = true → D j = true → D i = true
  | [], acc, _, h => h
  | o :: l, acc, hl, h => by
    have h0 : ops[acc.length]? = some o := by have := hl 0; simpa using this.symm
    refine masks_ok hD l (acc ++ [maskOf o acc]) (fun j => by have := hl (j + 1); simpa [Nat.add_assoc, Nat.add_comm 1 j] using this) fun j m hm i hi hj => ?_
    by_cases hlt : j < acc.length
    · rw [List.getElem?_append_left hlt] at hm
      exact h j m hm i hi hj
    · rw [List.getElem?_append_right (by omega)] at hm
      have hj0 : j = acc.length := by
        by_cases e : j - acc.length = 0
        · omega
        · rw [List.getElem?_eq_none (by simp; omega)] at hm; cases hm
      subst hj0
      simp only [Nat.sub_self, List.getElem?_cons_zero, Option.some.injEq] at hm
      subst hm
      have key : ∀ (es : List Edge) (m0 : Nat), (∀ e ∈ es, Region.binds .any e = true → D e.on = true) → (∀ q, m0.testBit q = true → D q = true) →
          ∀ q, (es.foldl (fun m e => if Region.binds .any e then m ||| 2 ^ e.on ||| acc.getD e.on 0 else m) m0).testBit q = true → D q = true := by
        intro es
        induction es with
        | nil => intro m0 _ h0 q hq; exact h0 q hq
        | cons e es ih =>
          intro m0 he h0 q hq
          refine ih _ (fun e' he' => he e' (List.mem_cons_of_mem _ he')) (fun q hq => ?_) q hq
          simp only at hq
          by_cases hb : Region.binds .any e = true
          · have hon := he e (by simp) hb
            rw [if_pos hb] at hq
            simp only [Nat.testBit_or, Bool.or_eq_true] at hq
            rcases hq with (hq | hq) | hq
            · exact h0 q hq
            · rw [Nat.testBit_two_pow] at hq
              have : e.on = q := by simpa using hq
              rw [← this]; exact hon
            · cases hg : acc[e.on]? with
              | none => rw [List.getD_eq_getElem?_getD, hg] at hq; simp at hq
              | some m1 =>
                rw [List.getD_eq_getElem?_getD, hg] at hq
                exact h e.on m1 hg q hq hon
          · rw [if_neg hb] at hq
            exact h0 q hq
      exact key o.after.toList 0 (fun e he hb => hD _ o h0 hj e he hb) (fun q hq => by simp at hq) i hi

def recAt (rs : List Rec) (j : Nat) : Rec := (rs[j]?).getD ⟨none, undefA, [], []⟩
def sharesB (l m : List Nat) : Bool := l.any fun x => m.contains x
/-- Two operations that stand to each other by what is read and written. -/
def cf (ops : Array Oper) (oi oj : Oper) (ri rj : Rec) : Bool :=
  (match oi.dst with | some d => oj.dst == some d || (oj.looksAt ops).contains d | none => false) ||
  (match oj.dst with | some d => (oi.looksAt ops).contains d | none => false) ||
  sharesB (ri.ups.map (·.1)) (rj.ups.map (·.1)) || sharesB (ri.ups.map (·.1)) rj.rds || sharesB ri.rds (rj.ups.map (·.1))
def ordB (ops : Array Oper) (rs : List Rec) : Bool :=
  let ms := masks ops.toList []
  (List.range ops.size).all fun j => match ops[j]?, rs[j]? with
    | some oj, some rj => (oj.after.toList.all fun e => !Region.binds .any e || Nat.blt e.on j) &&
      (List.range j).all fun i => match ops[i]?, rs[i]? with
        | some oi, some ri => !cf ops oi oj ri rj || maskB (ms.getD j 0) i
        | _, _ => false
    | _, _ => false

theorem shares_false {l m : List Nat} (h : sharesB l m = false) : ∀ x ∈ l, x ∉ m := by
  intro x hx hm
  unfold sharesB at h
  rw [List.any_eq_false] at h
  exact h x hx (by simpa using hm)

theorem blt_irr (j : Nat) : Nat.blt j j = false := by
  cases hb : Nat.blt j j with
  | false => rfl
  | true =>
    simp at hb
def cnt (p : Nat → Bool) : Nat → Nat
  | 0 => 0
  | n + 1 => cnt p n + (if p n then 1 else 0)
theorem cnt_congr {p q : Nat → Bool} : ∀ n, (∀ i < n, p i = q i) → cnt p n = cnt q n
  | 0, _ => rfl
  | n + 1, h => by simp only [cnt, cnt_congr n fun i hi => h i (by omega), h n (by omega)]
theorem cnt_upd {p q : Nat → Bool} {i : Nat} (hp : p i = true) (hq : q i = false) (h : ∀ j, j ≠ i → p j = q j) : ∀ n, i < n → cnt p n = cnt q n + 1
  | 0, hn => by omega
  | n + 1, hn => by
    by_cases e : i = n
    · subst e
      simp only [cnt, hp, hq, cnt_congr i fun j hj => h j (by omega)]
      simp
    · simp only [cnt, cnt_upd hp hq h n (by omega), h n (fun e' => e e'.symm)]
      omega
theorem cnt_pos {p : Nat → Bool} : ∀ n, 0 < cnt p n → ∃ i < n, p i = true ∧ ∀ j < i, p j = false
  | 0, h => by simp [cnt] at h
  | n + 1, h => by
    by_cases h0 : 0 < cnt p n
    · obtain ⟨i, h1, h2, h3⟩ := cnt_pos n h0
      exact ⟨i, by omega, h2, h3⟩
    · have : p n = true := by
        simp only [cnt] at h
        split at h
        · assumption
        · omega
      refine ⟨n, by omega, this, fun j hj => ?_⟩
      cases hj' : p j with
      | false => rfl
      | true =>
        exfalso
        have : ∀ m, j < m → 0 < cnt p m := by
          intro m
          induction m with
          | zero => intro h; omega
          | succ m ih =>
            intro h
            simp only [cnt]
            by_cases e : j = m
            · subst e; simp [hj']
            · have := ih (by omega); omega
        exact h0 (this n hj)
theorem cnt_zero {p : Nat → Bool} : ∀ n, cnt p n = 0 → ∀ i < n, p i = false
  | 0, _, i, hi => by omega
  | n + 1, h, i, hi => by
    simp only [cnt] at h
    by_cases e : i = n
    · subst e
      cases h' : p i with
      | false => rfl
      | true => rw [h'] at h; simp at h
    · exact cnt_zero n (by omega) i (by omega)

section
variable {P : Program} {E : Env} {T : Tab} {σ : St} {a : Act} {w : World}

theorem SD_all (rs : Nat → Rec) {D : Nat → Bool} : ∀ n, (∀ j < n, D j = true) → SD σ rs D n = SD σ rs (fun _ => true) n
  | 0, _ => rfl
  | n + 1, h => by simp only [SD, h n (by omega), SD_all rs n fun j hj => h j (by omega)]
theorem SD_lt (rs : Nat → Rec) (i : Nat) : ∀ n, i ≤ n → SD σ rs (fun j => Nat.blt j i) n = SD σ rs (fun _ => true) i
  | 0, h => by
    have : i = 0 := by omega
    subst this; rfl
  | n + 1, h => by
    by_cases e : i = n + 1
    · subst e
      exact SD_all rs _ fun j hj => by simpa using hj
    · have : Nat.blt n i = false := by
        cases hb : Nat.blt n i with
        | false => rfl
        | true => have : n < i := by simpa using hb
                  omega
      simp only [SD, this]
      exact SD_lt rs i n (by omega)
theorem SD_recs (rs : List Rec) : ∀ n, n ≤ rs.length → SD σ (recAt rs) (fun _ => true) n = σ.recs (rs.take n)
  | 0, _ => by simp [SD, St.recs]
  | n + 1, h => by
    have h1 : rs.take (n + 1) = rs.take n ++ [rs[n]'(by omega)] := by rw [List.take_succ_eq_append_getElem (by omega)]
    simp only [SD, if_true, SD_recs rs n (by omega), h1, St.recs, List.foldl_append, List.foldl_cons, List.foldl_nil]
    simp [recAt, List.getElem?_eq_getElem (show n < rs.length by omega)]

/-- What a run in the order of the text says of each operation. -/
theorem runR_get {ovs : List (Nat × Ov)} {nt : Nat} {ops : Array Oper} : ∀ (l : List Oper) (i : Nat) (σ : St) (rs : List Rec) (ps : List Prop), runR P T ovs nt ops i l σ = some (rs, ps) →
    rs.length = l.length ∧ ∀ (j : Nat) (o : Oper), l[j]? = some o → ∃ r p1, rs[j]? = some r ∧ step1 P T ovs nt ops (i + j) o (σ.recs (rs.take j)) = some (r, p1) ∧ ∀ p ∈ p1, p ∈ ps
  | [], i, σ, rs, ps, h => by
    simp only [runR, Option.some.injEq, Prod.mk.injEq] at h
    obtain ⟨rfl, rfl⟩ := h
    exact ⟨rfl, fun j o hj => by simp at hj⟩
  | o :: l, i, σ, rs, ps, h => by
    simp only [runR] at h
    cases h1 : step1 P T ovs nt ops i o σ with
    | none => rw [h1] at h; cases h
    | some x =>
      obtain ⟨r, p1⟩ := x
      rw [h1] at h
      simp only at h
      cases h2 : runR P T ovs nt ops (i + 1) l (σ.stp r) with
      | none => rw [h2] at h; cases h
      | some y =>
        obtain ⟨rs', p2⟩ := y
        rw [h2] at h
        simp only [Option.some.injEq, Prod.mk.injEq] at h
        obtain ⟨rfl, rfl⟩ := h
        obtain ⟨e1, e2⟩ := runR_get l (i + 1) (σ.stp r) rs' p2 h2
        refine ⟨by simp [e1], fun j o' hj => ?_⟩
        cases j with
        | zero =>
          simp only [List.getElem?_cons_zero, Option.some.injEq] at hj
          subst hj
          exact ⟨r, p1, rfl, by simpa [St.recs] using h1, fun p hp => List.mem_append_left _ hp⟩
        | succ j =>
          simp only [List.getElem?_cons_succ] at hj
          obtain ⟨r', p', e3, e4, e5⟩ := e2 j o' hj
          refine ⟨r', p', by simpa using e3, ?_, fun p hp => List.mem_append_right _ (e5 p hp)⟩
          rw [List.take_succ_cons]
          have : i + (j + 1) = i + 1 + j := by omega
          rw [this]
          exact e4

theorem any_ok {ovs : List (Nat × Ov)} {ops : Array Oper} {Q : Exit → Act → World → Prop} {rs : List Rec} {ps : List Prop} (hT : TabOk P T) (hr : runR P T ovs E.nt ops 0 ops.toList σ = some (rs, ps)) (hp : ∀ p ∈ ps, p)
    (hord : ordB ops rs = true) (hQ : ∀ a' w', Rel E (σ.recs rs) a' w' → Q .normal a' w') :
    ∀ (fuel : Nat) (listed : Array Bool) (a : Act) (w : World), listed.size = ops.size → closedD ops (fun j => listed.getD j false) → cnt (fun j => !listed.getD j false) ops.size = fuel →
      Rel E (SD σ (recAt rs) (fun j => listed.getD j false) ops.size) a w → wpAny P .any ops Q fuel listed a w := by
  obtain ⟨hlen, hget⟩ := runR_get (P := P) (T := T) ops.toList 0 σ rs ps hr
  have hlen' : rs.length = ops.size := by simpa using hlen
  unfold ordB at hord
  simp only [List.all_eq_true, List.mem_range] at hord
  have hall : ∀ j, j < ops.size → ∃ oj rj, ops[j]? = some oj ∧ rs[j]? = some rj ∧ (∀ e ∈ oj.after.toList, Region.binds .any e = true → e.on < j) ∧
      ∀ i, i < j → ∀ oi ri, ops[i]? = some oi → rs[i]? = some ri → cf ops oi oj ri rj = true → ((masks ops.toList []).getD j 0).testBit i = true := by
    intro j hj
    have h := hord j hj
    have h1 : ops[j]? = some ops[j] := Array.getElem?_eq_getElem hj
    have h2 : rs[j]? = some (rs[j]'(by omega)) := List.getElem?_eq_getElem (by omega)
    refine ⟨ops[j], rs[j]'(by omega), h1, h2, ?_, ?_⟩
    · rw [h1, h2] at h
      simp only [Bool.and_eq_true, List.all_eq_true] at h
      intro e he hb
      have := h.1 e he
      rw [hb] at this
      simpa using this
    · rw [h1, h2] at h
      simp only [Bool.and_eq_true, List.all_eq_true, List.mem_range] at h
      intro i hi oi ri hoi hri hc
      have := h.2 i hi
      rw [hoi, hri] at this
      simpa [hc, maskB] using this
  have hmask : ∀ D : Nat → Bool, closedD ops D → ∀ j i, ((masks ops.toList []).getD j 0).testBit i = true → D j = true → D i = true := by
    intro D hD j i hi hj
    cases hm : (masks ops.toList [])[j]? with
    | none => rw [List.getD_eq_getElem?_getD, hm] at hi; simp at hi
    | some m =>
      rw [List.getD_eq_getElem?_getD, hm] at hi
      exact masks_ok hD ops.toList [] (fun j => by simp) (fun j m hm => by simp at hm) j m hm i hi hj
  have hgetD : ∀ (listed : Array Bool) (i : Nat), i < listed.size → listed.getD i true = listed.getD i false := by
    intro listed i hi
    simp [Array.getD, hi]
  have hready : ∀ (listed : Array Bool) i, listed.size = ops.size → (i ∈ Region.ready .any ops listed ↔ ∃ o, ops[i]? = some o ∧ listed.getD i false = false ∧ ∀ e ∈ o.after.toList, Region.binds .any e = true → listed.getD e.on false = true) := by
    intro listed i hsz
    unfold Region.ready
    rw [List.mem_filter, List.mem_range]
    constructor
    · rintro ⟨h1, h2⟩
      have ho : ops[i]? = some ops[i] := Array.getElem?_eq_getElem h1
      rw [ho] at h2
      simp only [Option.map_some, Option.getD_some, Bool.and_eq_true] at h2
      refine ⟨ops[i], ho, by rw [← hgetD listed i (by omega)]; simpa using h2.1, fun e he hb => ?_⟩
      have := h2.2
      rw [Array.all_eq_true_iff_forall_mem] at this
      have := this e (by simpa using he)
      simpa [hb] using this
    · rintro ⟨o, ho, h1, h2⟩
      have hi : i < ops.size := by
        by_cases h : i < ops.size
        · exact h
        · rw [Array.getElem?_eq_none (by omega)] at ho; cases ho
      refine ⟨hi, ?_⟩
      rw [ho]
      simp only [Option.map_some, Option.getD_some, Bool.and_eq_true]
      refine ⟨by rw [hgetD listed i (by omega), h1]; rfl, ?_⟩
      rw [Array.all_eq_true_iff_forall_mem]
      intro e he
      by_cases hb : Region.binds .any e = true
      · simp [hb, h2 e (by simpa using he) hb]
      · simp [hb]
  intro fuel
  induction fuel with
  | zero =>
    intro listed a w hsz hcl hcnt hrel
    have hfull : ∀ j < ops.size, listed.getD j false = true := fun j hj => by simpa using cnt_zero _ hcnt j hj
    refine ⟨?_, ?_⟩
    · rw [List.eq_nil_iff_forall_not_mem]
      intro i hi
      rw [hready listed i hsz] at hi
      obtain ⟨o, ho, h1, _⟩ := hi
      have hi' : i < ops.size := by
        by_cases h : i < ops.size
        · exact h
        · rw [Array.getElem?_eq_none (by omega)] at ho; cases ho
      rw [hfull i hi'] at h1
      cases h1
    · rw [SD_all _ _ hfull, SD_recs rs _ (by omega), List.take_of_length_le (by omega)] at hrel
      exact hQ a w hrel
  | succ fuel ih =>
    intro listed a w hsz hcl hcnt hrel
    refine ⟨fun hnil => ?_, fun i hi => ?_⟩
    · exfalso
      obtain ⟨i, hi, h1, h2⟩ := cnt_pos (p := fun j => !listed.getD j false) ops.size (by omega)
      obtain ⟨oj, rj, e1, e2, e3, _⟩ := hall i hi
      have : i ∈ Region.ready .any ops listed := (hready listed i hsz).2 ⟨oj, e1, by simpa using h1, fun e he hb => by simpa using h2 e.on (e3 e he hb)⟩
      rw [hnil] at this
      cases this
    · rw [hready listed i hsz] at hi
      obtain ⟨o, ho, h1, h2⟩ := hi
      have hi' : i < ops.size := by
        by_cases h : i < ops.size
        · exact h
        · rw [Array.getElem?_eq_none (by omega)] at ho; cases ho
      obtain ⟨oi', ri, e1, e2, e3, e4⟩ := hall i hi'
      rw [ho] at e1
      simp only [Option.some.injEq] at e1
      subst e1
      obtain ⟨r, p1, hr1, hr2, hr3⟩ := hget i o (by simpa using ho)
      rw [e2] at hr1
      simp only [Option.some.injEq] at hr1
      subst hr1
      have hri : (recAt rs) i = ri := by simp [recAt, e2]
      rw [Nat.zero_add] at hr2
      rw [← SD_recs rs i (by omega), ← SD_lt _ i ops.size (by omega)] at hr2
      have hdst : ri.dst = o.dst := step1_dst hr2
      have hdsts : ∀ (j : Nat) (oj : Oper) (rj : Rec), ops[j]? = some oj → rs[j]? = some rj → rj.dst = oj.dst := by
        intro j oj rj hoj hrj
        obtain ⟨r', p', f1, f2, _⟩ := hget j oj (by simpa using hoj)
        rw [hrj] at f1
        simp only [Option.some.injEq] at f1
        subst f1
        exact step1_dst f2
      -- whatever is not as it was in the order of the text does not meet this one
      have hfar : ∀ j, j < ops.size → j ≠ i → (listed.getD j false ≠ Nat.blt j i) → ∃ oj rj, ops[j]? = some oj ∧ rs[j]? = some rj ∧ cf ops o oj ri rj = false ∨ ∃ oj rj, ops[j]? = some oj ∧ rs[j]? = some rj ∧ cf ops oj o rj ri = false := by
        intro j hj hne hd
        obtain ⟨oj, rj, f1, f2, f3, f4⟩ := hall j hj
        by_cases hlt : j < i
        · refine ⟨oj, rj, .inr ⟨oj, rj, f1, f2, ?_⟩⟩
          cases hc : cf ops oj o rj ri with
          | false => rfl
          | true =>
            exfalso
            have hb := e4 j hlt oj rj f1 f2 hc
            have hcl' : closedD ops (fun q => listed.getD q false || q == i) := by
              intro q oq hoq hq e he hbd
              simp only [Bool.or_eq_true, beq_iff_eq] at hq ⊢
              rcases hq with hq | rfl
              · exact .inl (hcl q oq hoq hq e he hbd)
              · rw [ho] at hoq
                simp only [Option.some.injEq] at hoq
                subst hoq
                exact .inl (h2 e he hbd)
            have := hmask _ hcl' i j hb (by simp)
            have hji : (j == i) = false := by simpa using hne
            simp only [hji, Bool.or_false] at this
            have hbl : Nat.blt j i = true := by simpa using hlt
            rw [this, hbl] at hd
            exact hd rfl
        · refine ⟨oj, rj, .inl ⟨f1, f2, ?_⟩⟩
          cases hc : cf ops o oj ri rj with
          | false => rfl
          | true =>
            exfalso
            have hb := f4 i (by omega) o ri ho e2 hc
            have hbl : Nat.blt j i = false := by
              cases hb' : Nat.blt j i with
              | false => rfl
              | true => have : j < i := by simpa using hb'
                        omega
            rw [hbl] at hd
            have hj' : listed.getD j false = true := by simpa using hd
            have := hmask _ hcl j i hb hj'
            rw [h1] at this
            cases this
      have cf_split : ∀ {x y : Oper} {rx ry : Rec}, cf ops x y rx ry = false → (∀ d, x.dst = some d → y.dst ≠ some d ∧ d ∉ y.looksAt ops) ∧ (∀ d, y.dst = some d → d ∉ x.looksAt ops) ∧
          (∀ p ∈ rx.ups, (∀ q ∈ ry.ups, q.1 ≠ p.1) ∧ p.1 ∉ ry.rds) ∧ (∀ q ∈ ry.ups, q.1 ∉ rx.rds) := by
        intro x y rx ry h
        unfold cf at h
        simp only [Bool.or_eq_false_iff] at h
        obtain ⟨⟨⟨⟨g1, g2⟩, g3⟩, g4⟩, g5⟩ := h
        refine ⟨fun d hd => ?_, fun d hd => ?_, fun p hp => ⟨fun q hq e => ?_, fun hm => ?_⟩, fun q hq hm => ?_⟩
        · rw [hd] at g1
          simp only [Bool.or_eq_false_iff] at g1
          exact ⟨by simpa using g1.1, by simpa using g1.2⟩
        · rw [hd] at g2
          simpa using g2
        · exact shares_false g3 p.1 (List.mem_map.2 ⟨p, hp, rfl⟩) (List.mem_map.2 ⟨q, hq, e⟩)
        · exact shares_false g4 p.1 (List.mem_map.2 ⟨p, hp, rfl⟩) hm
        · exact shares_false g5 q.1 hm (List.mem_map.2 ⟨q, hq, rfl⟩)
      have hrsj : ∀ (j : Nat) (rj : Rec), rs[j]? = some rj → (recAt rs) j = rj := fun j rj h => by simp [recAt, h]
      have hstep : step1 P T ovs E.nt ops i o (SD σ (recAt rs) (fun j => listed.getD j false) ops.size) = some (ri, p1) := by
        refine step1_congr hr2 (fun d hd => SD_slots_agree _ fun j hj hne => ?_) (fun q hq => SD_hp_agree _ fun j hj hne p hp e => ?_)
        · by_cases hji : j = i
          · subst hji; exact absurd (h1.trans (blt_irr j).symm) hne
          · obtain ⟨oj, rj, ⟨f1, f2, f3⟩ | ⟨oj, rj, f1, f2, f3⟩⟩ := hfar j hj hji hne
            · rw [hrsj j rj f2, hdsts j oj rj f1 f2]
              exact fun e => (cf_split f3).2.1 d e hd
            · rw [hrsj j rj f2, hdsts j oj rj f1 f2]
              exact fun e => ((cf_split f3).1 d e).2 hd
        · by_cases hji : j = i
          · subst hji; exact absurd (h1.trans (blt_irr j).symm) hne
          · obtain ⟨oj, rj, ⟨f1, f2, f3⟩ | ⟨oj, rj, f1, f2, f3⟩⟩ := hfar j hj hji hne
            · rw [hrsj j rj f2] at hp
              exact (cf_split f3).2.2.2 p hp (e ▸ hq)
            · rw [hrsj j rj f2] at hp
              exact ((cf_split f3).2.2.1 p hp).2 (e ▸ hq)
      refine step1_ok hT ho hstep (fun p hp' => hp p (hr3 p hp')) hrel fun a' w' hrel' => ?_
      have hD : ∀ j, (listed.setIfInBounds i true).getD j false = (listed.getD j false || j == i) := by
        intro j
        by_cases hji : j = i
        · subst hji
          simp [Array.getD, hsz, hi']
        · have : (j == i) = false := by simpa using hji
          rw [this, Bool.or_false, Array.getD_eq_getD_getElem?, Array.getD_eq_getD_getElem?, Array.getElem?_setIfInBounds_ne (by omega)]
      have hcl' : closedD ops (fun j => (listed.setIfInBounds i true).getD j false) := by
        intro q oq hoq hq e he hbd
        simp only [hD, Bool.or_eq_true, beq_iff_eq] at hq ⊢
        rcases hq with hq | rfl
        · exact .inl (hcl q oq hoq hq e he hbd)
        · rw [ho] at hoq
          simp only [Option.some.injEq] at hoq
          subst hoq
          exact .inl (h2 e he hbd)
      refine ih _ a' w' (by simpa using hsz) hcl' ?_ (hrel'.congr ?_ ?_)
      · have := cnt_upd (p := fun j => !listed.getD j false) (q := fun j => !(listed.setIfInBounds i true).getD j false) (i := i) (by simp only [h1]; rfl) (by simp only [hD]; simp) (fun j hj => by
          have : (j == i) = false := by simpa using hj
          simp only [hD, this, Bool.or_false]) ops.size hi'
        omega
      · funext d
        rw [← hri]
        refine SD_slots_ins (D := fun j => listed.getD j false) hD h1 ops.size hi' fun j hij hj hDj hdi => ?_
        rw [hri, hdst] at hdi
        obtain ⟨oj, rj, f1, f2, f3, f4⟩ := hall j hj
        have hne : listed.getD j false ≠ Nat.blt j i := by
          have hDj' : listed.getD j false = true := hDj
          rw [hDj']
          intro hb
          have : j < i := by simpa using hb.symm
          omega
        obtain ⟨oj', rj', ⟨g1, g2, g3⟩ | ⟨oj', rj', g1, g2, g3⟩⟩ := hfar j hj (by omega) hne
        · rw [hrsj j rj' g2, hdsts j oj' rj' g1 g2]
          exact ((cf_split g3).1 d hdi).1
        · rw [hrsj j rj' g2, hdsts j oj' rj' g1 g2]
          exact fun e => ((cf_split g3).1 d e).1 hdi
      · funext q
        rw [← hri]
        refine SD_hp_ins (D := fun j => listed.getD j false) hD h1 ops.size hi' fun j hij hj hDj hdi p hp => ?_
        rw [hri] at hdi
        obtain ⟨p0, hp0, e0⟩ := hdi
        obtain ⟨oj, rj, f1, f2, f3, f4⟩ := hall j hj
        have hne : listed.getD j false ≠ Nat.blt j i := by
          have hDj' : listed.getD j false = true := hDj
          rw [hDj']
          intro hb
          have : j < i := by simpa using hb.symm
          omega
        obtain ⟨oj', rj', ⟨g1, g2, g3⟩ | ⟨oj', rj', g1, g2, g3⟩⟩ := hfar j hj (by omega) hne
        · rw [hrsj j rj' g2] at hp
          rw [← e0]
          exact ((cf_split g3).2.2.1 p0 hp0).1 p hp
        · rw [hrsj j rj' g2] at hp
          intro e
          exact ((cf_split g3).2.2.1 p hp).1 p0 hp0 (by rw [e0, e])

theorem region_any {ovs : List (Nat × Ov)} {ops : Array Oper} {id : Nat} {Q : Exit → Act → World → Prop} {rs : List Rec} {ps : List Prop} (hm : P.follows .mixedOrders = true) (hT : TabOk P T) (hr : runR P T ovs E.nt ops 0 ops.toList σ = some (rs, ps)) (hp : ∀ p ∈ ps, p)
    (hord : ordB ops rs = true) (hQ : ∀ a' w', Rel E (σ.recs rs) a' w' → Q .normal a' w') (h : Rel E σ a w) : (Code.region id ops true).wp P Q a w := by
  refine wp_region_any hm ?_
  have hrep : (fun j => (Array.replicate ops.size false).getD j false) = fun _ => false := by
    funext j
    by_cases hj : j < ops.size <;> simp [Array.getD, hj]
  have hrep' : (fun j => !(Array.replicate ops.size false).getD j false) = fun _ => true := by
    funext j
    simp [congrFun hrep j]
  have hcnt : ∀ n, cnt (fun _ => true) n = n := by
    intro n
    induction n with
    | zero => rfl
    | succ n ih => simp [cnt, ih]
  have hSD : ∀ n, SD σ (recAt rs) (fun _ => false) n = σ := by
    intro n
    induction n with
    | zero => rfl
    | succ n ih => simp [SD, ih]
  refine any_ok hT hr hp hord hQ ops.size _ a _ (by simp) (fun j o _ hj => absurd ((congrFun hrep j).symm.trans hj) (by simp)) (by rw [hrep']; exact hcnt _) ?_
  rw [hrep, hSD]
  exact h.drew
end
end Go.E
