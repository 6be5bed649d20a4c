/- E3: how the abstract machine's states stand to the model's: what is kept by values, by new blocks, by stores, by what is given up. Conditions: none. -/
import Derived.Test.YtjngmlkaijpbgaaE2
set_option linter.unusedVariables false
set_option linter.unusedSimpArgs false
namespace Go.E
open Go.RowKit

theorem flatten_len {α : Type} {sz : Nat} : ∀ {rows : List (List α)}, (∀ r ∈ rows, r.length = sz) → rows.flatten.length = rows.length * sz
  | [], _ => by simp
  | r :: rows, h => by
    rw [List.flatten_cons, List.length_append, flatten_len (fun x hx => h x (List.mem_cons_of_mem _ hx)), h r (by simp), List.length_cons, Nat.add_mul]
    omega
theorem flatten_get {α : Type} {sz : Nat} : ∀ {rows : List (List α)} {j q : Nat} {r : List α}, (∀ r ∈ rows, r.length = sz) → rows[j]? = some r → q < sz → rows.flatten[j * sz + q]? = r[q]?
  | [], j, q, r, _, h, _ => by simp at h
  | r0 :: rows, 0, q, r, h, hr, hq => by
    have : r0 = r := by simpa using hr
    subst this
    have hl := h r0 (by simp)
    rw [List.flatten_cons, Nat.zero_mul, Nat.zero_add, List.getElem?_append_left (by omega)]
  | r0 :: rows, j + 1, q, r, h, hr, hq => by
    have hl := h r0 (by simp)
    have hr' : rows[j]? = some r := by simpa using hr
    rw [List.flatten_cons, List.getElem?_append_right (by rw [hl, Nat.add_mul]; omega), hl]
    have e : (j + 1) * sz + q - sz = j * sz + q := by rw [Nat.add_mul]; omega
    rw [e]
    exact flatten_get (fun x hx => h x (List.mem_cons_of_mem _ hx)) hr' hq
theorem lt_of_getElem? {α : Type} {l : List α} {j : Nat} {a : α} (h : l[j]? = some a) : j < l.length := by
  rcases Nat.lt_or_ge j l.length with h' | h'
  · exact h'
  · rw [List.getElem?_eq_none h'] at h; cases h

theorem avC_rel {S : Nat → Prop} {w : World} {v : Value} {a : AV} (h : avC v = some a) : RelV0 S w a v ∧ v.oneCell' = true := by
  unfold avC at h
  split at h <;> simp only [Option.some.injEq, reduceCtorEq] at h <;> subst h
  · exact ⟨.b _, rfl⟩
  · exact ⟨.i _ _, rfl⟩
  · exact ⟨.s _, rfl⟩
  · exact ⟨.np, rfl⟩
  · exact ⟨.nl, rfl⟩
  · exact ⟨.nilf, rfl⟩
  · exact ⟨.nili, rfl⟩
theorem mapM_get {α β : Type} {f : α → Option β} : ∀ {l : List α} {m : List β}, l.mapM f = some m → m.length = l.length ∧ ∀ (j : Nat) (a : α) (b : β), l[j]? = some a → m[j]? = some b → f a = some b
  | [], m, h => by
    simp at h; subst h
    exact ⟨rfl, fun j a b ha => by simp at ha⟩
  | x :: l, m, h => by
    simp only [List.mapM_cons, Option.bind_eq_bind, Option.pure_def] at h
    cases hx : f x with
    | none => simp [hx] at h
    | some y =>
      cases hl : l.mapM f with
      | none => simp [hx, hl] at h
      | some ys =>
        simp [hx, hl] at h
        subst h
        obtain ⟨h1, h2⟩ := mapM_get hl
        refine ⟨by simp [h1], fun j a b ha hb => ?_⟩
        cases j with
        | zero => simp at ha hb; subst ha; subst hb; exact hx
        | succ j => exact h2 j a b (by simpa using ha) (by simpa using hb)
theorem avConst_rel {S : Nat → Prop} {w : World} {v : Value} {a : AV} (h : avConst v = some a) : RelV0 S w a v := by
  unfold avConst at h
  split at h
  · rename_i cs
    cases hm : cs.toList.mapM avC with
    | none => simp [hm] at h
    | some l =>
      simp [hm] at h
      subst h
      obtain ⟨h1, h2⟩ := mapM_get hm
      have := RelV0.agg (S := S) (w := w) l cs.toList h1.symm (fun u hu => by
        obtain ⟨j, hj, rfl⟩ := List.mem_iff_getElem.1 hu
        have hj' : j < l.length := by omega
        exact (avC_rel (S := S) (w := w) (h2 j _ _ (List.getElem?_eq_getElem hj) (List.getElem?_eq_getElem hj'))).2) (fun j a u ha hu => (avC_rel (h2 j u a hu ha)).1)
      simpa using this
  · rename_i cs
    split at h
    · rename_i he
      have : cs = #[] := by simpa using he
      subst this
      simp at h
      subst h
      exact .tup [] [] rfl (fun j a u ha => by simp at ha)
    · cases h
  · exact (avC_rel h).1

def St.ev (σ : St) : Operand → Option AV
  | .tmp t => look σ.slots t
  | .const v => avConst v
  | .func f => some (.fn (.func f) [] [])
  | .global _ => none
theorem RelX.ev {E : Env} {σ : St} {pl : Nat → Value} {a : Act} {w : World} (h : RelX E σ pl a w) {x : Operand} {av : AV} (hx : σ.ev x = some av) :
    RelV (look σ.hp) pl (SS E (look σ.hp) pl w) w av (a.eval x) := by
  cases x with
  | tmp t =>
    obtain ⟨v, hv, hr⟩ := h.slots t av hx
    have e : a.eval (.tmp t) = v := by simp [Act.eval, hv]
    rw [e]; exact hr
  | const v => exact .pure _ _ (avConst_rel hx)
  | func f =>
    simp [St.ev] at hx
    subst hx
    exact .pure _ _ (.fn (.func f) [] [] [] [] rfl rfl (fun j a u ha => by simp at ha) (fun j a u ha => by simp at ha))
  | global g => simp [St.ev] at hx

def St.app (σ : St) (d : Option Nat) (e : Eff) : St :=
  ⟨putO σ.slots d e.val, e.ups.foldl (fun h p => put h p.1 p.2) σ.hp⟩

theorem RelX.put {E : Env} {σ : St} {pl : Nat → Value} {a : Act} {w : World} (h : RelX E σ pl a w) (d : Option Nat) (hd : ∀ q, d = some q → q < E.nt) {av : AV} {v : Value}
    (hv : RelV (look σ.hp) pl (SS E (look σ.hp) pl w) w av v) : RelX E ⟨putO σ.slots d av, σ.hp⟩ pl (a.put d v) w := by
  cases d with
  | none => exact ⟨h.nt, h.dfr, h.below, h.slots, h.blks, h.dist⟩
  | some d =>
    have hlt : d < a.tmps.size := by rw [h.nt]; exact hd d rfl
    refine ⟨by simp [Act.put, h.nt], h.dfr, h.below, fun t u ht => ?_, h.blks, h.dist⟩
    simp only [putO, look_put] at ht
    split at ht
    · rename_i e
      subst e
      simp only [Option.some.injEq] at ht
      subst ht
      exact ⟨v, by simp [Act.put, hlt], hv⟩
    · rename_i e
      obtain ⟨v', h1, h2⟩ := h.slots t u ht
      exact ⟨v', by simp only [Act.put]; rw [Array.getElem?_setIfInBounds_ne (by omega)]; exact h1, h2⟩

/-- What is known of the values in the slots moves along. -/
theorem RelX.mem {E : Env} {σ : St} {pl pl' : Nat → Value} {a : Act} {w w' : World} (h : RelX E σ pl a w) (hp' : List (Nat × Blk)) (hE : HExt (look σ.hp) pl (look hp') pl')
    (hS : ∀ k, SS E (look σ.hp) pl w k → SS E (look hp') pl' w' k) (hw : ∀ k, SS E (look σ.hp) pl w k → w'.heap[k]? = w.heap[k]?) (hbelow : Below E.w0.heap.size E.w0 w')
    (hblks : ∀ id B, look hp' id = some B → BlkRel E.w0.heap.size (look hp') pl' (SS E (look hp') pl' w') w' (pl' id) B)
    (hdist : ∀ id id' B B', look hp' id = some B → look hp' id' = some B' → B.live = true → B'.live = true → id ≠ id' → ∀ k, blkOf (pl' id) = some k → blkOf (pl' id') ≠ some k) :
    RelX E ⟨σ.slots, hp'⟩ pl' a w' :=
  ⟨h.nt, h.dfr, hbelow, fun t av ht => by obtain ⟨v, h1, h2⟩ := h.slots t av ht; exact ⟨v, h1, h2.mono hE hS hw⟩, hblks, hdist⟩

/-- A block of one's own that stays as it is, in a world that has it. -/
theorem BlkRel.keep {base : Nat} {hp hp' : Nat → Option Blk} {pl pl' : Nat → Value} {S S' : Nat → Prop} {w w' : World} {v : Value} {B : Blk} (h : BlkRel base hp pl S w v B)
    (hE : HExt hp pl hp' pl') (hS : ∀ k, S k → S' k) (hw : ∀ k, S k → w'.heap[k]? = w.heap[k]?) (hb : B.live = true → ∀ k, blkOf v = some k → w'.heap[k]? = w.heap[k]?) : BlkRel base hp' pl' S' w' v B := by
  unfold BlkRel at *
  split
  · rename_i cells hk
    rw [hk] at h
    obtain ⟨g, vs, rfl, hg, hh, hl, h1, hr⟩ := h
    exact ⟨g, vs, rfl, hg, by rw [hb (by simp [Blk.live, hk]) g rfl]; exact hh, hl, h1, fun j a u ha hu => (hr j a u ha hu).mono hE hS hw⟩
  · rename_i cells hk
    rw [hk] at h
    obtain ⟨g, vs, rfl, hg, hh, hl, h1, hr⟩ := h
    exact ⟨g, vs, rfl, hg, by rw [hb (by simp [Blk.live, hk]) g rfl]; exact hh, hl, h1, fun j a u ha hu => (hr j a u ha hu).mono hS hw⟩
  · rename_i sz rows hk
    rw [hk] at h
    obtain ⟨hsz, xs, ho, h1, hr⟩ := h
    refine ⟨hsz, xs, ?_, h1, fun j a u ha hu => (hr j a u ha hu).mono hS hw⟩
    obtain ⟨h2, h3⟩ := ho
    refine ⟨h2, ?_⟩
    rcases h3 with h3 | ⟨g, cap, cur, rfl, hg, hh, r⟩
    · exact .inl h3
    · exact .inr ⟨g, cap, cur, rfl, hg, by rw [hb (by simp [Blk.live, hk]) g rfl]; exact hh, r⟩
  · trivial

/-- A row of one's own, read by whoever does not write it. -/
theorem row_sl {base : Nat} {hp : Nat → Option Blk} {pl : Nat → Value} {S S' : Nat → Prop} {w : World} {v : Value} {B : Blk} {sz : Nat} {rows : List (List AV)} (h : BlkRel base hp pl S w v B) (hk : B.k = .row sz rows)
    (hS : ∀ k, S k → S' k) (hb : ∀ k, blkOf v = some k → S' k) : RelV0 S' w (.sl rows) v := by
  unfold BlkRel at h
  rw [hk] at h
  obtain ⟨hsz, xs, ho, h1, hr⟩ := h
  have hl := ho.1
  rcases ho.2 with ⟨rfl, h0⟩ | ⟨g, cap, cur, rfl, hg, hh, hnc, hcm, hcs, hcur⟩
  · have : rows = [] := List.eq_nil_of_length_eq_zero h0
    subst this
    exact .sl [] none 0 0 (fun _ _ => .nilIface) (by simp) (by simp) (by simp) (by simp) (by simp) (fun _ _ => rfl) (fun j q r a hr => by simp at hr)
  · refine .sl rows (some ⟨g, 0, none⟩) cap sz (fun j q => (xs[j * sz + q]?).getD .nilIface) hnc (by omega) (by simp) hsz (fun h0 => ⟨_, rfl, hb g rfl, fun j q hj hq => ?_⟩) (fun j q => ?_) (fun j q r a hr' ha => ?_)
    · have hlt : j * sz + q < rows.length * sz := by
        have : (j + 1) * sz ≤ rows.length * sz := Nat.mul_le_mul_right _ hj
        rw [Nat.add_mul] at this
        omega
      have hc := World.ownsRow.cellAt ho (j * sz + q) hlt
      have ha : ((⟨g, 0, none⟩ : Addr).add (j * sz + q)) = ⟨g, j * sz + q, none⟩ := by unfold Addr.add; split <;> simp_all
      rw [ha, hc, List.getElem?_eq_getElem (by omega)]
      simp
    · cases hx : xs[j * sz + q]? with
      | none => rfl
      | some u => exact h1 u (List.mem_of_getElem? hx)
    · have hq : q < sz := by
        have := hsz r (List.mem_of_getElem? hr')
        have := lt_of_getElem? ha
        omega
      have hf := flatten_get hsz hr' hq
      rw [ha] at hf
      have hlt : j * sz + q < xs.length := by
        have := lt_of_getElem? hf
        rw [flatten_len hsz] at this
        omega
      have := hr (j * sz + q) a xs[j * sz + q] hf (List.getElem?_eq_getElem hlt)
      simp only [List.getElem?_eq_getElem hlt, Option.getD_some]
      exact this.mono hS (fun _ _ => rfl)

/-- Blocks that are given up: from now on nobody writes them. -/
theorem RelX.giveUp {E : Env} {σ : St} {pl : Nat → Value} {a : Act} {w : World} (h : RelX E σ pl a w) (id : Nat) (B : Blk) (hB : look σ.hp id = some B) :
    RelX E ⟨σ.slots, Go.E.put σ.hp id { B with k := .gone }⟩ pl a w ∧ (∀ k, SS E (look σ.hp) pl w k → SS E (look (Go.E.put σ.hp id { B with k := .gone })) pl w k) ∧
      (B.live = true → ∀ k, blkOf (pl id) = some k → k < w.heap.size → E.w0.heap.size ≤ k → SS E (look (Go.E.put σ.hp id { B with k := .gone })) pl w k) := by
  have hE : HExt (look σ.hp) pl (look (Go.E.put σ.hp id { B with k := .gone })) pl := by
    intro i C hC
    by_cases e : id = i
    · subst e
      rw [hB] at hC
      simp only [Option.some.injEq] at hC
      subst hC
      exact ⟨{ B with k := .gone }, by simp [look_put], .inr ⟨rfl, fun hl => by simp [Blk.live] at hl⟩⟩
    · exact ⟨C, by simp [look_put, e, hC], .inr ⟨rfl, fun hl => ⟨hl, rfl, rfl, Nat.le_refl _⟩⟩⟩
  have hS : ∀ k, SS E (look σ.hp) pl w k → SS E (look (Go.E.put σ.hp id { B with k := .gone })) pl w k := by
    rintro k (hk | ⟨h1, h2, h3⟩)
    · exact .inl hk
    · refine .inr ⟨h1, h2, fun i C hC hl => ?_⟩
      simp only [look_put] at hC
      split at hC
      · simp only [Option.some.injEq] at hC
        subst hC
        simp [Blk.live] at hl
      · exact h3 i C hC hl
  refine ⟨h.mem _ hE hS (fun _ _ => rfl) h.below (fun i C hC => ?_) (fun i i' C C' hC hC' hl hl' hne => ?_), hS, fun hl k hk hlt hle => .inr ⟨hle, hlt, fun i C hC hl' => ?_⟩⟩
  · simp only [look_put] at hC
    split at hC
    · simp only [Option.some.injEq] at hC
      subst hC
      simp [BlkRel]
    · exact (h.blks i C hC).keep hE hS (fun _ _ => rfl) (fun _ _ _ => rfl)
  · simp only [look_put] at hC hC'
    split at hC
    · simp only [Option.some.injEq] at hC; subst hC; simp [Blk.live] at hl
    · split at hC'
      · simp only [Option.some.injEq] at hC'; subst hC'; simp [Blk.live] at hl'
      · exact h.dist i i' C C' hC hC' hl hl' hne
  · simp only [look_put] at hC
    split at hC
    · simp only [Option.some.injEq] at hC; subst hC; simp [Blk.live] at hl'
    · rename_i hne
      exact h.dist id i B C hB hC hl hl' hne k hk

theorem RelX.blk_lt {E : Env} {σ : St} {pl : Nat → Value} {a : Act} {w : World} (h : RelX E σ pl a w) {id : Nat} {B : Blk} (hB : look σ.hp id = some B) (hl : B.live = true) {k : Nat} (hk : blkOf (pl id) = some k) :
    E.w0.heap.size ≤ k ∧ k < w.heap.size := by
  have hr := h.blks id B hB
  unfold BlkRel at hr
  unfold Blk.live at hl
  split at hr
  · obtain ⟨g, vs, e, hg, hh, _⟩ := hr
    rw [e] at hk
    simp [blkOf] at hk
    subst hk
    exact ⟨hg, (Array.getElem?_eq_some_iff.1 hh).1⟩
  · obtain ⟨g, vs, e, hg, hh, _⟩ := hr
    rw [e] at hk
    simp [blkOf] at hk
    subst hk
    exact ⟨hg, (Array.getElem?_eq_some_iff.1 hh).1⟩
  · obtain ⟨_, xs, ho, _⟩ := hr
    rcases ho.2 with ⟨e, _⟩ | ⟨g, cap, cur, e, hg, hh, _⟩
    · rw [e] at hk; simp [blkOf] at hk
    · rw [e] at hk
      simp [blkOf] at hk
      subst hk
      exact ⟨hg, (Array.getElem?_eq_some_iff.1 hh).1⟩
  · rename_i hk'
    rw [hk'] at hl
    simp at hl
theorem SS.lt {E : Env} {hp : Nat → Option Blk} {pl : Nat → Value} {w : World} (hb : Below E.w0.heap.size E.w0 w) {k : Nat} (h : SS E hp pl w k) : k < w.heap.size := by
  rcases h with h | h
  · exact Nat.lt_of_lt_of_le (E.hS0 k h) hb.size
  · exact h.2.1

/-- The world has grown; what it had is as it was. -/
theorem RelX.grow {E : Env} {σ : St} {pl : Nat → Value} {a : Act} {w w' : World} (h : RelX E σ pl a w) (hb : Below w.heap.size w w') :
    RelX E σ pl a w' ∧ (∀ k, SS E (look σ.hp) pl w k → SS E (look σ.hp) pl w' k) ∧ (∀ k, w.heap.size ≤ k → k < w'.heap.size → SS E (look σ.hp) pl w' k) := by
  have hS : ∀ k, SS E (look σ.hp) pl w k → SS E (look σ.hp) pl w' k := by
    rintro k (hk | ⟨h1, h2, h3⟩)
    · exact .inl hk
    · exact .inr ⟨h1, Nat.lt_of_lt_of_le h2 hb.size, h3⟩
  refine ⟨?_, hS, fun k hk hk' => .inr ⟨Nat.le_trans h.below.size hk, hk', fun i C hC hl e => ?_⟩⟩
  · have hr := h.mem (pl' := pl) (w' := w') σ.hp (HExt.refl _ _) hS (fun k hk => hb.block k (hk.lt h.below)) (h.below.trans (hb.mono h.below.size))
      (fun i C hC => (h.blks i C hC).keep (HExt.refl _ _) hS (fun k hk => hb.block k (hk.lt h.below)) (fun hl k hk => hb.block k (h.blk_lt hC hl hk).2)) h.dist
    exact hr
  · have := (h.blk_lt hC hl e).2
    omega
end Go.E
namespace Go.E
open Go.RowKit
def setPl (pl : Nat → Value) (id : Nat) (v : Value) : Nat → Value := fun i => if i = id then v else pl i
/-- One block of one's own is made, written or moved; all else is as it was. -/
theorem RelX.chgS {E : Env} {σ : St} {pl : Nat → Value} {a : Act} {w w' : World} (h : RelX E σ pl a w) (id : Nat) (B : Blk) (v : Value) (S1 : Nat → Prop)
    (hS1 : ∀ k, S1 k → SS E (look σ.hp) pl w k ∨ (w.heap.size ≤ k ∧ k < w'.heap.size ∧ blkOf v ≠ some k))
    (hver : (∀ C, look σ.hp id = some C → C.ver < B.ver) ∨ (∃ C, look σ.hp id = some C ∧ C.live = true ∧ C.ver = B.ver ∧ C.off = B.off ∧ v = pl id ∧ C.len ≤ B.len))
    (hheap : ∀ k, k < w.heap.size → (∀ C, look σ.hp id = some C → C.live = true → blkOf (pl id) ≠ some k) → w'.heap[k]? = w.heap[k]?)
    (hos : w'.os = w.os) (htape : w'.tape = w.tape) (hout : w'.output = w.output) (hsize : w.heap.size ≤ w'.heap.size)
    (hv : ∀ k, blkOf v = some k → (w.heap.size ≤ k ∧ k < w'.heap.size) ∨ (∃ C, look σ.hp id = some C ∧ C.live = true ∧ blkOf (pl id) = some k))
    (hB : BlkRel E.w0.heap.size (look σ.hp) pl S1 w' v B) :
    RelX E ⟨σ.slots, Go.E.put σ.hp id B⟩ (setPl pl id v) a w' ∧
      (∀ av u, RelV (look σ.hp) pl (SS E (look σ.hp) pl w) w av u → RelV (look (Go.E.put σ.hp id B)) (setPl pl id v) (SS E (look (Go.E.put σ.hp id B)) (setPl pl id v) w') w' av u) ∧
      (∀ k, SS E (look σ.hp) pl w k → SS E (look (Go.E.put σ.hp id B)) (setPl pl id v) w' k) := by
  have hE : HExt (look σ.hp) pl (look (Go.E.put σ.hp id B)) (setPl pl id v) := by
    intro i C hC
    by_cases e : id = i
    · subst e
      refine ⟨B, by simp [look_put], ?_⟩
      rcases hver with hver | ⟨C', h1, h2, h3, h4, h5, h6⟩
      · exact .inl (hver C hC)
      · rw [hC] at h1
        simp only [Option.some.injEq] at h1
        subst h1
        exact .inr ⟨h3, fun _ => ⟨h2, by simp [setPl, h5], h4.symm, h6⟩⟩
    · exact ⟨C, by simp [look_put, e, hC], .inr ⟨rfl, fun hl => ⟨hl, by simp [setPl, Ne.symm e], rfl, Nat.le_refl _⟩⟩⟩
  have hS : ∀ k, SS E (look σ.hp) pl w k → SS E (look (Go.E.put σ.hp id B)) (setPl pl id v) w' k := by
    rintro k (hk | ⟨h1, h2, h3⟩)
    · exact .inl hk
    · refine .inr ⟨h1, Nat.lt_of_lt_of_le h2 hsize, fun i C hC hl => ?_⟩
      simp only [look_put] at hC
      split at hC
      · rename_i e
        subst e
        simp only [setPl, if_true]
        intro hk
        rcases hv k hk with ⟨h4, _⟩ | ⟨C', h4, h5, h6⟩
        · omega
        · exact h3 id C' h4 h5 h6
      · rename_i e
        simp only [setPl, if_neg (Ne.symm e)]
        exact h3 i C hC hl
  have hS' : ∀ k, S1 k → SS E (look (Go.E.put σ.hp id B)) (setPl pl id v) w' k := by
    intro k hk
    rcases hS1 k hk with hk | ⟨g1, g2, g3⟩
    · exact hS k hk
    · refine .inr ⟨Nat.le_trans h.below.size g1, g2, fun i C hC hl => ?_⟩
      simp only [look_put] at hC
      split at hC
      · rename_i e
        subst e
        simp only [setPl, if_true]
        exact g3
      · rename_i e
        simp only [setPl, if_neg (Ne.symm e)]
        intro e2
        have := (h.blk_lt hC hl e2).2
        omega
  have hw : ∀ k, SS E (look σ.hp) pl w k → w'.heap[k]? = w.heap[k]? := by
    intro k hk
    refine hheap k (hk.lt h.below) fun C hC hl => ?_
    rcases hk with hk | ⟨_, _, h3⟩
    · intro e
      have := (h.blk_lt hC hl e).1
      have := E.hS0 k hk
      omega
    · exact h3 id C hC hl
  have hbelow : Below E.w0.heap.size E.w0 w' := h.below.trans ⟨hos, htape, hout, hsize, fun k hk => hheap k (Nat.lt_of_lt_of_le hk h.below.size) fun C hC hl e => by
    have := (h.blk_lt hC hl e).1
    omega⟩
  refine ⟨h.mem _ hE hS hw hbelow (fun i C hC => ?_) (fun i i' C C' hC hC' hl hl' hne k hk => ?_), fun av u hu => hu.mono hE hS hw, hS⟩
  · simp only [look_put] at hC
    split at hC
    · rename_i e
      subst e
      simp only [Option.some.injEq] at hC
      subst hC
      simp only [setPl, if_true]
      exact hB.keep hE hS' (fun _ _ => rfl) (fun _ _ _ => rfl)
    · rename_i e
      simp only [setPl, if_neg (Ne.symm e)]
      exact (h.blks i C hC).keep hE hS hw fun hl k hk => hheap k (h.blk_lt hC hl hk).2 fun C' hC' hl' hk' => h.dist id i C' C hC' hC hl' hl e k hk' hk
  · simp only [look_put] at hC hC'
    split at hC
    · rename_i e
      subst e
      rw [if_neg hne] at hC'
      simp only [setPl, if_true] at hk
      simp only [setPl, if_neg (Ne.symm hne)]
      intro hk'
      rcases hv k hk with ⟨h4, _⟩ | ⟨C0, h4, h5, h6⟩
      · have := (h.blk_lt hC' hl' hk').2
        omega
      · exact h.dist id i' C0 C' h4 hC' h5 hl' hne k h6 hk'
    · rename_i e
      simp only [setPl, if_neg (Ne.symm e)] at hk
      split at hC'
      · rename_i e'
        subst e'
        simp only [setPl, if_true]
        intro hk'
        rcases hv k hk' with ⟨h4, _⟩ | ⟨C0, h4, h5, h6⟩
        · have := (h.blk_lt hC hl hk).2
          omega
        · exact h.dist i id C C0 hC h4 hl h5 (Ne.symm e) k hk h6
      · rename_i e'
        simp only [setPl, if_neg (Ne.symm e')]
        exact h.dist i i' C C' hC hC' hl hl' hne k hk

theorem RelX.chg {E : Env} {σ : St} {pl : Nat → Value} {a : Act} {w w' : World} (h : RelX E σ pl a w) (id : Nat) (B : Blk) (v : Value)
    (hver : (∀ C, look σ.hp id = some C → C.ver < B.ver) ∨ (∃ C, look σ.hp id = some C ∧ C.live = true ∧ C.ver = B.ver ∧ C.off = B.off ∧ v = pl id ∧ C.len ≤ B.len))
    (hheap : ∀ k, k < w.heap.size → (∀ C, look σ.hp id = some C → C.live = true → blkOf (pl id) ≠ some k) → w'.heap[k]? = w.heap[k]?)
    (hos : w'.os = w.os) (htape : w'.tape = w.tape) (hout : w'.output = w.output) (hsize : w.heap.size ≤ w'.heap.size)
    (hv : ∀ k, blkOf v = some k → (w.heap.size ≤ k ∧ k < w'.heap.size) ∨ (∃ C, look σ.hp id = some C ∧ C.live = true ∧ blkOf (pl id) = some k))
    (hB : BlkRel E.w0.heap.size (look σ.hp) pl (SS E (look σ.hp) pl w) w' v B) :
    RelX E ⟨σ.slots, Go.E.put σ.hp id B⟩ (setPl pl id v) a w' ∧
      (∀ av u, RelV (look σ.hp) pl (SS E (look σ.hp) pl w) w av u → RelV (look (Go.E.put σ.hp id B)) (setPl pl id v) (SS E (look (Go.E.put σ.hp id B)) (setPl pl id v) w') w' av u) ∧
      (∀ k, SS E (look σ.hp) pl w k → SS E (look (Go.E.put σ.hp id B)) (setPl pl id v) w' k) :=
  h.chgS id B v (SS E (look σ.hp) pl w) (fun _ hk => .inl hk) hver hheap hos htape hout hsize hv hB

/-- A new block. -/
theorem RelX.newS {E : Env} {σ : St} {pl : Nat → Value} {a : Act} {w w' : World} (h : RelX E σ pl a w) (hb : Below w.heap.size w w') (id : Nat) (B : Blk) (v : Value)
    (hver : ∀ C, look σ.hp id = some C → C.ver < B.ver) (hv : ∀ k, blkOf v = some k → w.heap.size ≤ k ∧ k < w'.heap.size)
    (hB : BlkRel E.w0.heap.size (look σ.hp) pl (fun k => SS E (look σ.hp) pl w k ∨ (w.heap.size ≤ k ∧ k < w'.heap.size ∧ blkOf v ≠ some k)) w' v B) :
    RelX E ⟨σ.slots, Go.E.put σ.hp id B⟩ (setPl pl id v) a w' :=
  (h.chgS id B v _ (fun _ hk => hk) (.inl hver) (fun k hk _ => hb.block k hk) hb.os hb.tape hb.output hb.size (fun k hk => .inl (hv k hk)) hB).1
/-- A new block. -/
theorem RelX.new {E : Env} {σ : St} {pl : Nat → Value} {a : Act} {w w' : World} (h : RelX E σ pl a w) (hb : Below w.heap.size w w') (id : Nat) (B : Blk) (v : Value)
    (hver : ∀ C, look σ.hp id = some C → C.ver < B.ver) (hv : ∀ k, blkOf v = some k → w.heap.size ≤ k ∧ k < w'.heap.size)
    (hB : BlkRel E.w0.heap.size (look σ.hp) pl (SS E (look σ.hp) pl w) w' v B) :
    RelX E ⟨σ.slots, Go.E.put σ.hp id B⟩ (setPl pl id v) a w' ∧
      (∀ av u, RelV (look σ.hp) pl (SS E (look σ.hp) pl w) w av u → RelV (look (Go.E.put σ.hp id B)) (setPl pl id v) (SS E (look (Go.E.put σ.hp id B)) (setPl pl id v) w') w' av u) ∧
      (∀ k, SS E (look σ.hp) pl w k → SS E (look (Go.E.put σ.hp id B)) (setPl pl id v) w' k) :=
  h.chg id B v (.inl hver) (fun k hk _ => hb.block k hk) hb.os hb.tape hb.output hb.size (fun k hk => .inl (hv k hk)) hB
end Go.E
