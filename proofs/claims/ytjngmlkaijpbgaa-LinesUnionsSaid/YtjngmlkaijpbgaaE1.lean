/- E1: an abstract machine for walks: values that say what memory holds (AV), blocks of the call's own (Blk), and what one operation does to them (exec1). Conditions: none: definitions, and how they stand to the model's values and worlds. -/
import Derived.Below
import Derived.OwnWalk
import Derived.WalkKit
import Derived.KernelRfl
import Derived.Laws.MakeOwn
import Derived.Laws.OwnMore
import Derived.Laws.Slices
import Derived.Laws.CopyOwn
import Derived.Laws.AppendOwnNone
import Derived.Laws.Rows
import Derived.Orders
set_option linter.unusedVariables false
set_option linter.unusedSimpArgs false
namespace Go.E
open Go.RowKit

/-- A value as the walk knows it. 'sl': a slice that nobody writes, by its elements' cells; 'nl': the nil slice; 'own': the whole of a row of one's own; 'vw': a piece of one; 'ptr': into a block of one's own; 'eptr': to cells that nobody writes. -/
inductive AV where
  | b (x : Bool)
  | i (k : IntKind) (n : Int)
  | s (x : ByteArray)
  | agg (cs : List AV)
  | sl (rows : List (List AV))
  | nl
  | own (id ver : Nat)
  | vw (id ver lo n : Nat)
  | ptr (id ver r c : Nat)
  | eptr (cs : List AV)
  | np
  | fn (f : Fn) (first cap : List AV)
  | nilf
  | ifc (t : Nat) (v : AV)
  | nili
  | tup (vs : List AV)
  | dead

inductive BK where
  | var (cells : List AV)
  | arr (cells : List AV)
  | row (sz : Nat) (rows : List (List AV))
  | gone
structure Blk where
  ver : Nat
  ty : Nat
  k : BK

def look {β : Type} : List (Nat × β) → Nat → Option β
  | [], _ => none
  | (k, v) :: l, q => if k == q then some v else look l q
def put {β : Type} : List (Nat × β) → Nat → β → List (Nat × β)
  | [], q, u => [(q, u)]
  | (k, v) :: l, q, u => if k == q then (k, u) :: l else (k, v) :: put l q u
theorem look_put {β : Type} (l : List (Nat × β)) (q : Nat) (u : β) (p : Nat) : look (put l q u) p = if q = p then some u else look l p := by
  induction l with
  | nil => simp [put, look]
  | cons x l ih =>
    obtain ⟨k, v⟩ := x
    by_cases h : k = q
    · subst h
      simp only [put, look, beq_self_eq_true, if_true]
      by_cases hp : k = p <;> simp [hp]
    · have h' : (k == q) = false := by simpa using h
      simp only [put, h', Bool.false_eq_true, if_false, look, ih]
      by_cases hp : k = p
      · have : ¬ q = p := fun e => h (by omega)
        simp [hp, this]
      · simp [hp]

def putO {β : Type} (l : List (Nat × β)) (d : Option Nat) (u : β) : List (Nat × β) := match d with | some d => put l d u | none => l

/-- Reading blocks by number, with a list of those that were read. -/
inductive Pg (α : Type) where
  | ret (a : α)
  | fail
  | get (id : Nat) (k : Option Blk → Pg α)
def Pg.run {α : Type} (hp : Nat → Option Blk) : Pg α → List Nat → Option (α × List Nat)
  | .ret a, l => some (a, l)
  | .fail, _ => none
  | .get id k, l => (k (hp id)).run hp (id :: l)
def Pg.bind {α β : Type} : Pg α → (α → Pg β) → Pg β
  | .ret a, f => f a
  | .fail, _ => .fail
  | .get id k, f => .get id fun b => (k b).bind f
theorem Pg.run_sub {α : Type} {hp : Nat → Option Blk} (p : Pg α) : ∀ {l : List Nat} {r : α × List Nat}, p.run hp l = some r → ∀ x ∈ l, x ∈ r.2 := by
  induction p with
  | ret a => intro l r h x hx; simp only [Pg.run, Option.some.injEq] at h; subst h; exact hx
  | fail => intro l r h; simp [Pg.run] at h
  | get id k ih => intro l r h x hx; exact ih _ h x (List.mem_cons_of_mem _ hx)
/-- Only the blocks on the list matter. -/
theorem Pg.run_local {α : Type} {hp hp' : Nat → Option Blk} (p : Pg α) : ∀ {l : List Nat} {r : α × List Nat}, p.run hp l = some r → (∀ x ∈ r.2, hp' x = hp x) → p.run hp' l = some r := by
  induction p with
  | ret a => intro l r h _; simpa [Pg.run] using h
  | fail => intro l r h; simp [Pg.run] at h
  | get id k ih =>
    intro l r h he
    simp only [Pg.run] at h ⊢
    have : id ∈ r.2 := Pg.run_sub _ h id (by simp)
    rw [he id this]
    exact ih _ h he
theorem Pg.run_bind {α β : Type} {hp : Nat → Option Blk} (p : Pg α) (f : α → Pg β) : ∀ (l : List Nat), (p.bind f).run hp l = (p.run hp l).bind fun r => (f r.1).run hp r.2 := by
  induction p with
  | ret a => intro l; rfl
  | fail => intro l; rfl
  | get id k ih => intro l; exact ih _ _

structure Eff where
  val : AV
  ups : List (Nat × Blk) := []
  obl : List Prop := []
def All : List Prop → Prop
  | [] => True
  | [p] => p
  | p :: q :: l => p ∧ All (q :: l)
theorem All.mem : ∀ {l : List Prop}, All l → ∀ p ∈ l, p
  | [], _, p, hp => by cases hp
  | [q], h, p, hp => by rw [List.mem_singleton.1 hp]; exact h
  | q :: r :: l, h, p, hp => by
    rcases List.mem_cons.1 hp with rfl | hp
    · exact h.1
    · exact All.mem h.2 p hp
theorem All.of : ∀ {l : List Prop}, (∀ p ∈ l, p) → All l
  | [], _ => trivial
  | [q], h => h q (by simp)
  | q :: r :: l, h => ⟨h q (by simp), All.of fun p hp => h p (List.mem_cons_of_mem _ hp)⟩

/-- What is told of an operation by whoever writes the walk. -/
structure Ov where
  val : Option AV := none
  row : List AV := []
  rows : Option (List (List AV)) := none
  n : Nat := 0
  flat : Bool := false
  tell : Option AV := none

/-! ### How values stand to the model's -/

/-- Values that lead to no block of one's own: 'S': the blocks that they may lead to. -/
inductive RelV0 (S : Nat → Prop) (w : World) : AV → Value → Prop
  | b (x : Bool) : RelV0 S w (.b x) (.bool x)
  | i (k : IntKind) (n : Int) : RelV0 S w (.i k n) (.int k n)
  | s (x : ByteArray) : RelV0 S w (.s x) (.string x)
  | agg (cs : List AV) (vs : List Value) (hl : vs.length = cs.length) (h1 : ∀ u ∈ vs, u.oneCell' = true)
      (h : ∀ (j : Nat) (a : AV) (u : Value), cs[j]? = some a → vs[j]? = some u → RelV0 S w a u) : RelV0 S w (.agg cs) (.agg vs.toArray)
  | sl (rows : List (List AV)) (A : Option Addr) (cap sz : Nat) (u : Nat → Nat → Value) (hc : rows.length ≤ cap) (hm : rows.length ≤ maxLen) (hn : A = none → cap = 0) (hsz : ∀ r ∈ rows, r.length = sz)
      (hA : 0 < rows.length → ∃ ad, A = some ad ∧ S ad.block ∧ ∀ (j q : Nat), j < rows.length → q < sz → w.cell? (ad.add (j * sz + q)) = some (u j q))
      (h1 : ∀ j q, (u j q).oneCell' = true)
      (h : ∀ (j q : Nat) (r : List AV) (a : AV), rows[j]? = some r → r[q]? = some a → RelV0 S w a (u j q)) : RelV0 S w (.sl rows) (.slice A rows.length cap)
  | nl : RelV0 S w .nl (.slice none 0 0)
  | eptr (cs : List AV) (ad : Addr) (u : Nat → Value) (hS : S ad.block) (hA : ∀ q, q < cs.length → w.cell? (ad.add q) = some (u q)) (h1 : ∀ q, (u q).oneCell' = true)
      (h : ∀ (q : Nat) (a : AV), cs[q]? = some a → RelV0 S w a (u q)) : RelV0 S w (.eptr cs) (.pointer (some ad))
  | np : RelV0 S w .np (.pointer none)
  | fn (f : Fn) (first cap : List AV) (v1 v2 : List Value) (l1 : v1.length = first.length) (l2 : v2.length = cap.length)
      (h1 : ∀ (j : Nat) (a : AV) (u : Value), first[j]? = some a → v1[j]? = some u → RelV0 S w a u)
      (h2 : ∀ (j : Nat) (a : AV) (u : Value), cap[j]? = some a → v2[j]? = some u → RelV0 S w a u) : RelV0 S w (.fn f first cap) (.func f v1.toArray v2.toArray)
  | nilf : RelV0 S w .nilf .nilFunc
  | ifc (t : Nat) (x : AV) (v : Value) (h : RelV0 S w x v) : RelV0 S w (.ifc t x) (.iface t v)
  | nili : RelV0 S w .nili .nilIface
  | tup (cs : List AV) (vs : List Value) (hl : vs.length = cs.length)
      (h : ∀ (j : Nat) (a : AV) (u : Value), cs[j]? = some a → vs[j]? = some u → RelV0 S w a u) : RelV0 S w (.tup cs) (.tuple vs.toArray)
  | dead (v : Value) : RelV0 S w .dead v

theorem cell_keep {w w' : World} {a : Addr} (h : w'.heap[a.block]? = w.heap[a.block]?) : w'.cell? a = w.cell? a := World.cell?_of_block (w := w) h
theorem add_block (a : Addr) (n : Nat) : (a.add n).block = a.block := by unfold Addr.add; split <;> rfl

theorem RelV0.mono {S S' : Nat → Prop} {w w' : World} {a : AV} {v : Value} (h : RelV0 S w a v) (hS : ∀ k, S k → S' k) (hw : ∀ k, S k → w'.heap[k]? = w.heap[k]?) : RelV0 S' w' a v := by
  induction h with
  | b x => exact .b x
  | i k n => exact .i k n
  | s x => exact .s x
  | agg cs vs hl h1 h ih => exact .agg cs vs hl h1 ih
  | sl rows A cap sz u hc hm hn hsz hA h1 h ih =>
    refine .sl rows A cap sz u hc hm hn hsz (fun h0 => ?_) h1 ih
    obtain ⟨ad, e, hs, hcell⟩ := hA h0
    exact ⟨ad, e, hS _ hs, fun j q hj hq => (cell_keep (by rw [add_block]; exact hw _ hs)).trans (hcell j q hj hq)⟩
  | nl => exact .nl
  | eptr cs ad u hs hA h1 h ih => exact .eptr cs ad u (hS _ hs) (fun q hq => (cell_keep (by rw [add_block]; exact hw _ hs)).trans (hA q hq)) h1 ih
  | np => exact .np
  | fn f first cap v1 v2 l1 l2 h1 h2 ih1 ih2 => exact .fn f first cap v1 v2 l1 l2 ih1 ih2
  | nilf => exact .nilf
  | ifc t x v h ih => exact .ifc t x v ih
  | nili => exact .nili
  | tup cs vs hl h ih => exact .tup cs vs hl ih
  | dead v => exact .dead v

/-- No blocks at all are led to. -/
inductive Flat : AV → Prop
  | b (x : Bool) : Flat (.b x)
  | i (k : IntKind) (n : Int) : Flat (.i k n)
  | s (x : ByteArray) : Flat (.s x)
  | agg (cs : List AV) (h : ∀ a ∈ cs, Flat a) : Flat (.agg cs)
  | nl : Flat .nl
  | np : Flat .np
  | nilf : Flat .nilf
  | nili : Flat .nili
  | ifc (t : Nat) (x : AV) (h : Flat x) : Flat (.ifc t x)
  | tup (cs : List AV) (h : ∀ a ∈ cs, Flat a) : Flat (.tup cs)
theorem RelV0.flat {S S' : Nat → Prop} {w w' : World} {a : AV} {v : Value} (h : RelV0 S w a v) (hf : Flat a) : RelV0 S' w' a v := by
  induction h with
  | b x => exact .b x
  | i k n => exact .i k n
  | s x => exact .s x
  | agg cs vs hl h1 h ih =>
    cases hf with
    | agg _ hf => exact .agg cs vs hl h1 fun j a u ha hu => ih j a u ha hu (hf a (List.mem_of_getElem? ha))
  | sl => cases hf
  | nl => exact .nl
  | eptr => cases hf
  | np => exact .np
  | fn => cases hf
  | nilf => exact .nilf
  | ifc t x v h ih => cases hf with | ifc _ _ hf => exact .ifc t x v (ih hf)
  | nili => exact .nili
  | tup cs vs hl h ih =>
    cases hf with
    | tup _ hf => exact .tup cs vs hl fun j a u ha hu => ih j a u ha hu (hf a (List.mem_of_getElem? ha))
  | dead v => cases hf

/-- Where in its block a pointer of one's own lies. -/
def Blk.off (B : Blk) (r c : Nat) : Nat := match B.k with | .row sz _ => r * sz + c | _ => r + c
def Blk.len (B : Blk) : Nat := match B.k with | .row _ rows => rows.length | .arr cells => cells.length | .var cells => cells.length | .gone => 0
def Blk.live (B : Blk) : Bool := match B.k with | .gone => false | _ => true
def blkOf : Value → Option Nat
  | .slice (some a) _ _ => some a.block
  | .pointer (some a) => some a.block
  | _ => none

/-- Values that may lead to blocks of one's own. 'hp': those blocks; 'pl': where they lie (of a row: its slice; of a variable: its address). -/
inductive RelV (hp : Nat → Option Blk) (pl : Nat → Value) (S : Nat → Prop) (w : World) : AV → Value → Prop
  | pure (a : AV) (v : Value) (h : RelV0 S w a v) : RelV hp pl S w a v
  | own (id ver : Nat) (v : Value) (B : Blk) (hB : hp id = some B) (hv : ver ≤ B.ver) (h1 : v.oneCell' = true) (h : ver = B.ver → B.live = true → v = pl id) : RelV hp pl S w (.own id ver) v
  | vw (id ver lo n : Nat) (v : Value) (B : Blk) (hB : hp id = some B) (hv : ver ≤ B.ver) (h1 : v.oneCell' = true)
      (h : ver = B.ver → B.live = true → ∃ g cap, blkOf (pl id) = some g ∧ n ≤ cap ∧ n ≤ maxLen ∧ lo + n ≤ B.len ∧ v = .slice (some ⟨g, B.off lo 0, none⟩) n cap) : RelV hp pl S w (.vw id ver lo n) v
  | ptr (id ver r c : Nat) (v : Value) (B : Blk) (hB : hp id = some B) (hv : ver ≤ B.ver) (h1 : v.oneCell' = true)
      (h : ver = B.ver → B.live = true → ∃ g, blkOf (pl id) = some g ∧ v = .pointer (some ⟨g, B.off r c, none⟩)) : RelV hp pl S w (.ptr id ver r c) v
  | fn (f : Fn) (first cap : List AV) (v1 v2 : List Value) (l1 : v1.length = first.length) (l2 : v2.length = cap.length)
      (h1 : ∀ (j : Nat) (a : AV) (u : Value), first[j]? = some a → v1[j]? = some u → RelV hp pl S w a u)
      (h2 : ∀ (j : Nat) (a : AV) (u : Value), cap[j]? = some a → v2[j]? = some u → RelV hp pl S w a u) : RelV hp pl S w (.fn f first cap) (.func f v1.toArray v2.toArray)
  | ifc (t : Nat) (x : AV) (v : Value) (h : RelV hp pl S w x v) : RelV hp pl S w (.ifc t x) (.iface t v)

/-- The blocks have grown on: what was said at an elder version says nothing now; at the same version a block lies where it lay. -/
def HExt (hp : Nat → Option Blk) (pl : Nat → Value) (hp' : Nat → Option Blk) (pl' : Nat → Value) : Prop :=
  ∀ id B, hp id = some B → ∃ B', hp' id = some B' ∧ (B.ver < B'.ver ∨ (B.ver = B'.ver ∧ (B'.live = true → B.live = true ∧ pl' id = pl id ∧ B'.off = B.off ∧ B.len ≤ B'.len)))
theorem HExt.refl (hp : Nat → Option Blk) (pl : Nat → Value) : HExt hp pl hp pl := fun id B h => ⟨B, h, .inr ⟨rfl, fun h => ⟨h, rfl, rfl, Nat.le_refl _⟩⟩⟩

theorem RelV.mono {hp hp' : Nat → Option Blk} {pl pl' : Nat → Value} {S S' : Nat → Prop} {w w' : World} {a : AV} {v : Value} (h : RelV hp pl S w a v) (hE : HExt hp pl hp' pl')
    (hS : ∀ k, S k → S' k) (hw : ∀ k, S k → w'.heap[k]? = w.heap[k]?) : RelV hp' pl' S' w' a v := by
  induction h with
  | pure a v h => exact .pure a v (h.mono hS hw)
  | own id ver v B hB hv h1 h =>
    obtain ⟨B', hB', hc⟩ := hE id B hB
    refine .own id ver v B' hB' (by rcases hc with hc | hc <;> omega) h1 fun e hl => ?_
    rcases hc with hc | ⟨hc, hk⟩
    · omega
    · obtain ⟨h4, h2, _⟩ := hk hl
      rw [h2]; exact h (by omega) h4
  | vw id ver lo n v B hB hv h1 h =>
    obtain ⟨B', hB', hc⟩ := hE id B hB
    refine .vw id ver lo n v B' hB' (by rcases hc with hc | hc <;> omega) h1 fun e hl => ?_
    rcases hc with hc | ⟨hc, hk⟩
    · omega
    · obtain ⟨h4, h2, h3, h5⟩ := hk hl
      rw [h2, h3]
      obtain ⟨g, cap, e1, e2, e3, e4, e5⟩ := h (by omega) h4
      exact ⟨g, cap, e1, e2, e3, by omega, e5⟩
  | ptr id ver r c v B hB hv h1 h =>
    obtain ⟨B', hB', hc⟩ := hE id B hB
    refine .ptr id ver r c v B' hB' (by rcases hc with hc | hc <;> omega) h1 fun e hl => ?_
    rcases hc with hc | ⟨hc, hk⟩
    · omega
    · obtain ⟨h4, h2, h3, _⟩ := hk hl
      rw [h2, h3]; exact h (by omega) h4
  | fn f first cap v1 v2 l1 l2 h1 h2 ih1 ih2 => exact .fn f first cap v1 v2 l1 l2 ih1 ih2
  | ifc t x v h ih => exact .ifc t x v ih

/-- A block of one's own in the world. -/
def BlkRel (base : Nat) (hp : Nat → Option Blk) (pl : Nat → Value) (S : Nat → Prop) (w : World) (v : Value) (B : Blk) : Prop :=
  match B.k with
  | .var cells => ∃ g vs, v = .pointer (some ⟨g, 0, none⟩) ∧ base ≤ g ∧ w.heap[g]? = some (.cells vs B.ty (0, 0)) ∧ vs.size = cells.length ∧ (∀ u ∈ vs.toList, u.oneCell' = true) ∧
      ∀ (j : Nat) (a : AV) (u : Value), cells[j]? = some a → vs[j]? = some u → RelV hp pl S w a u
  | .arr cells => ∃ g vs, v = .pointer (some ⟨g, 0, none⟩) ∧ base ≤ g ∧ w.heap[g]? = some (.cells vs B.ty (0, 0)) ∧ vs.size = cells.length ∧ (∀ u ∈ vs.toList, u.oneCell' = true) ∧
      ∀ (j : Nat) (a : AV) (u : Value), cells[j]? = some a → vs[j]? = some u → RelV0 S w a u
  | .row sz rows => (∀ r ∈ rows, r.length = sz) ∧ ∃ xs, w.ownsRow base B.ty sz v rows.length xs ∧ (∀ u ∈ xs, u.oneCell' = true) ∧
      ∀ (j : Nat) (a : AV) (u : Value), rows.flatten[j]? = some a → xs[j]? = some u → RelV0 S w a u
  | .gone => True

structure St where
  slots : List (Nat × AV)
  hp : List (Nat × Blk)

structure Env where
  w0 : World
  S0 : Nat → Prop
  nt : Nat
  hS0 : ∀ k, S0 k → k < w0.heap.size

def SS (E : Env) (hp : Nat → Option Blk) (pl : Nat → Value) (w : World) (k : Nat) : Prop :=
  E.S0 k ∨ (E.w0.heap.size ≤ k ∧ k < w.heap.size ∧ ∀ id B, hp id = some B → B.live = true → blkOf (pl id) ≠ some k)

structure RelX (E : Env) (σ : St) (pl : Nat → Value) (a : Act) (w : World) : Prop where
  nt : a.tmps.size = E.nt
  dfr : a.defers = []
  below : Below E.w0.heap.size E.w0 w
  slots : ∀ t av, look σ.slots t = some av → ∃ v, a.tmps[t]? = some v ∧ RelV (look σ.hp) pl (SS E (look σ.hp) pl w) w av v
  blks : ∀ id B, look σ.hp id = some B → BlkRel E.w0.heap.size (look σ.hp) pl (SS E (look σ.hp) pl w) w (pl id) B
  dist : ∀ id id' B B', look σ.hp id = some B → look σ.hp id' = some B' → B.live = true → B'.live = true → id ≠ id' → ∀ k, blkOf (pl id) = some k → blkOf (pl id') ≠ some k
def Rel (E : Env) (σ : St) (a : Act) (w : World) : Prop := ∃ pl, RelX E σ pl a w

/-- **A contract**: called with values that read so, the function hands back one that reads so, and nothing that was there has turned. -/
def Callable (P : Program) (f : FuncId) : Prop := ∃ fn, P.funcs[f]? = some fn ∧ (fn.name == "runtime.NumGoroutine") = false ∧ fn.body.isNone = false
def Con (P : Program) (f : FuncId) (args : List AV) (res : AV) : Prop :=
  Callable P f ∧ ∀ (w : World) (S0 : Nat → Prop) (vs : List Value), (∀ k, S0 k → k < w.heap.size) → vs.length = args.length →
    (∀ (j : Nat) (a : AV) (u : Value), args[j]? = some a → vs[j]? = some u → RelV0 S0 w a u) →
    Calls P f vs.toArray w fun e w' => ∃ v, e = .returned v ∧ RelV0 (fun k => S0 k ∨ (w.heap.size ≤ k ∧ k < w'.heap.size)) w' res v ∧ Below w.heap.size w w'
end Go.E
