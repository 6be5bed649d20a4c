/- Ba: the values of the Go types, and some words on lists. Conditions: none. -/
import Derived.Test.YtjngmlkaijpbgaaWa
import Derived.Test.YtjngmlkaijpbgaaEP
import Derived.Test.YtjngmlkaijpbgaaER
import Derived.Test.YtjngmlkaijpbgaaEU

import Derived.Test.YtjngmlkaijpbgaaEO
set_option linter.unusedVariables false
set_option linter.unusedSimpArgs false
namespace Go.Proofs.Ytjngmlkaijpbgaa
open Go.E
set_option maxRecDepth 100000
set_option maxHeartbeats 4000000
structure Dot where
  rep : Int
  num : Int
  deriving Inhabited, DecidableEq
structure Span where
  rep : Int
  lo : Int
  hi : Int
  deriving Inhabited, DecidableEq
def c3 (n : Int) : List AV := [.i .i64 n]
def c33 (v : List Int) : List AV := [.sl (v.map c3)]
def c26 (d : Dot) : List AV := [.i .i64 d.rep, .i .i64 d.num]
def c81 (s : Span) : List AV := [.i .i64 s.rep, .i .i64 s.lo, .i .i64 s.hi]
theorem getD_bang {v : List Int} {n : Nat} : v.getD n 0 = v[n]! := by
  simp [List.getD_eq_getElem?_getD]
theorem fl26 (x : Dot) : FlC tab 3 26 (c26 x) := ⟨[_], [_], rfl, ⟨_, rfl⟩, [_], [], rfl, ⟨_, rfl⟩, rfl⟩
theorem eq26 (x y : Dot) : AggEq Try.prog 26 (c26 x) (c26 y) (decide (x = y)) := by
  refine aggEq_of tab_ok (n := 3) (by decide) (by kernel_rfl) (fl26 x) (fl26 y) ?_
  cases x; cases y; simp [c26]
theorem fl81 (x : Span) : FlC tab 3 81 (c81 x) := ⟨[_], [_, _], rfl, ⟨_, rfl⟩, [_], [_], rfl, ⟨_, rfl⟩, [_], [], rfl, ⟨_, rfl⟩, rfl⟩
theorem eq81 (x y : Span) : AggEq Try.prog 81 (c81 x) (c81 y) (decide (x = y)) := by
  refine aggEq_of tab_ok (n := 3) (by decide) (by kernel_rfl) (fl81 x) (fl81 y) ?_
  cases x; cases y; simp [c81]
def sgn (b : Bool) : Int := if b then -1 else 1
def inv30 {α : Type} [Inhabited α] (a b : List α) (i : Int) : Prop := 0 ≤ i ∧ i ≤ a.length ∧ ∀ j : Nat, (j : Int) < i → a[j]! = b[j]!
def dec30 {α : Type} (a : List α) (i : Int) : Nat := (a.length - i).toNat
theorem bang_eq {α : Type} [Inhabited α] {a b : List α} (hl : (a.length : Int) = b.length) (h : ∀ j : Nat, (j : Int) < a.length → a[j]! = b[j]!) : a = b := by
  apply List.ext_getElem (by omega)
  intro j h1 h2
  have := h j (by omega)
  simpa [h1, h2] using this
def inv29 {α : Type} (vs : List α) (i : Int) (l : List α) : Prop := 0 ≤ i ∧ i ≤ vs.length ∧ l = vs.take i.toNat
def dec29 {α : Type} (vs : List α) (i : Int) (l : List α) : Nat := (vs.length - i).toNat
def sz22 (v : List Int) : Prop := v.length * 8 ≤ 140737488351232
def sz38 (vs : List (List Int)) : Prop := vs.length * 24 ≤ 140737488351232 ∧ ∀ v ∈ vs, sz22 v
theorem bang_mem {α : Type} [Inhabited α] {a : List α} {i : Nat} (h : i < a.length) : a[i]! ∈ a := by
  rw [getElem!_pos a i h]; exact List.getElem_mem h
theorem take_step {α : Type} [Inhabited α] {a : List α} {i : Int} (h0 : 0 ≤ i) (h : i < a.length) : a.take i.toNat ++ [a[i.toNat]!] = a.take (i + 1).toNat := by
  have e : (i + 1).toNat = i.toNat + 1 := by omega
  have hl : i.toNat < a.length := by omega
  rw [e, List.take_succ_eq_append_getElem hl, getElem!_pos a _ hl]
structure Entry where
  dot : Dot
  sku : ByteArray
  qty : Int
  deriving Inhabited, DecidableEq
structure Run where
  lo : Int
  hi : Int
  deriving Inhabited, DecidableEq
structure Past where
  vec : List Int
  cloud : List Span
  deriving Inhabited, DecidableEq
structure Line where
  sku : ByteArray
  qty : Int
  parts : Int
  deriving Inhabited, DecidableEq
def c5 (n : Int) : List AV := [.i .u8 n]
def c9 (s : ByteArray) : List AV := [.s s]
def c28 (e : Entry) : List AV := [.i .i64 e.dot.rep, .i .i64 e.dot.num, .s e.sku, .i .i64 e.qty]
def c108 (r : Run) : List AV := [.i .i64 r.lo, .i .i64 r.hi]
def c36 (p : Past) : List AV := [.sl (p.vec.map c3), .sl (p.cloud.map c81)]
def c55 (l : Line) : List AV := [.s l.sku, .i .i64 l.qty, .i .i64 l.parts]
theorem fl28 (x : Entry) : FlC tab 4 28 (c28 x) := ⟨[_, _], [_, _], rfl, ⟨[_], [_], rfl, ⟨_, rfl⟩, [_], [], rfl, ⟨_, rfl⟩, rfl⟩, [_], [_], rfl, ⟨_, rfl⟩, [_], [], rfl, ⟨_, rfl⟩, rfl⟩
theorem eq28 (x y : Entry) : AggEq Try.prog 28 (c28 x) (c28 y) (decide (x = y)) := by
  refine aggEq_of tab_ok (n := 4) (by decide) (by kernel_rfl) (fl28 x) (fl28 y) ?_
  obtain ⟨⟨a, b⟩, c, d⟩ := x; obtain ⟨⟨a', b'⟩, c', d'⟩ := y; simp [c28, and_assoc]
theorem fl55 (x : Line) : FlC tab 3 55 (c55 x) := ⟨[_], [_, _], rfl, ⟨_, rfl⟩, [_], [_], rfl, ⟨_, rfl⟩, [_], [], rfl, ⟨_, rfl⟩, rfl⟩
theorem eq55 (x y : Line) : AggEq Try.prog 55 (c55 x) (c55 y) (decide (x = y)) := by
  refine aggEq_of tab_ok (n := 3) (by decide) (by kernel_rfl) (fl55 x) (fl55 y) ?_
  cases x; cases y; simp [c55]
structure Case where
  a : List Entry
  b : List Entry
  p : Past
  d : Dot
  rep : Int
  sku : ByteArray
  deriving Inhabited
def c38 (c : Case) : List AV := [.sl (c.a.map c28), .sl (c.b.map c28), .sl (c.p.vec.map c3), .sl (c.p.cloud.map c81), .i .i64 c.d.rep, .i .i64 c.d.num, .i .i64 c.rep, .s c.sku]
end Go.Proofs.Ytjngmlkaijpbgaa
