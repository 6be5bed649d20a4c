/- Wb: the values of the Go types, and the sixteen numbers of a list. Conditions: none. -/
import Derived.Test.YtoeifjooljkpaaaWa
import Derived.Test.YtoeifjooljkpaaaEP
set_option linter.unusedVariables false
set_option linter.unusedSimpArgs false
namespace Go.Proofs.Ytoeifjooljkpaaa
open Go.E
set_option maxRecDepth 100000
structure Dot where
  rep : Int
  num : Int
  deriving Inhabited, DecidableEq
structure Span where
  rep : Int
  lo : Int
  hi : Int
  deriving Inhabited, DecidableEq
def c3 (n : Int) : List AV := [.i .i64 n]
def c22 (v : List Int) : List AV := [.sl (v.map c3)]
def c38 (v : List (List Int)) : List AV := [.sl (v.map c22)]
def c24 (d : Dot) : List AV := [.i .i64 d.rep, .i .i64 d.num]
def c53 (s : Span) : List AV := [.i .i64 s.rep, .i .i64 s.lo, .i .i64 s.hi]
def c62 (v : Vector Int 16) : List AV := cA (AV.i .i64) v
def c61 (v : Vector Int 16) : List AV := cA (AV.i .i64) v
def cap (n : Int) : Int := min (max n 0) 1000000000
def of (v : List Int) : Vector Int 16 := Vector.ofFn fun i => cap (v.getD i 0)
theorem vext {a b : Vector Int 16} (h : ∀ j, j < 16 → a[j]! = b[j]!) : a = b := by
  apply Vector.ext
  intro j hj
  have := h j hj
  simpa [hj] using this
theorem get_of (v : List Int) (j : Nat) (hj : j < 16) : (of v)[j]! = cap (v.getD j 0) := by simp [of, hj]
theorem get_setV {b : Vector Int 16} {i j : Nat} {x : Int} (hj : j < 16) : (b.setIfInBounds i x)[j]! = if i = j then x else b[j]! := by
  simp [hj, Vector.getElem_setIfInBounds]
theorem of_step {v : List Int} {b : Vector Int 16} {i x : Int} (h1 : 0 ≤ i) (h3 : ∀ j : Nat, j < 16 → b[j]! = if (j : Int) < i then (of v)[j]! else 0) (hi : i < 16) (hx : x = cap (v.getD i.toNat 0)) (j : Nat) (hj : j < 16) :
    (b.setIfInBounds i.toNat x)[j]! = if (j : Int) < i + 1 then (of v)[j]! else 0 := by
  rw [get_setV hj, h3 j hj]
  split
  · rename_i e
    subst e
    rw [if_pos (by omega), get_of _ _ hj, hx]
  · by_cases hji : (j : Int) < i
    · rw [if_pos hji, if_pos (by omega)]
    · rw [if_neg hji, if_neg (by omega)]
theorem getD_bang {v : List Int} {n : Nat} : v.getD n 0 = v[n]! := by
  simp [List.getD_eq_getElem?_getD]
theorem of_done {v : List Int} {b : Vector Int 16} {i : Int} (h3 : ∀ j : Nat, j < 16 → b[j]! = if (j : Int) < i then (of v)[j]! else 0) (h : ¬ i < 16 ∨ ¬ i < v.length) : b = of v := by
  refine vext fun j hj => ?_
  rw [h3 j hj]
  by_cases hji : (j : Int) < i
  · rw [if_pos hji]
  · rw [if_neg hji, get_of _ _ hj, List.getD_eq_getElem?_getD, List.getElem?_eq_none (by omega)]
    rfl
def inv49 (v : List Int) (i : Int) (a b : Vector Int 16) : Prop := 0 ≤ i ∧ i ≤ 16 ∧ ∀ j : Nat, j < 16 → b[j]! = if (j : Int) < i then (of v)[j]! else 0
def dec49 (i : Int) (a b : Vector Int 16) : Nat := (16 - i).toNat
def at' (v : List Int) (rep : Int) : Int := if 0 ≤ rep ∧ rep < 16 then (of v)[rep.toNat]! else 0
theorem at_out {v : List Int} {rep : Int} (h : ¬ (0 ≤ rep ∧ rep < 16)) : at' v rep = 0 := by rw [at', if_neg h]
theorem at_in {v : List Int} {rep : Int} (h : 0 ≤ rep ∧ rep < 16) : at' v rep = (of v)[rep.toNat]! := by rw [at', if_pos h]
def has (v : List Int) (d : Dot) : Bool := decide (1 ≤ d.num ∧ d.num ≤ at' v d.rep)
end Go.Proofs.Ytoeifjooljkpaaa
