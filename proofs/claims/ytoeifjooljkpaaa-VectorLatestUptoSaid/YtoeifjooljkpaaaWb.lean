/- Wb: the sixteen numbers of a list. Conditions: none. -/
import Derived.Test.YtoeifjooljkpaaaBa
set_option linter.unusedVariables false
set_option linter.unusedSimpArgs false
namespace Go.Proofs.Ytoeifjooljkpaaa
open Go.E
set_option maxRecDepth 100000
set_option maxHeartbeats 4000000
def c62 (v : Vector Int 16) : List AV := cA (AV.i .i64) v
def c61 (v : Vector Int 16) : List AV := cA (AV.i .i64) v
def cap (n : Int) : Int := min (max n 0) 1000000000
def of (v : List Int) : Vector Int 16 := Vector.ofFn fun i => cap (v.getD i 0)
theorem vext {a b : Vector Int 16} (h : ∀ j, j < 16 → a[j]! = b[j]!) : a = b := by
  apply Vector.ext
  intro j hj
  have := h j hj
  simpa [hj] using this
theorem get_of (v : List Int) (j : Nat) (hj : j < 16) : (of v)[j]! = cap (v.getD j 0) := by simp [of, hj]
theorem get_setV {b : Vector Int 16} {i j : Nat} {x : Int} (hj : j < 16) : (b.setIfInBounds i x)[j]! = if i = j then x else b[j]! := by
  simp [hj, Vector.getElem_setIfInBounds]
theorem of_step {v : List Int} {b : Vector Int 16} {i x : Int} (h1 : 0 ≤ i) (h3 : ∀ j : Nat, j < 16 → b[j]! = if (j : Int) < i then (of v)[j]! else 0) (hi : i < 16) (hx : x = cap (v.getD i.toNat 0)) (j : Nat) (hj : j < 16) :
    (b.setIfInBounds i.toNat x)[j]! = if (j : Int) < i + 1 then (of v)[j]! else 0 := by
  rw [get_setV hj, h3 j hj]
  split
  · rename_i e
    subst e
    rw [if_pos (by omega), get_of _ _ hj, hx]
  · by_cases hji : (j : Int) < i
    · rw [if_pos hji, if_pos (by omega)]
    · rw [if_neg hji, if_neg (by omega)]
theorem of_done {v : List Int} {b : Vector Int 16} {i : Int} (h3 : ∀ j : Nat, j < 16 → b[j]! = if (j : Int) < i then (of v)[j]! else 0) (h : ¬ i < 16 ∨ ¬ i < v.length) : b = of v := by
  refine vext fun j hj => ?_
  rw [h3 j hj]
  by_cases hji : (j : Int) < i
  · rw [if_pos hji]
  · rw [if_neg hji, get_of _ _ hj, List.getD_eq_getElem?_getD, List.getElem?_eq_none (by omega)]
    rfl
def inv49 (v : List Int) (i : Int) (a b : Vector Int 16) : Prop := 0 ≤ i ∧ i ≤ 16 ∧ ∀ j : Nat, j < 16 → b[j]! = if (j : Int) < i then (of v)[j]! else 0
def dec49 (i : Int) (a b : Vector Int 16) : Nat := (16 - i).toNat
def at' (v : List Int) (rep : Int) : Int := if 0 ≤ rep ∧ rep < 16 then (of v)[rep.toNat]! else 0
theorem at_out {v : List Int} {rep : Int} (h : ¬ (0 ≤ rep ∧ rep < 16)) : at' v rep = 0 := by rw [at', if_neg h]
theorem at_in {v : List Int} {rep : Int} (h : 0 ≤ rep ∧ rep < 16) : at' v rep = (of v)[rep.toNat]! := by rw [at', if_pos h]
def has (v : List Int) (d : Dot) : Bool := decide (1 ≤ d.num ∧ d.num ≤ at' v d.rep)
def inv20 (a b : List Int) (i : Int) : Prop := 0 ≤ i ∧ i ≤ a.length ∧ ∀ j : Nat, (j : Int) < i → a[j]! = b[j]!
def dec20 (a : List Int) (i : Int) : Nat := (a.length - i).toNat
def topN (v : Vector Int 16) : Nat → Nat
  | 0 => 0
  | n + 1 => if v[n]! = 0 then topN v n else n + 1
def short (v : Vector Int 16) : List Int := v.toList.take (topN v 16)
def inv51 (v : Vector Int 16) (n : Int) (w : Vector Int 16) : Prop := 0 ≤ n ∧ n ≤ 16 ∧ topN v 16 = topN v n.toNat ∧ w = v
def dec51 (n : Int) (w : Vector Int 16) : Nat := n.toNat
def inv52 (v : Vector Int 16) (n i : Int) (w : Vector Int 16) (xs : List Int) : Prop := 0 ≤ i ∧ i ≤ n ∧ w = v ∧ xs = v.toList.take i.toNat ∧ xs.length ≤ 16
def dec52 (n i : Int) (w : Vector Int 16) (xs : List Int) : Nat := (n - i).toNat
def inv31 (v : List Int) (i : Int) : Prop := 0 ≤ i ∧ i ≤ v.length ∧ ∀ j : Nat, (j : Int) < i → 0 ≤ v[j]! ∧ v[j]! ≤ 1000000000
def dec31 (v : List Int) (i : Int) : Nat := (v.length - i).toNat
def sumN (v : Vector Int 16) : Nat → Int
  | 0 => 0
  | n + 1 => sumN v n + v[n]!
def inv55 (v : Vector Int 16) (n i : Int) : Prop := 0 ≤ i ∧ i ≤ 16 ∧ n = sumN v i.toNat
def dec55 (n i : Int) : Nat := (16 - i).toNat
def inv35 (v : List Int) (n i : Int) (f : Vector Int 16) : Prop := 0 ≤ i ∧ i ≤ 16 ∧ n = sumN (of v) i.toNat ∧ f = of v
def dec35 (n i : Int) (f : Vector Int 16) : Nat := (16 - i).toNat
def inRange (v : Vector Int 16) : Prop := ∀ j : Nat, j < 16 → 0 ≤ v[j]! ∧ v[j]! ≤ 1000000000
def mergeV (v w : Vector Int 16) : Vector Int 16 := Vector.ofFn fun i => max v[i] w[i]
def meetV (v w : Vector Int 16) : Vector Int 16 := Vector.ofFn fun i => min v[i] w[i]
def inv54 (f : Int → Int → Int) (v w : Vector Int 16) (i : Int) (a b c : Vector Int 16) : Prop := 0 ≤ i ∧ i ≤ 16 ∧ b = w ∧ ∀ j : Nat, j < 16 → a[j]! = if (j : Int) < i then f v[j]! w[j]! else v[j]!
def dec54 (i : Int) (a b c : Vector Int 16) : Nat := (16 - i).toNat
def mergeL (m : Vector Int 16) (vs : List (List Int)) : Vector Int 16 := vs.foldl (fun m v => mergeV m (of v)) m
def inv26 (vs : List (List Int)) (i : Int) (m : Vector Int 16) : Prop := 0 ≤ i ∧ i ≤ vs.length ∧ m = mergeL (Vector.replicate 16 0) (vs.take i.toNat)
def dec26 (vs : List (List Int)) (i : Int) (m : Vector Int 16) : Nat := (vs.length - i).toNat
theorem eq62 (x y : Vector Int 16) : AggEq Try.prog 62 (c62 x) (c62 y) (decide (x = y)) := by
  refine aggEq_of (cs := c62 x) (ds := c62 y) tab_ok (n := 2) (by decide) (by kernel_rfl) (flc_cA rfl rfl rfl rfl x) (flc_cA rfl rfl rfl rfl y) ?_
  rw [decide_eq_true_iff]; exact cA_inj.symm
def putV (v : List Int) (rep n : Int) : List Int × Int :=
  if 0 ≤ rep ∧ rep < 16 then (if 0 ≤ n ∧ n ≤ 1000000000 then (short ((of v).setIfInBounds rep.toNat n), 0) else ([], 2)) else ([], 3)
def bumpV (v : List Int) (rep limit : Int) : List Int × Dot × Int :=
  if 0 ≤ rep ∧ rep < 16 then (if (of v)[rep.toNat]! < min limit 1000000000 then (short ((of v).setIfInBounds rep.toNat ((of v)[rep.toNat]! + 1)), ⟨rep, (of v)[rep.toNat]! + 1⟩, 0) else ([], ⟨0, 0⟩, 9)) else ([], ⟨0, 0⟩, 3)
def meetL : List (List Int) → Vector Int 16
  | [] => Vector.replicate 16 0
  | v :: vs => vs.foldl (fun m v => meetV m (of v)) (of v)
def inv25 (vs : List (List Int)) (i : Int) (m : Vector Int 16) : Prop := 0 ≤ i ∧ i ≤ vs.length ∧ m = meetL (vs.take i.toNat)
def inv27 (f : Int → Int → Int) (v w : Vector Int 16) (i : Int) (a b : Vector Int 16) : Prop := 0 ≤ i ∧ i ≤ 16 ∧ b = w ∧ ∀ j : Nat, j < 16 → a[j]! = if (j : Int) < i then f v[j]! w[j]! else v[j]!
def dec27 (i : Int) (a b : Vector Int 16) : Nat := (16 - i).toNat
def ordV (a b : Vector Int 16) : Int := if a = b then 0 else if mergeV a b = b then 1 else if mergeV a b = a then 2 else 3
def lexV (a b : Vector Int 16) : Nat → Int
  | 0 => 0
  | n + 1 => if a[15 - n]! = b[15 - n]! then lexV a b n else sgn (decide (a[15 - n]! < b[15 - n]!))
def cmpV (a b : Vector Int 16) : Int := if sumN a 16 = sumN b 16 then lexV a b 16 else sgn (decide (sumN a 16 < sumN b 16))
def behN (a b : Vector Int 16) : Nat → List Span
  | 0 => []
  | n + 1 => if a[n]! < b[n]! then behN a b n ++ [⟨n, a[n]! + 1, b[n]!⟩] else behN a b n
def leV (a b : Vector Int 16) : Prop := ∀ j : Nat, j < 16 → a[j]! ≤ b[j]!
def inv40 (f g : Vector Int 16) (more less r : Int) (f' g' : Vector Int 16) : Prop := 0 ≤ r ∧ r ≤ 16 ∧ f' = f ∧ g' = g ∧ 0 ≤ more ∧ more ≤ r ∧ 0 ≤ less ∧ less ≤ r ∧ (more = 0 ↔ ∀ j : Nat, (j : Int) < r → f[j]! ≤ g[j]!) ∧ (less = 0 ↔ ∀ j : Nat, (j : Int) < r → g[j]! ≤ f[j]!)
def dec40 (more less r : Int) (f' g' : Vector Int 16) : Nat := (16 - r).toNat
def inv57 (a b : Vector Int 16) (i : Int) (a' b' : Vector Int 16) : Prop := 0 ≤ i ∧ i ≤ 16 ∧ a' = a ∧ b' = b ∧ lexV a b 16 = lexV a b (16 - i).toNat
def dec57 (i : Int) (a' b' : Vector Int 16) : Nat := (16 - i).toNat
def inv41 (f g : Vector Int 16) (x y r : Int) (f' g' : Vector Int 16) : Prop := 0 ≤ r ∧ r ≤ 16 ∧ f' = f ∧ g' = g ∧ cmpV f g = if x = y then lexV f g (16 - r).toNat else sgn (decide (x < y))
def dec41 (x y r : Int) (f' g' : Vector Int 16) : Nat := (16 - r).toNat
def inv39 (a b : Vector Int 16) (i : Int) (a' b' : Vector Int 16) (l : List Span) : Prop := 0 ≤ i ∧ i ≤ 16 ∧ a' = a ∧ b' = b ∧ l = behN a b i.toNat ∧ l.length ≤ i.toNat
def dec39 (i : Int) (a' b' : Vector Int 16) (l : List Span) : Nat := (16 - i).toNat
instance (a b : Vector Int 16) : Decidable (leV a b) := inferInstanceAs (Decidable (∀ j : Nat, j < 16 → a[j]! ≤ b[j]!))
end Go.Proofs.Ytoeifjooljkpaaa
