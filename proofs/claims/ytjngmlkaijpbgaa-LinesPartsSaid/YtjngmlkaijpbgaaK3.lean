/- Ga: goods: is a text a SKU. Conditions: none. La: lines: entries in form. Conditions: none. Lb: walks, written by a program of this claim's own, and what each function hands back. Conditions: none. Lc: walks, written by a program of this claim's own, and what each function hands back. Conditions: none. Lq: entries in form: how many there are. Conditions: none. ES: the stable sort's pieces in plain words: rows turned round, runs swapped, two sorted runs merged by turning. Conditions: 'lt' a strict weak order. ET1: the worlds that a sort passes through: the row laid, new blocks behind, some draws on. Conditions: none. ET2: a row of one's own that has been put into another order: what the world keeps, what the row holds. Conditions: none. Pa: slices.SortFunc at runs: a row of one's own is put into the order of the beginnings. Conditions: each run begins between 1 and 1000000000. Pb: span: clip, and add (a row of the caller's own, handed back). Conditions: ends up to 1000000000; sizes. Pc: span: Union and Norm. Conditions: sizes. EV: slices.Clone at any element type: it hands back a row of the caller's own. Conditions: how its body is laid; sizes. Pd: span: Norm, Lead, and the library's Clone at runs. Conditions: sizes. Pn: span: the canonical form in plain words. Conditions: none. -/
import Derived.Sort.LotA
import Derived.Shelf.SlSortFuncK.RowK2
import Derived.Below
import Derived.WalkKit
import Derived.Shelf.SlSortCmp.NoneTotal
import Derived.Lib.Walk
import Derived.Shelf.SlLaysE0
import Derived.Shelf.RegionOpenPlain
import Derived.Deep.LoopGhost
import Derived.Lib.SliceRun
import Derived.Test.YtjngmlkaijpbgaaK2
set_option linter.unusedVariables false
set_option linter.unusedSimpArgs false
set_option linter.unusedSectionVars false
namespace Go.Proofs.Ytjngmlkaijpbgaa
open Go.E
set_option maxRecDepth 100000
set_option maxHeartbeats 4000000
def isLet (c : Int) : Bool := decide (65 ≤ c ∧ c ≤ 90)
def isDig (c : Int) : Bool := decide (48 ≤ c ∧ c ≤ 57)
def isMrk (c : Int) : Bool := decide (c = 45 ∨ c = 46)
def standsB (s : ByteArray) (i : Nat) : Bool := isLet (byt s i) || isDig (byt s i) || (isMrk (byt s i) && decide (i ≠ 0 ∧ i + 1 ≠ s.size) && !isMrk (byt s (i - 1)))
def allUp (p : Nat → Bool) : Nat → Bool
  | 0 => true
  | n + 1 => allUp p n && p n
theorem allUp_iff (p : Nat → Bool) : ∀ n, allUp p n = true ↔ ∀ i, i < n → p i = true
  | 0 => by simp [allUp]
  | n + 1 => by
    rw [allUp, Bool.and_eq_true, allUp_iff p n]
    constructor
    · rintro ⟨h1, h2⟩ i hi
      by_cases e : i = n
      · rw [e]; exact h2
      · exact h1 i (by omega)
    · intro h; exact ⟨fun i hi => h i (by omega), h n (by omega)⟩
def chkE (s : ByteArray) : Int := if s.size = 0 then 20 else if 24 < s.size then 21 else if allUp (standsB s) s.size = true then 0 else 22
def good (s : ByteArray) : Bool := decide (chkE s = 0)
def invG (s : ByteArray) (i : Int) : Prop := 0 ≤ i ∧ i ≤ s.size ∧ ∀ j : Nat, (j : Int) < i → standsB s j = true
def decG (s : ByteArray) (i : Int) : Nat := (s.size - i).toNat
theorem chkE_bad {s : ByteArray} (h0 : ¬ s.size = 0) (h1 : ¬ 24 < s.size) {i : Nat} (hi : i < s.size) (h : standsB s i = false) : chkE s = 22 := by
  unfold chkE
  rw [if_neg h0, if_neg h1, if_neg]
  intro k
  have := (allUp_iff _ _).1 k i hi
  rw [h] at this; cases this
theorem chkE_ok {s : ByteArray} (h0 : ¬ s.size = 0) (h1 : ¬ 24 < s.size) (h : ∀ j : Nat, j < s.size → standsB s j = true) : chkE s = 0 := by
  unfold chkE
  rw [if_neg h0, if_neg h1, if_pos ((allUp_iff _ _).2 h)]
theorem size_zero (s : ByteArray) : s.size = 0 ↔ s = ⟨#[]⟩ := by
  constructor
  · intro h; exact ByteArray.ext (Array.eq_empty_of_size_eq_zero h)
  · rintro rfl; rfl
theorem stands_iff (s : ByteArray) (i : Nat) : standsB s i = true ↔ isLet (byt s i) = true ∨ isDig (byt s i) = true ∨ (isMrk (byt s i) = true ∧ i ≠ 0 ∧ i + 1 ≠ s.size ∧ ¬ isMrk (byt s (i - 1)) = true) := by
  unfold standsB
  cases isLet (byt s i) <;> cases isDig (byt s i) <;> cases isMrk (byt s i) <;> cases isMrk (byt s (i - 1)) <;> simp
theorem invG_step {s : ByteArray} {i : Int} (h0 : 0 ≤ i) (h1 : i < s.size) (h2 : ∀ j : Nat, (j : Int) < i → standsB s j = true) (h : standsB s i.toNat = true) : invG s (i + 1) :=
  ⟨by omega, by omega, fun j hj => by
    by_cases e : j = i.toNat
    · rw [e]; exact h
    · exact h2 j (by omega)⟩
theorem not_stands {s : ByteArray} {i : Nat} (h : ¬ standsB s i = true) : standsB s i = false := by simpa using h
theorem con89 (c : Int) : Con Try.prog 89 [.i .u8 c] (.b (isLet c)) :=
  by
  refine st_con tab_ok (by kernel_rfl) [.tmp 2] 9 Go.Proofs.Try.func89 (by kernel_rfl) (by kernel_rfl) ?_
  intro e0 cx
  refine sq ?_
  refine rg (A := True) cx [] [0] [] trivial ?_
  refine sn ?_
  refine sq ?_
  refine st_join (σ' := ⟨[(2, .b (decide ((65 : Int) ≤ c ∧ c ≤ (90 : Int))))], []⟩) ?_ ?_
  refine st_split ((65 : Int) ≤ c) (fun h_1 => ?_) (fun h_1 => ?_)
  refine rg (A := _ ∧ (AV.b (decide (c ≤ (90 : Int))) = AV.b (decide (c ≤ (90 : Int)))) ∧ (AV.b (decide (c ≤ (90 : Int))) = AV.b (decide ((65 : Int) ≤ c ∧ c ≤ (90 : Int))))) cx [(1, { tell := some (.b (true)) }), (4, { tell := some (.b (decide (c ≤ (90 : Int)))) }), (6, { tell := some (.b (decide ((65 : Int) ≤ c ∧ c ≤ (90 : Int)))) })] [2] [] ⟨(told_true h_1), (by kernel_rfl), (by simp only [eq_true h_1, told_simp1, told_simp2, and_true, true_and, and_false, false_and, or_true, true_or, or_false, false_or, not_true_eq_false, not_false_eq_true, decide_true, decide_false, Bool.decide_eq_true])⟩ ?_
  exact ⟨rfl, by kernel_rfl⟩
  refine rg (A := _ ∧ (AV.b false = AV.b (decide ((65 : Int) ≤ c ∧ c ≤ (90 : Int))))) cx [(1, { tell := some (.b (false)) }), (6, { tell := some (.b (decide ((65 : Int) ≤ c ∧ c ≤ (90 : Int)))) })] [2] [] ⟨(told_false h_1), (by simp only [eq_false h_1, told_simp1, told_simp2, and_true, true_and, and_false, false_and, or_true, true_or, or_false, false_or, not_true_eq_false, not_false_eq_true, decide_true, decide_false, Bool.decide_eq_true])⟩ ?_
  exact ⟨rfl, by kernel_rfl⟩
  refine sn ?_
  refine st_ret (by kernel_rfl) ?_
  refine q_ret (r := .b (decide ((65 : Int) ≤ c ∧ c ≤ (90 : Int)))) (obl := []) (by kernel_rfl) trivial (AVle.eq (show AV.b (decide ((65 : Int) ≤ c ∧ c ≤ (90 : Int))) = AV.b (isLet c) from ?g0)); rotate_left 1
  case g0 => exact rfl
theorem con90 (c : Int) : Con Try.prog 90 [.i .u8 c] (.b (isDig c)) :=
  by
  refine st_con tab_ok (by kernel_rfl) [.tmp 2] 9 Go.Proofs.Try.func90 (by kernel_rfl) (by kernel_rfl) ?_
  intro e0 cx
  refine sq ?_
  refine rg (A := True) cx [] [0] [] trivial ?_
  refine sn ?_
  refine sq ?_
  refine st_join (σ' := ⟨[(2, .b (decide ((48 : Int) ≤ c ∧ c ≤ (57 : Int))))], []⟩) ?_ ?_
  refine st_split ((48 : Int) ≤ c) (fun h_1 => ?_) (fun h_1 => ?_)
  refine rg (A := _ ∧ (AV.b (decide (c ≤ (57 : Int))) = AV.b (decide (c ≤ (57 : Int)))) ∧ (AV.b (decide (c ≤ (57 : Int))) = AV.b (decide ((48 : Int) ≤ c ∧ c ≤ (57 : Int))))) cx [(1, { tell := some (.b (true)) }), (4, { tell := some (.b (decide (c ≤ (57 : Int)))) }), (6, { tell := some (.b (decide ((48 : Int) ≤ c ∧ c ≤ (57 : Int)))) })] [2] [] ⟨(told_true h_1), (by kernel_rfl), (by simp only [eq_true h_1, told_simp1, told_simp2, and_true, true_and, and_false, false_and, or_true, true_or, or_false, false_or, not_true_eq_false, not_false_eq_true, decide_true, decide_false, Bool.decide_eq_true])⟩ ?_
  exact ⟨rfl, by kernel_rfl⟩
  refine rg (A := _ ∧ (AV.b false = AV.b (decide ((48 : Int) ≤ c ∧ c ≤ (57 : Int))))) cx [(1, { tell := some (.b (false)) }), (6, { tell := some (.b (decide ((48 : Int) ≤ c ∧ c ≤ (57 : Int)))) })] [2] [] ⟨(told_false h_1), (by simp only [eq_false h_1, told_simp1, told_simp2, and_true, true_and, and_false, false_and, or_true, true_or, or_false, false_or, not_true_eq_false, not_false_eq_true, decide_true, decide_false, Bool.decide_eq_true])⟩ ?_
  exact ⟨rfl, by kernel_rfl⟩
  refine sn ?_
  refine st_ret (by kernel_rfl) ?_
  refine q_ret (r := .b (decide ((48 : Int) ≤ c ∧ c ≤ (57 : Int)))) (obl := []) (by kernel_rfl) trivial (AVle.eq (show AV.b (decide ((48 : Int) ≤ c ∧ c ≤ (57 : Int))) = AV.b (isDig c) from ?g0)); rotate_left 1
  case g0 => exact rfl
theorem con91 (c : Int) : Con Try.prog 91 [.i .u8 c] (.b (isMrk c)) :=
  by
  refine st_con tab_ok (by kernel_rfl) [.tmp 2] 9 Go.Proofs.Try.func91 (by kernel_rfl) (by kernel_rfl) ?_
  intro e0 cx
  refine sq ?_
  refine rg (A := True) cx [] [0] [] trivial ?_
  refine sn ?_
  refine sq ?_
  refine st_join (σ' := ⟨[(2, .b (decide (c = (45 : Int) ∨ c = (46 : Int))))], []⟩) ?_ ?_
  refine st_split (c = (45 : Int)) (fun h_1 => ?_) (fun h_1 => ?_)
  refine rg (A := _ ∧ (AV.b true = AV.b (decide (c = (45 : Int) ∨ c = (46 : Int))))) cx [(1, { tell := some (.b (true)) }), (6, { tell := some (.b (decide (c = (45 : Int) ∨ c = (46 : Int)))) })] [2] [] ⟨(told_true h_1), (by simp only [eq_true h_1, told_simp1, told_simp2, and_true, true_and, and_false, false_and, or_true, true_or, or_false, false_or, not_true_eq_false, not_false_eq_true, decide_true, decide_false, Bool.decide_eq_true])⟩ ?_
  exact ⟨rfl, by kernel_rfl⟩
  refine rg (A := _ ∧ (AV.b (c == (46 : Int)) = AV.b (decide (c = (46 : Int)))) ∧ (AV.b (decide (c = (46 : Int))) = AV.b (decide (c = (45 : Int) ∨ c = (46 : Int))))) cx [(1, { tell := some (.b (false)) }), (4, { tell := some (.b (decide (c = (46 : Int)))) }), (6, { tell := some (.b (decide (c = (45 : Int) ∨ c = (46 : Int)))) })] [2] [] ⟨(told_false h_1), (by kernel_rfl), (by simp only [eq_false h_1, told_simp1, told_simp2, and_true, true_and, and_false, false_and, or_true, true_or, or_false, false_or, not_true_eq_false, not_false_eq_true, decide_true, decide_false, Bool.decide_eq_true])⟩ ?_
  exact ⟨rfl, by kernel_rfl⟩
  refine sn ?_
  refine st_ret (by kernel_rfl) ?_
  refine q_ret (r := .b (decide (c = (45 : Int) ∨ c = (46 : Int)))) (obl := []) (by kernel_rfl) trivial (AVle.eq (show AV.b (decide (c = (45 : Int) ∨ c = (46 : Int))) = AV.b (isMrk c) from ?g0)); rotate_left 1
  case g0 => exact rfl
theorem con119 (c : Int) : Con Try.prog 119 [.i .u8 c] (.b (isLet c)) :=
  by
  refine st_con tab_ok (by kernel_rfl) [.tmp 2] 9 Go.Proofs.Try.func119 (by kernel_rfl) (by kernel_rfl) ?_
  intro e0 cx
  refine sq ?_
  refine rg (A := True) cx [] [0] [] trivial ?_
  refine sn ?_
  refine sq ?_
  refine st_join (σ' := ⟨[(2, .b (decide ((65 : Int) ≤ c ∧ c ≤ (90 : Int))))], []⟩) ?_ ?_
  refine st_split ((65 : Int) ≤ c) (fun h_1 => ?_) (fun h_1 => ?_)
  refine rg (A := _ ∧ (AV.b (decide (c ≤ (90 : Int))) = AV.b (decide (c ≤ (90 : Int)))) ∧ (AV.b (decide (c ≤ (90 : Int))) = AV.b (decide ((65 : Int) ≤ c ∧ c ≤ (90 : Int))))) cx [(1, { tell := some (.b (true)) }), (4, { tell := some (.b (decide (c ≤ (90 : Int)))) }), (6, { tell := some (.b (decide ((65 : Int) ≤ c ∧ c ≤ (90 : Int)))) })] [2] [] ⟨(told_true h_1), (by kernel_rfl), (by simp only [eq_true h_1, told_simp1, told_simp2, and_true, true_and, and_false, false_and, or_true, true_or, or_false, false_or, not_true_eq_false, not_false_eq_true, decide_true, decide_false, Bool.decide_eq_true])⟩ ?_
  exact ⟨rfl, by kernel_rfl⟩
  refine rg (A := _ ∧ (AV.b false = AV.b (decide ((65 : Int) ≤ c ∧ c ≤ (90 : Int))))) cx [(1, { tell := some (.b (false)) }), (6, { tell := some (.b (decide ((65 : Int) ≤ c ∧ c ≤ (90 : Int)))) })] [2] [] ⟨(told_false h_1), (by simp only [eq_false h_1, told_simp1, told_simp2, and_true, true_and, and_false, false_and, or_true, true_or, or_false, false_or, not_true_eq_false, not_false_eq_true, decide_true, decide_false, Bool.decide_eq_true])⟩ ?_
  exact ⟨rfl, by kernel_rfl⟩
  refine sn ?_
  refine st_ret (by kernel_rfl) ?_
  refine q_ret (r := .b (decide ((65 : Int) ≤ c ∧ c ≤ (90 : Int)))) (obl := []) (by kernel_rfl) trivial (AVle.eq (show AV.b (decide ((65 : Int) ≤ c ∧ c ≤ (90 : Int))) = AV.b (isLet c) from ?g0)); rotate_left 1
  case g0 => exact rfl
theorem con120 (c : Int) : Con Try.prog 120 [.i .u8 c] (.b (isDig c)) :=
  by
  refine st_con tab_ok (by kernel_rfl) [.tmp 2] 9 Go.Proofs.Try.func120 (by kernel_rfl) (by kernel_rfl) ?_
  intro e0 cx
  refine sq ?_
  refine rg (A := True) cx [] [0] [] trivial ?_
  refine sn ?_
  refine sq ?_
  refine st_join (σ' := ⟨[(2, .b (decide ((48 : Int) ≤ c ∧ c ≤ (57 : Int))))], []⟩) ?_ ?_
  refine st_split ((48 : Int) ≤ c) (fun h_1 => ?_) (fun h_1 => ?_)
  refine rg (A := _ ∧ (AV.b (decide (c ≤ (57 : Int))) = AV.b (decide (c ≤ (57 : Int)))) ∧ (AV.b (decide (c ≤ (57 : Int))) = AV.b (decide ((48 : Int) ≤ c ∧ c ≤ (57 : Int))))) cx [(1, { tell := some (.b (true)) }), (4, { tell := some (.b (decide (c ≤ (57 : Int)))) }), (6, { tell := some (.b (decide ((48 : Int) ≤ c ∧ c ≤ (57 : Int)))) })] [2] [] ⟨(told_true h_1), (by kernel_rfl), (by simp only [eq_true h_1, told_simp1, told_simp2, and_true, true_and, and_false, false_and, or_true, true_or, or_false, false_or, not_true_eq_false, not_false_eq_true, decide_true, decide_false, Bool.decide_eq_true])⟩ ?_
  exact ⟨rfl, by kernel_rfl⟩
  refine rg (A := _ ∧ (AV.b false = AV.b (decide ((48 : Int) ≤ c ∧ c ≤ (57 : Int))))) cx [(1, { tell := some (.b (false)) }), (6, { tell := some (.b (decide ((48 : Int) ≤ c ∧ c ≤ (57 : Int)))) })] [2] [] ⟨(told_false h_1), (by simp only [eq_false h_1, told_simp1, told_simp2, and_true, true_and, and_false, false_and, or_true, true_or, or_false, false_or, not_true_eq_false, not_false_eq_true, decide_true, decide_false, Bool.decide_eq_true])⟩ ?_
  exact ⟨rfl, by kernel_rfl⟩
  refine sn ?_
  refine st_ret (by kernel_rfl) ?_
  refine q_ret (r := .b (decide ((48 : Int) ≤ c ∧ c ≤ (57 : Int)))) (obl := []) (by kernel_rfl) trivial (AVle.eq (show AV.b (decide ((48 : Int) ≤ c ∧ c ≤ (57 : Int))) = AV.b (isDig c) from ?g0)); rotate_left 1
  case g0 => exact rfl
theorem con121 (c : Int) : Con Try.prog 121 [.i .u8 c] (.b (isMrk c)) :=
  by
  refine st_con tab_ok (by kernel_rfl) [.tmp 2] 9 Go.Proofs.Try.func121 (by kernel_rfl) (by kernel_rfl) ?_
  intro e0 cx
  refine sq ?_
  refine rg (A := True) cx [] [0] [] trivial ?_
  refine sn ?_
  refine sq ?_
  refine st_join (σ' := ⟨[(2, .b (decide (c = (45 : Int) ∨ c = (46 : Int))))], []⟩) ?_ ?_
  refine st_split (c = (45 : Int)) (fun h_1 => ?_) (fun h_1 => ?_)
  refine rg (A := _ ∧ (AV.b true = AV.b (decide (c = (45 : Int) ∨ c = (46 : Int))))) cx [(1, { tell := some (.b (true)) }), (6, { tell := some (.b (decide (c = (45 : Int) ∨ c = (46 : Int)))) })] [2] [] ⟨(told_true h_1), (by simp only [eq_true h_1, told_simp1, told_simp2, and_true, true_and, and_false, false_and, or_true, true_or, or_false, false_or, not_true_eq_false, not_false_eq_true, decide_true, decide_false, Bool.decide_eq_true])⟩ ?_
  exact ⟨rfl, by kernel_rfl⟩
  refine rg (A := _ ∧ (AV.b (c == (46 : Int)) = AV.b (decide (c = (46 : Int)))) ∧ (AV.b (decide (c = (46 : Int))) = AV.b (decide (c = (45 : Int) ∨ c = (46 : Int))))) cx [(1, { tell := some (.b (false)) }), (4, { tell := some (.b (decide (c = (46 : Int)))) }), (6, { tell := some (.b (decide (c = (45 : Int) ∨ c = (46 : Int)))) })] [2] [] ⟨(told_false h_1), (by kernel_rfl), (by simp only [eq_false h_1, told_simp1, told_simp2, and_true, true_and, and_false, false_and, or_true, true_or, or_false, false_or, not_true_eq_false, not_false_eq_true, decide_true, decide_false, Bool.decide_eq_true])⟩ ?_
  exact ⟨rfl, by kernel_rfl⟩
  refine sn ?_
  refine st_ret (by kernel_rfl) ?_
  refine q_ret (r := .b (decide (c = (45 : Int) ∨ c = (46 : Int)))) (obl := []) (by kernel_rfl) trivial (AVle.eq (show AV.b (decide (c = (45 : Int) ∨ c = (46 : Int))) = AV.b (isMrk c) from ?g0)); rotate_left 1
  case g0 => exact rfl
theorem con92 (s : ByteArray) (i : Int) (h0 : 0 ≤ i) (h1 : i < s.size) (h2 : s.size ≤ 24) : Con Try.prog 92 [.s s, .i .i64 i] (.b (standsB s i.toNat)) :=
  by
  refine st_con tab_ok (by kernel_rfl) [.tmp 4] 33 Go.Proofs.Try.func92 (by kernel_rfl) (by kernel_rfl) ?_
  intro e0 cx
  refine sq ?_
  refine rg (A := True) cx [] [0, 1] [] trivial ?_
  refine sn ?_
  refine sq ?_
  have hl_0 := (rng_byt s)
  have hl_1 := (rng_byt s i.toNat)
  refine rg (A := ((0 : Int) ≤ i) ∧ (Option.map (fun b ↦ (↑b.toNat : Int)) s[i.toNat]? = some (byt s i.toNat))) cx [(2, { val := some (.i .u8 (byt s i.toNat)) })] [0, 1, 5] [] ⟨(by (with_reducible assumption)), (by (with_reducible refine get_byt ?_; omega))⟩ ?_
  refine sn ?_
  refine sq ?_
  refine sq ?_
  refine st_join (σ' := ⟨[(0, .s (s)), (1, .i .i64 (i)), (5, .i .u8 (byt s i.toNat)), (14, .b (decide (isLet (byt s i.toNat) = true ∨ isDig (byt s i.toNat) = true)))], []⟩) ?_ ?_
  refine st_split (isLet (byt s i.toNat) = true) (fun h_3 => ?_) (fun h_3 => ?_)
  refine rg (A := _ ∧ _ ∧ (AV.b true = AV.b (decide (isLet (byt s i.toNat) = true ∨ isDig (byt s i.toNat) = true)))) cx [(1, { val := some (.b (isLet (byt s i.toNat))), tell := some (.b (true)) }), (5, { tell := some (.b (decide (isLet (byt s i.toNat) = true ∨ isDig (byt s i.toNat) = true))) })] [0, 1, 5, 14] [] ⟨(told_eqt h_3), (con119 (byt s i.toNat)), (by simp only [eq_true h_3, told_simp1, told_simp2, and_true, true_and, and_false, false_and, or_true, true_or, or_false, false_or, not_true_eq_false, not_false_eq_true, decide_true, decide_false, Bool.decide_eq_true])⟩ ?_
  exact ⟨rfl, by kernel_rfl⟩
  refine rg (A := (AV.b (isLet (byt s i.toNat)) = AV.b false) ∧ _ ∧ _ ∧ (AV.b (isDig (byt s i.toNat)) = AV.b (decide (isLet (byt s i.toNat) = true ∨ isDig (byt s i.toNat) = true)))) cx [(1, { val := some (.b (isLet (byt s i.toNat))), tell := some (.b (false)) }), (4, { val := some (.b (isDig (byt s i.toNat))) }), (5, { tell := some (.b (decide (isLet (byt s i.toNat) = true ∨ isDig (byt s i.toNat) = true))) })] [0, 1, 5, 14] [] ⟨(told_eqn h_3), (con119 (byt s i.toNat)), (con120 (byt s i.toNat)), (by simp only [eq_false h_3, told_simp1, told_simp2, and_true, true_and, and_false, false_and, or_true, true_or, or_false, false_or, not_true_eq_false, not_false_eq_true, decide_true, decide_false, Bool.decide_eq_true])⟩ ?_
  exact ⟨rfl, by kernel_rfl⟩
  refine sn ?_
  refine st_dec (isLet (byt s i.toNat) = true ∨ isDig (byt s i.toNat) = true) (by kernel_rfl) (by kernel_rfl) (fun h_4 => ?_) (fun h_4 => ?_)
  refine sq ?_
  refine rg (A := True) cx [] [4] [] trivial ?_
  refine sn ?_
  refine st_ret (by kernel_rfl) ?_
  refine q_seq_ret ?_
  refine q_ret (r := .b (true)) (obl := []) (by kernel_rfl) trivial (AVle.eq (show AV.b true = AV.b (standsB s i.toNat) from ?g0)); rotate_left 1
  refine st_skip (by kernel_rfl) ?_
  refine sn ?_
  refine sq ?_
  refine sq ?_
  refine rg (A := _ ∧ ((AV.b !isMrk (byt s i.toNat)) = AV.b (decide ¬isMrk (byt s i.toNat) = true))) cx [(1, { val := some (.b (isMrk (byt s i.toNat))) }), (2, { tell := some (.b (decide ¬isMrk (byt s i.toNat) = true)) })] [0, 1, 17] [] ⟨(con121 (byt s i.toNat)), (told_not)⟩ ?_
  refine sn ?_
  refine st_dec (¬isMrk (byt s i.toNat) = true) (by kernel_rfl) (by kernel_rfl) (fun h_5 => ?_) (fun h_5 => ?_)
  refine sq ?_
  refine rg (A := True) cx [] [4] [] trivial ?_
  refine sn ?_
  refine st_ret (by kernel_rfl) ?_
  refine q_seq_ret ?_
  refine q_ret (r := .b (false)) (obl := []) (by kernel_rfl) trivial (AVle.eq (show AV.b false = AV.b (standsB s i.toNat) from ?g1)); rotate_left 1
  refine st_skip (by kernel_rfl) ?_
  refine sn ?_
  refine sq ?_
  refine sq ?_
  refine st_join (σ' := ⟨[(0, .s (s)), (1, .i .i64 (i)), (26, .b (decide (i = (0 : Int) ∨ i = (↑s.size : Int) - (1 : Int))))], []⟩) ?_ ?_
  refine st_split (i = (0 : Int)) (fun h_7 => ?_) (fun h_7 => ?_)
  refine rg (A := _ ∧ (AV.b true = AV.b (decide (i = (0 : Int) ∨ i = (↑s.size : Int) - (1 : Int))))) cx [(1, { tell := some (.b (true)) }), (8, { tell := some (.b (decide (i = (0 : Int) ∨ i = (↑s.size : Int) - (1 : Int)))) })] [0, 1, 26] [] ⟨(told_true h_7), (by simp only [eq_true h_7, told_simp1, told_simp2, and_true, true_and, and_false, false_and, or_true, true_or, or_false, false_or, not_true_eq_false, not_false_eq_true, decide_true, decide_false, Bool.decide_eq_true])⟩ ?_
  exact ⟨rfl, by kernel_rfl⟩
  refine rg (A := _ ∧ (AV.i IntKind.i64 (IntKind.i64.wrap ((↑s.size : Int) - (1 : Int))) = AV.i IntKind.i64 ((↑s.size : Int) - (1 : Int))) ∧ (AV.b (i == (↑s.size : Int) - (1 : Int)) = AV.b (decide (i = (↑s.size : Int) - (1 : Int)))) ∧ (AV.b (decide (i = (↑s.size : Int) - (1 : Int))) = AV.b (decide (i = (0 : Int) ∨ i = (↑s.size : Int) - (1 : Int))))) cx [(1, { tell := some (.b (false)) }), (6, { tell := some (.i .i64 ((↑s.size : Int) - (1 : Int))) }), (7, { tell := some (.b (decide (i = (↑s.size : Int) - (1 : Int)))) }), (8, { tell := some (.b (decide (i = (0 : Int) ∨ i = (↑s.size : Int) - (1 : Int)))) })] [0, 1, 26] [] ⟨(told_false h_7), (told_i64 (by omega) (by omega)), (by kernel_rfl), (by simp only [eq_false h_7, told_simp1, told_simp2, and_true, true_and, and_false, false_and, or_true, true_or, or_false, false_or, not_true_eq_false, not_false_eq_true, decide_true, decide_false, Bool.decide_eq_true])⟩ ?_
  exact ⟨rfl, by kernel_rfl⟩
  refine sn ?_
  refine st_dec (i = (0 : Int) ∨ i = (↑s.size : Int) - (1 : Int)) (by kernel_rfl) (by kernel_rfl) (fun h_8 => ?_) (fun h_8 => ?_)
  refine sq ?_
  refine rg (A := True) cx [] [4] [] trivial ?_
  refine sn ?_
  refine st_ret (by kernel_rfl) ?_
  refine q_seq_ret ?_
  refine q_ret (r := .b (false)) (obl := []) (by kernel_rfl) trivial (AVle.eq (show AV.b false = AV.b (standsB s i.toNat) from ?g2)); rotate_left 1
  refine st_skip (by kernel_rfl) ?_
  refine sn ?_
  refine sq ?_
  have hl_9 := (rng_byt s (i - (1 : Int)).toNat)
  refine rg (A := (AV.i IntKind.i64 (IntKind.i64.wrap (i - (1 : Int))) = AV.i IntKind.i64 (i - (1 : Int))) ∧ ((0 : Int) ≤ i - (1 : Int)) ∧ (Option.map (fun b ↦ (↑b.toNat : Int)) s[(i - (1 : Int)).toNat]? = some (byt s (i - (1 : Int)).toNat)) ∧ _ ∧ ((AV.b !isMrk (byt s (i - (1 : Int)).toNat)) = AV.b (decide ¬isMrk (byt s (i - (1 : Int)).toNat) = true))) cx [(2, { tell := some (.i .i64 (i - (1 : Int))) }), (3, { val := some (.i .u8 (byt s (i - (1 : Int)).toNat)) }), (4, { val := some (.b (isMrk (byt s (i - (1 : Int)).toNat))) }), (5, { tell := some (.b (decide ¬isMrk (byt s (i - (1 : Int)).toNat) = true)) })] [4] [] ⟨(told_i64 (by omega) (by omega)), (by omega), (by (with_reducible refine get_byt ?_; omega)), (con121 (byt s (i - (1 : Int)).toNat)), (told_not)⟩ ?_
  refine sn ?_
  refine st_ret (by kernel_rfl) ?_
  refine q_ret (r := .b (decide ¬isMrk (byt s (i - (1 : Int)).toNat) = true)) (obl := []) (by kernel_rfl) trivial (AVle.eq (show AV.b (decide ¬isMrk (byt s (i - (1 : Int)).toNat) = true) = AV.b (standsB s i.toNat) from ?g3)); rotate_left 1
  revert h_4; rotate_left
  revert h_4 h_5; rotate_left
  revert h_4 h_5 h_8; rotate_left
  revert h_4 h_5 h_8; rotate_left
  case' g3 => refine (fun h k l => ?_)
  case' g2 => refine (fun h k l => ?_)
  case' g1 => refine (fun h k => ?_)
  case' g0 => refine (fun h => ?_)
  · rw [(stands_iff s i.toNat).2 (h.elim .inl fun h => .inr (.inl h))]
  · rw [not_stands]; rw [stands_iff]; rintro (a | a | a)
    · exact h (.inl a)
    · exact h (.inr a)
    · exact k a.1
  · rw [not_stands]; rw [stands_iff]; rintro (a | a | a)
    · exact h (.inl a)
    · exact h (.inr a)
    · omega
  · have e : (i - 1).toNat = i.toNat - 1 := by omega
    rw [e]
    by_cases m : isMrk (byt s (i.toNat - 1)) = true
    · rw [not_stands]
      · rw [m]; rfl
      · rw [stands_iff]; rintro (a | a | a)
        · exact h (.inl a)
        · exact h (.inr a)
        · exact a.2.2.2 m
    · rw [(stands_iff s i.toNat).2 (.inr (.inr ⟨Classical.not_not.1 k, by omega, by omega, m⟩)), decide_eq_true m]
theorem con70 (s : ByteArray) : Con Try.prog 70 [.s s] (.tup [.dead, .i .i64 (chkE s)]) :=
  by
  refine st_con tab_ok (by kernel_rfl) [.tmp 2, .tmp 3] 48 Go.Proofs.Try.func70 (by kernel_rfl) (by kernel_rfl) ?_
  intro e0 cx
  refine sq ?_
  refine rg (A := True) cx [] [0] [] trivial ?_
  refine sn ?_
  refine sq ?_
  refine sq ?_
  refine rg (A := (AV.b (s.toList == { data := #[] : ByteArray }.toList) = AV.b (decide (s = { data := #[] : ByteArray })))) cx [(1, { tell := some (.b (decide (s = { data := #[] : ByteArray }))) })] [0, 7] [] (told_seq) ?_
  refine sn ?_
  refine st_dec (s = { data := #[] : ByteArray }) (by kernel_rfl) (by kernel_rfl) (fun h_0 => ?_) (fun h_0 => ?_)
  refine sq ?_
  refine rg (A := True) cx [] [2, 3] [] trivial ?_
  refine sn ?_
  refine st_ret (by kernel_rfl) ?_
  refine q_seq_ret ?_
  refine q_ret (r := .tup [.i .i64 ((0 : Int)), .i .i64 ((20 : Int))]) (obl := []) (by kernel_rfl) trivial (AVle.tup (ZLe.cons AVle.dead (ZLe.cons (AVle.eq (show AV.i IntKind.i64 (20 : Int) = AV.i IntKind.i64 (chkE s) from ?g0)) ZLe.nil))); rotate_left 1
  refine st_skip (by kernel_rfl) ?_
  refine sn ?_
  refine sq ?_
  refine sq ?_
  refine rg (A := (AV.b (decide ((↑s.size : Int) > (24 : Int))) = AV.b (decide ((24 : Int) < (↑s.size : Int))))) cx [(2, { tell := some (.b (decide ((24 : Int) < (↑s.size : Int)))) })] [0, 10] [] (by kernel_rfl) ?_
  refine sn ?_
  refine st_dec ((24 : Int) < (↑s.size : Int)) (by kernel_rfl) (by kernel_rfl) (fun h_1 => ?_) (fun h_1 => ?_)
  refine sq ?_
  refine rg (A := True) cx [] [2, 3] [] trivial ?_
  refine sn ?_
  refine st_ret (by kernel_rfl) ?_
  refine q_seq_ret ?_
  refine q_ret (r := .tup [.i .i64 ((0 : Int)), .i .i64 ((21 : Int))]) (obl := []) (by kernel_rfl) trivial (AVle.tup (ZLe.cons AVle.dead (ZLe.cons (AVle.eq (show AV.i IntKind.i64 (21 : Int) = AV.i IntKind.i64 (chkE s) from ?g1)) ZLe.nil))); rotate_left 1
  refine st_skip (by kernel_rfl) ?_
  refine sn ?_
  refine sq ?_
  refine sq ?_
  refine rg (A := True) cx [] [0, 12, 13] [] trivial ?_
  refine sn ?_
  refine st_block 0 (by kernel_rfl) ?_
  refine st_loop (X := Int) (fun x => ⟨[(0, .s (s)), (12, .i .i64 ((↑s.size : Int))), (13, .i .i64 (x))], []⟩) (fun x ↦ decG s x) (fun x ↦ invG s x) [0, 12, 13] [] ((0 : Int)) (by kernel_rfl) (by kernel_rfl) (show invG s (0 : Int) from ?g2) ?_; rotate_left 1
  intro i_2 h_3
  obtain ⟨h_4, h_5, h_6⟩ : (0 : Int) ≤ i_2 ∧ i_2 ≤ (↑s.size : Int) ∧ ∀ (j : Nat), (↑j : Int) < i_2 → standsB s j = true := h_3
  refine sq ?_
  refine rg (A := (AV.b (decide (i_2 < (↑s.size : Int))) = AV.b (decide (i_2 < (↑s.size : Int))))) cx [(0, { tell := some (.b (decide (i_2 < (↑s.size : Int)))) })] [0, 12, 13, 14] [] (by kernel_rfl) ?_
  refine sn ?_
  refine sq ?_
  refine st_dec (i_2 < (↑s.size : Int)) (by kernel_rfl) (by kernel_rfl) (fun h_7 => ?_) (fun h_7 => ?_)
  refine st_skip (by kernel_rfl) ?_
  refine sn ?_
  refine sq ?_
  refine st_block 1 (by kernel_rfl) ?_
  refine sq ?_
  refine rg (A := True) cx [] [0, 12, 13, 4] [] trivial ?_
  refine sn ?_
  refine sq ?_
  have hl_8 := (rng_byt s)
  have hl_9 := (rng_byt s i_2.toNat)
  refine rg (A := ((0 : Int) ≤ i_2) ∧ (Option.map (fun b ↦ (↑b.toNat : Int)) s[i_2.toNat]? = some (byt s i_2.toNat))) cx [(2, { val := some (.i .u8 (byt s i_2.toNat)) })] [0, 12, 13, 4, 5] [] ⟨(by (with_reducible assumption)), (by (with_reducible refine get_byt ?_; omega))⟩ ?_
  refine sn ?_
  refine sq ?_
  refine sq ?_
  refine st_join (σ' := ⟨[(0, .s (s)), (12, .i .i64 ((↑s.size : Int))), (13, .i .i64 (i_2)), (4, .i .i64 (i_2)), (5, .i .u8 (byt s i_2.toNat)), (24, .b (decide (isLet (byt s i_2.toNat) = true ∨ isDig (byt s i_2.toNat) = true)))], []⟩) ?_ ?_
  refine st_split (isLet (byt s i_2.toNat) = true) (fun h_11 => ?_) (fun h_11 => ?_)
  refine rg (A := _ ∧ _ ∧ (AV.b true = AV.b (decide (isLet (byt s i_2.toNat) = true ∨ isDig (byt s i_2.toNat) = true)))) cx [(1, { val := some (.b (isLet (byt s i_2.toNat))), tell := some (.b (true)) }), (5, { tell := some (.b (decide (isLet (byt s i_2.toNat) = true ∨ isDig (byt s i_2.toNat) = true))) })] [0, 12, 13, 4, 5, 24] [] ⟨(told_eqt h_11), (con89 (byt s i_2.toNat)), (by simp only [eq_true h_11, told_simp1, told_simp2, and_true, true_and, and_false, false_and, or_true, true_or, or_false, false_or, not_true_eq_false, not_false_eq_true, decide_true, decide_false, Bool.decide_eq_true])⟩ ?_
  exact ⟨rfl, by kernel_rfl⟩
  refine rg (A := (AV.b (isLet (byt s i_2.toNat)) = AV.b false) ∧ _ ∧ _ ∧ (AV.b (isDig (byt s i_2.toNat)) = AV.b (decide (isLet (byt s i_2.toNat) = true ∨ isDig (byt s i_2.toNat) = true)))) cx [(1, { val := some (.b (isLet (byt s i_2.toNat))), tell := some (.b (false)) }), (4, { val := some (.b (isDig (byt s i_2.toNat))) }), (5, { tell := some (.b (decide (isLet (byt s i_2.toNat) = true ∨ isDig (byt s i_2.toNat) = true))) })] [0, 12, 13, 4, 5, 24] [] ⟨(told_eqn h_11), (con89 (byt s i_2.toNat)), (con90 (byt s i_2.toNat)), (by simp only [eq_false h_11, told_simp1, told_simp2, and_true, true_and, and_false, false_and, or_true, true_or, or_false, false_or, not_true_eq_false, not_false_eq_true, decide_true, decide_false, Bool.decide_eq_true])⟩ ?_
  exact ⟨rfl, by kernel_rfl⟩
  refine sn ?_
  refine st_dec (isLet (byt s i_2.toNat) = true ∨ isDig (byt s i_2.toNat) = true) (by kernel_rfl) (by kernel_rfl) (fun h_12 => ?_) (fun h_12 => ?_)
  refine st_exit 1 (by kernel_rfl) ?_
  refine q_seq_exit ?_
  refine q_blk_hit ?_
  refine sn ?_
  refine rg (A := (AV.i IntKind.i64 (IntKind.i64.wrap (i_2 + (1 : Int))) = AV.i IntKind.i64 (i_2 + (1 : Int)))) cx [(0, { tell := some (.i .i64 (i_2 + (1 : Int))) })] [0, 12, 13] [] (told_i64 (by omega) (by omega)) ?_
  refine sn ?_
  refine loop_next (i_2 + (1 : Int)) (by kernel_rfl) (show ((↑s.size : Int) - (i_2 + (1 : Int))).toNat < ((↑s.size : Int) - i_2).toNat from (by omega)) (show invG s (i_2 + (1 : Int)) from ?g3); rotate_left 1
  refine st_skip (by kernel_rfl) ?_
  refine sn ?_
  refine sq ?_
  refine st_join (σ' := ⟨[(0, .s (s)), (12, .i .i64 ((↑s.size : Int))), (13, .i .i64 (i_2)), (4, .i .i64 (i_2)), (45, .b (decide (¬isMrk (byt s i_2.toNat) = true ∨ i_2 = (0 : Int) ∨ i_2 = (↑s.size : Int) - (1 : Int) ∨ isMrk (byt s (i_2 - (1 : Int)).toNat) = true)))], []⟩) ?_ ?_
  refine st_split (¬isMrk (byt s i_2.toNat) = true) (fun h_14 => ?_) (fun h_14 => ?_)
  have hl_15 := (rng_byt s (i_2 - (1 : Int)).toNat)
  refine rg (A := (AV.b (isMrk (byt s i_2.toNat)) = AV.b false) ∧ _ ∧ (AV.b true = AV.b (decide (¬isMrk (byt s i_2.toNat) = true ∨ i_2 = (0 : Int) ∨ i_2 = (↑s.size : Int) - (1 : Int) ∨ isMrk (byt s (i_2 - (1 : Int)).toNat) = true)))) cx [(1, { val := some (.b (isMrk (byt s i_2.toNat))), tell := some (.b (false)) }), (20, { tell := some (.b (decide (¬isMrk (byt s i_2.toNat) = true ∨ i_2 = (0 : Int) ∨ i_2 = (↑s.size : Int) - (1 : Int) ∨ isMrk (byt s (i_2 - (1 : Int)).toNat) = true))) })] [0, 12, 13, 4, 45] [] ⟨(told_eqn h_14), (con91 (byt s i_2.toNat)), (by simp only [eq_false h_14, told_simp1, told_simp2, and_true, true_and, and_false, false_and, or_true, true_or, or_false, false_or, not_true_eq_false, not_false_eq_true, decide_true, decide_false, Bool.decide_eq_true])⟩ ?_
  exact ⟨rfl, by kernel_rfl⟩
  refine st_split (i_2 = (0 : Int)) (fun h_16 => ?_) (fun h_16 => ?_)
  have hl_17 := (rng_byt s (i_2 - (1 : Int)).toNat)
  refine rg (A := _ ∧ ((AV.b !isMrk (byt s i_2.toNat)) = AV.b (decide ¬isMrk (byt s i_2.toNat) = true)) ∧ _ ∧ _ ∧ (AV.b true = AV.b (decide (¬isMrk (byt s i_2.toNat) = true ∨ i_2 = (0 : Int) ∨ i_2 = (↑s.size : Int) - (1 : Int) ∨ isMrk (byt s (i_2 - (1 : Int)).toNat) = true)))) cx [(1, { val := some (.b (isMrk (byt s i_2.toNat))) }), (2, { tell := some (.b (decide ¬isMrk (byt s i_2.toNat) = true)) }), (3, { tell := some (.b (false)) }), (5, { tell := some (.b (true)) }), (20, { tell := some (.b (decide (¬isMrk (byt s i_2.toNat) = true ∨ i_2 = (0 : Int) ∨ i_2 = (↑s.size : Int) - (1 : Int) ∨ isMrk (byt s (i_2 - (1 : Int)).toNat) = true))) })] [0, 12, 13, 4, 45] [] ⟨(con91 (byt s i_2.toNat)), (told_not), (told_false h_14), (told_true h_16), (by simp only [eq_false h_14, eq_true h_16, told_simp1, told_simp2, and_true, true_and, and_false, false_and, or_true, true_or, or_false, false_or, not_true_eq_false, not_false_eq_true, decide_true, decide_false, Bool.decide_eq_true])⟩ ?_
  exact ⟨rfl, by kernel_rfl⟩
  refine st_split (i_2 = (↑s.size : Int) - (1 : Int)) (fun h_18 => ?_) (fun h_18 => ?_)
  have hl_19 := (rng_byt s (i_2 - (1 : Int)).toNat)
  refine rg (A := _ ∧ ((AV.b !isMrk (byt s i_2.toNat)) = AV.b (decide ¬isMrk (byt s i_2.toNat) = true)) ∧ _ ∧ _ ∧ (AV.i IntKind.i64 (IntKind.i64.wrap ((↑s.size : Int) - (1 : Int))) = AV.i IntKind.i64 ((↑s.size : Int) - (1 : Int))) ∧ _ ∧ (AV.b true = AV.b (decide (¬isMrk (byt s i_2.toNat) = true ∨ i_2 = (0 : Int) ∨ i_2 = (↑s.size : Int) - (1 : Int) ∨ isMrk (byt s (i_2 - (1 : Int)).toNat) = true)))) cx [(1, { val := some (.b (isMrk (byt s i_2.toNat))) }), (2, { tell := some (.b (decide ¬isMrk (byt s i_2.toNat) = true)) }), (3, { tell := some (.b (false)) }), (5, { tell := some (.b (false)) }), (11, { tell := some (.i .i64 ((↑s.size : Int) - (1 : Int))) }), (12, { tell := some (.b (true)) }), (20, { tell := some (.b (decide (¬isMrk (byt s i_2.toNat) = true ∨ i_2 = (0 : Int) ∨ i_2 = (↑s.size : Int) - (1 : Int) ∨ isMrk (byt s (i_2 - (1 : Int)).toNat) = true))) })] [0, 12, 13, 4, 45] [] ⟨(con91 (byt s i_2.toNat)), (told_not), (told_false h_14), (told_false h_16), (told_i64 (by omega) (by omega)), (told_true h_18), (by simp only [eq_false h_14, eq_false h_16, eq_true h_18, told_simp1, told_simp2, and_true, true_and, and_false, false_and, or_true, true_or, or_false, false_or, not_true_eq_false, not_false_eq_true, decide_true, decide_false, Bool.decide_eq_true])⟩ ?_
  exact ⟨rfl, by kernel_rfl⟩
  have hl_20 := (rng_byt s (i_2 - (1 : Int)).toNat)
  refine rg (A := _ ∧ ((AV.b !isMrk (byt s i_2.toNat)) = AV.b (decide ¬isMrk (byt s i_2.toNat) = true)) ∧ _ ∧ _ ∧ (AV.i IntKind.i64 (IntKind.i64.wrap ((↑s.size : Int) - (1 : Int))) = AV.i IntKind.i64 ((↑s.size : Int) - (1 : Int))) ∧ _ ∧ (AV.i IntKind.i64 (IntKind.i64.wrap (i_2 - (1 : Int))) = AV.i IntKind.i64 (i_2 - (1 : Int))) ∧ ((0 : Int) ≤ i_2 - (1 : Int)) ∧ (Option.map (fun b ↦ (↑b.toNat : Int)) s[(i_2 - (1 : Int)).toNat]? = some (byt s (i_2 - (1 : Int)).toNat)) ∧ _ ∧ (AV.b (isMrk (byt s (i_2 - (1 : Int)).toNat)) = AV.b (decide (¬isMrk (byt s i_2.toNat) = true ∨ i_2 = (0 : Int) ∨ i_2 = (↑s.size : Int) - (1 : Int) ∨ isMrk (byt s (i_2 - (1 : Int)).toNat) = true)))) cx [(1, { val := some (.b (isMrk (byt s i_2.toNat))) }), (2, { tell := some (.b (decide ¬isMrk (byt s i_2.toNat) = true)) }), (3, { tell := some (.b (false)) }), (5, { tell := some (.b (false)) }), (11, { tell := some (.i .i64 ((↑s.size : Int) - (1 : Int))) }), (12, { tell := some (.b (false)) }), (17, { tell := some (.i .i64 (i_2 - (1 : Int))) }), (18, { val := some (.i .u8 (byt s (i_2 - (1 : Int)).toNat)) }), (19, { val := some (.b (isMrk (byt s (i_2 - (1 : Int)).toNat))) }), (20, { tell := some (.b (decide (¬isMrk (byt s i_2.toNat) = true ∨ i_2 = (0 : Int) ∨ i_2 = (↑s.size : Int) - (1 : Int) ∨ isMrk (byt s (i_2 - (1 : Int)).toNat) = true))) })] [0, 12, 13, 4, 45] [] ⟨(con91 (byt s i_2.toNat)), (told_not), (told_false h_14), (told_false h_16), (told_i64 (by omega) (by omega)), (told_false h_18), (told_i64 (by omega) (by omega)), (by omega), (by (with_reducible refine get_byt ?_; omega)), (con91 (byt s (i_2 - (1 : Int)).toNat)), (by simp only [eq_false h_14, eq_false h_16, eq_false h_18, told_simp1, told_simp2, and_true, true_and, and_false, false_and, or_true, true_or, or_false, false_or, not_true_eq_false, not_false_eq_true, decide_true, decide_false, Bool.decide_eq_true])⟩ ?_
  exact ⟨rfl, by kernel_rfl⟩
  refine sn ?_
  refine st_dec (¬isMrk (byt s i_2.toNat) = true ∨ i_2 = (0 : Int) ∨ i_2 = (↑s.size : Int) - (1 : Int) ∨ isMrk (byt s (i_2 - (1 : Int)).toNat) = true) (by kernel_rfl) (by kernel_rfl) (fun h_21 => ?_) (fun h_21 => ?_)
  refine sq ?_
  refine rg (A := True) cx [] [2, 3] [] trivial ?_
  refine sn ?_
  refine st_ret (by kernel_rfl) ?_
  refine q_blk_ret ?_
  refine q_seq_ret ?_
  refine q_seq_ret ?_
  refine q_blk_ret ?_
  refine q_seq_ret ?_
  refine q_ret (r := .tup [.i .i64 (i_2), .i .i64 ((22 : Int))]) (obl := []) (by kernel_rfl) trivial (AVle.tup (ZLe.cons AVle.dead (ZLe.cons (AVle.eq (show AV.i IntKind.i64 (22 : Int) = AV.i IntKind.i64 (chkE s) from ?g4)) ZLe.nil))); rotate_left 1
  refine st_skip (by kernel_rfl) ?_
  refine q_blk_normal ?_
  refine sn ?_
  refine rg (A := (AV.i IntKind.i64 (IntKind.i64.wrap (i_2 + (1 : Int))) = AV.i IntKind.i64 (i_2 + (1 : Int)))) cx [(0, { tell := some (.i .i64 (i_2 + (1 : Int))) })] [0, 12, 13] [] (told_i64 (by omega) (by omega)) ?_
  refine sn ?_
  refine loop_next (i_2 + (1 : Int)) (by kernel_rfl) (show ((↑s.size : Int) - (i_2 + (1 : Int))).toNat < ((↑s.size : Int) - i_2).toNat from (by omega)) (show invG s (i_2 + (1 : Int)) from ?g5); rotate_left 1
  refine st_exit 0 (by kernel_rfl) ?_
  refine q_seq_exit ?_
  refine q_seq_exit ?_
  refine q_blk_hit ?_
  refine sn ?_
  refine sq ?_
  refine rg (A := True) cx [] [2, 3] [] trivial ?_
  refine sn ?_
  refine st_ret (by kernel_rfl) ?_
  refine q_ret (r := .tup [.i .i64 ((0 : Int)), .i .i64 ((0 : Int))]) (obl := []) (by kernel_rfl) trivial (AVle.tup (ZLe.cons AVle.dead (ZLe.cons (AVle.eq (show AV.i IntKind.i64 (0 : Int) = AV.i IntKind.i64 (chkE s) from ?g6)) ZLe.nil))); rotate_left 1
  revert h_0; rotate_left
  revert h_0 h_1; rotate_left
  revert h_0 h_1; rotate_left
  clear hl_9; revert h_0 h_1 i_2 h_4 h_5 h_6 h_7 h_12; rotate_left
  clear hl_9; revert h_0 h_1 i_2 h_4 h_5 h_6 h_7 h_12 h_21; rotate_left
  clear hl_9; revert h_0 h_1 i_2 h_4 h_5 h_6 h_7 h_12 h_21; rotate_left
  revert h_0 h_1 i_2 h_4 h_5 h_6 h_7; rotate_left
  case g2 => exact (fun h k => ⟨by omega, by omega, fun j hj => by omega⟩)
  case' g6 => refine (fun h k i h0 h1 h2 h3 => ?_)
  case' g5 => refine (fun h k i h0 h1 h2 h3 h4 h5 => ?_)
  case' g4 => refine (fun h k i h0 h1 h2 h3 h4 h5 => ?_)
  case' g3 => refine (fun h k i h0 h1 h2 h3 h4 => ?_)
  case' g1 => refine (fun h k => ?_)
  case' g0 => refine (fun h => ?_)
  · rw [chkE, if_pos ((size_zero s).2 h)]
  · rw [chkE, if_neg (fun e => h ((size_zero s).1 e)), if_pos (by omega)]
  · exact invG_step h0 h3 h2 ((stands_iff _ _).2 (h4.elim .inl fun h => .inr (.inl h)))
  · rw [chkE_bad (fun e => h ((size_zero s).1 e)) (by omega) (i := i.toNat) (by omega) (not_stands _)]
    have e : (i - 1).toNat = i.toNat - 1 := by omega
    rw [e] at h5
    rw [stands_iff]; rintro (a | a | a)
    · exact h4 (.inl a)
    · exact h4 (.inr a)
    · rcases h5 with h5 | h5 | h5 | h5
      · exact h5 a.1
      · omega
      · omega
      · exact a.2.2.2 h5
  · have e : (i - 1).toNat = i.toNat - 1 := by omega
    rw [e] at h5
    refine invG_step h0 h3 h2 ((stands_iff _ _).2 (.inr (.inr ⟨Classical.byContradiction fun a => h5 (.inl a), ?_, ?_, fun a => h5 (.inr (.inr (.inr a)))⟩)))
    · intro a; exact h5 (.inr (.inl (by omega)))
    · intro a; exact h5 (.inr (.inr (.inl (by omega))))
  · rw [chkE_ok (fun e => h ((size_zero s).1 e)) (by omega) fun j hj => h2 j (by omega)]
theorem con71 (s : ByteArray) : Con Try.prog 71 [.s s] (.tup [.dead, .i .i64 (chkE s)]) :=
  by
  refine st_con tab_ok (by kernel_rfl) [.tmp 2, .tmp 3] 22 Go.Proofs.Try.func71 (by kernel_rfl) (by kernel_rfl) ?_
  intro e0 cx
  refine sq ?_
  refine rg (A := True) cx [] [0] [] trivial ?_
  refine sn ?_
  refine sq ?_
  refine sq ?_
  refine rg (A := (AV.b ((↑s.size : Int) == (0 : Int)) = AV.b (decide ((↑s.size : Int) = (0 : Int))))) cx [(2, { tell := some (.b (decide ((↑s.size : Int) = (0 : Int)))) })] [0, 7] [] (by kernel_rfl) ?_
  refine sn ?_
  refine st_dec ((↑s.size : Int) = (0 : Int)) (by kernel_rfl) (by kernel_rfl) (fun h_0 => ?_) (fun h_0 => ?_)
  refine sq ?_
  refine rg (A := True) cx [] [2, 3] [] trivial ?_
  refine sn ?_
  refine st_ret (by kernel_rfl) ?_
  refine q_seq_ret ?_
  refine q_ret (r := .tup [.i .i64 ((0 : Int)), .i .i64 ((20 : Int))]) (obl := []) (by kernel_rfl) trivial (AVle.tup (ZLe.cons AVle.dead (ZLe.cons (AVle.eq (show AV.i IntKind.i64 (20 : Int) = AV.i IntKind.i64 (chkE s) from ?g0)) ZLe.nil))); rotate_left 1
  refine st_skip (by kernel_rfl) ?_
  refine sn ?_
  refine sq ?_
  refine sq ?_
  refine rg (A := (AV.b (decide ((↑s.size : Int) > (24 : Int))) = AV.b (decide ((24 : Int) < (↑s.size : Int))))) cx [(2, { tell := some (.b (decide ((24 : Int) < (↑s.size : Int)))) })] [0, 10] [] (by kernel_rfl) ?_
  refine sn ?_
  refine st_dec ((24 : Int) < (↑s.size : Int)) (by kernel_rfl) (by kernel_rfl) (fun h_1 => ?_) (fun h_1 => ?_)
  refine sq ?_
  refine rg (A := True) cx [] [2, 3] [] trivial ?_
  refine sn ?_
  refine st_ret (by kernel_rfl) ?_
  refine q_seq_ret ?_
  refine q_ret (r := .tup [.i .i64 ((0 : Int)), .i .i64 ((21 : Int))]) (obl := []) (by kernel_rfl) trivial (AVle.tup (ZLe.cons AVle.dead (ZLe.cons (AVle.eq (show AV.i IntKind.i64 (21 : Int) = AV.i IntKind.i64 (chkE s) from ?g1)) ZLe.nil))); rotate_left 1
  refine st_skip (by kernel_rfl) ?_
  refine sn ?_
  refine sq ?_
  refine sq ?_
  refine rg (A := True) cx [] [0, 4] [] trivial ?_
  refine sn ?_
  refine st_block 0 (by kernel_rfl) ?_
  refine st_loop (X := Int) (fun x => ⟨[(0, .s (s)), (4, .i .i64 (x))], []⟩) (fun x ↦ decG s x) (fun x ↦ invG s x) [0, 4] [] ((0 : Int)) (by kernel_rfl) (by kernel_rfl) (show invG s (0 : Int) from ?g2) ?_; rotate_left 1
  intro i_2 h_3
  obtain ⟨h_4, h_5, h_6⟩ : (0 : Int) ≤ i_2 ∧ i_2 ≤ (↑s.size : Int) ∧ ∀ (j : Nat), (↑j : Int) < i_2 → standsB s j = true := h_3
  refine sq ?_
  refine sq ?_
  refine rg (A := (AV.b (decide (i_2 < (↑s.size : Int))) = AV.b (decide (i_2 < (↑s.size : Int))))) cx [(3, { tell := some (.b (decide (i_2 < (↑s.size : Int)))) })] [0, 4, 14] [] (by kernel_rfl) ?_
  refine sn ?_
  refine st_dec (i_2 < (↑s.size : Int)) (by kernel_rfl) (by kernel_rfl) (fun h_7 => ?_) (fun h_7 => ?_)
  refine st_skip (by kernel_rfl) ?_
  refine sn ?_
  refine sq ?_
  refine st_block 1 (by kernel_rfl) ?_
  refine sq ?_
  refine rg (A := _ ∧ ((AV.b !standsB s i_2.toNat) = AV.b (decide ¬standsB s i_2.toNat = true))) cx [(2, { val := some (.b (standsB s i_2.toNat)) }), (3, { tell := some (.b (decide ¬standsB s i_2.toNat = true)) })] [0, 4, 20] [] ⟨(con92 (s) (i_2) (by (with_reducible assumption)) (by (with_reducible assumption)) (by omega)), (told_not)⟩ ?_
  refine sn ?_
  refine st_dec (¬standsB s i_2.toNat = true) (by kernel_rfl) (by kernel_rfl) (fun h_8 => ?_) (fun h_8 => ?_)
  refine sq ?_
  refine rg (A := True) cx [] [2, 3] [] trivial ?_
  refine sn ?_
  refine st_ret (by kernel_rfl) ?_
  refine q_blk_ret ?_
  refine q_seq_ret ?_
  refine q_seq_ret ?_
  refine q_blk_ret ?_
  refine q_seq_ret ?_
  refine q_ret (r := .tup [.i .i64 (i_2), .i .i64 ((22 : Int))]) (obl := []) (by kernel_rfl) trivial (AVle.tup (ZLe.cons AVle.dead (ZLe.cons (AVle.eq (show AV.i IntKind.i64 (22 : Int) = AV.i IntKind.i64 (chkE s) from ?g3)) ZLe.nil))); rotate_left 1
  refine st_skip (by kernel_rfl) ?_
  refine q_blk_normal ?_
  refine sn ?_
  refine rg (A := (AV.i IntKind.i64 (IntKind.i64.wrap (i_2 + (1 : Int))) = AV.i IntKind.i64 (i_2 + (1 : Int)))) cx [(1, { tell := some (.i .i64 (i_2 + (1 : Int))) })] [0, 4] [] (told_i64 (by omega) (by omega)) ?_
  refine sn ?_
  refine loop_next (i_2 + (1 : Int)) (by kernel_rfl) (show ((↑s.size : Int) - (i_2 + (1 : Int))).toNat < ((↑s.size : Int) - i_2).toNat from (by omega)) (show invG s (i_2 + (1 : Int)) from ?g4); rotate_left 1
  refine st_exit 0 (by kernel_rfl) ?_
  refine q_seq_exit ?_
  refine q_seq_exit ?_
  refine q_blk_hit ?_
  refine sn ?_
  refine sq ?_
  refine rg (A := True) cx [] [2, 3] [] trivial ?_
  refine sn ?_
  refine st_ret (by kernel_rfl) ?_
  refine q_ret (r := .tup [.i .i64 ((0 : Int)), .i .i64 ((0 : Int))]) (obl := []) (by kernel_rfl) trivial (AVle.tup (ZLe.cons AVle.dead (ZLe.cons (AVle.eq (show AV.i IntKind.i64 (0 : Int) = AV.i IntKind.i64 (chkE s) from ?g5)) ZLe.nil))); rotate_left 1
  revert h_0; rotate_left
  revert h_0 h_1; rotate_left
  revert h_0 h_1; rotate_left
  revert h_0 h_1 i_2 h_4 h_5 h_6 h_7 h_8; rotate_left
  revert h_0 h_1 i_2 h_4 h_5 h_6 h_7 h_8; rotate_left
  revert h_0 h_1 i_2 h_4 h_5 h_6 h_7; rotate_left
  case g2 => exact (fun h k => ⟨by omega, by omega, fun j hj => by omega⟩)
  case' g5 => refine (fun h k i h0 h1 h2 h3 => ?_)
  case' g4 => refine (fun h k i h0 h1 h2 h3 h4 => ?_)
  case' g3 => refine (fun h k i h0 h1 h2 h3 h4 => ?_)
  case' g1 => refine (fun h k => ?_)
  case' g0 => refine (fun h => ?_)
  · rw [chkE, if_pos (by omega)]
  · rw [chkE, if_neg (by omega), if_pos (by omega)]
  · rw [chkE_bad (by omega) (by omega) (i := i.toNat) (by omega) (not_stands h4)]
  · exact invG_step h0 h3 h2 (Classical.not_not.1 h4)
  · rw [chkE_ok (by omega) (by omega) fun j hj => h2 j (by omega)]
theorem con47 (s : ByteArray) : Con Try.prog 47 [.s s] (.b (good s)) :=
  by
  refine st_con tab_ok (by kernel_rfl) [.tmp 2] 12 Go.Proofs.Try.func47 (by kernel_rfl) (by kernel_rfl) ?_
  intro e0 cx
  refine sq ?_
  refine rg (A := True) cx [] [0] [] trivial ?_
  refine sn ?_
  refine sq ?_
  refine rg (A := _) cx [(1, { val := some (resC (con70 (s))) })] [4] [] (con70 (s)) ?_
  refine sn ?_
  refine sq ?_
  refine rg (A := (AV.b (chkE s == (0 : Int)) = AV.b (decide (chkE s = (0 : Int))))) cx [(1, { tell := some (.b (decide (chkE s = (0 : Int)))) })] [2] [] (by kernel_rfl) ?_
  refine sn ?_
  refine st_ret (by kernel_rfl) ?_
  refine q_ret (r := .b (decide (chkE s = (0 : Int)))) (obl := []) (by kernel_rfl) trivial (AVle.eq (show AV.b (decide (chkE s = (0 : Int))) = AV.b (good s) from ?g0)); rotate_left 1
  case g0 => exact rfl
theorem con50 (s : ByteArray) : Con Try.prog 50 [.s s] (.b (good s)) :=
  by
  refine st_con tab_ok (by kernel_rfl) [.tmp 2] 12 Go.Proofs.Try.func50 (by kernel_rfl) (by kernel_rfl) ?_
  intro e0 cx
  refine sq ?_
  refine rg (A := True) cx [] [0] [] trivial ?_
  refine sn ?_
  refine sq ?_
  refine rg (A := _) cx [(1, { val := some (resC (con71 (s))) })] [4] [] (con71 (s)) ?_
  refine sn ?_
  refine sq ?_
  refine rg (A := (AV.b (chkE s == (0 : Int)) = AV.b (decide (chkE s = (0 : Int))))) cx [(1, { tell := some (.b (decide (chkE s = (0 : Int)))) })] [2] [] (by kernel_rfl) ?_
  refine sn ?_
  refine st_ret (by kernel_rfl) ?_
  refine q_ret (r := .b (decide (chkE s = (0 : Int)))) (obl := []) (by kernel_rfl) trivial (AVle.eq (show AV.b (decide (chkE s = (0 : Int))) = AV.b (good s) from ?g0)); rotate_left 1
  case g0 => exact rfl
end Go.Proofs.Ytjngmlkaijpbgaa
namespace Go.Proofs.Ytjngmlkaijpbgaa
open Go.E
set_option maxRecDepth 100000
set_option maxHeartbeats 4000000
def dLt (a b : Dot) : Bool := decide (a.rep < b.rep ∨ a.rep = b.rep ∧ a.num < b.num)
def entE (e : Entry) : Int := if e.dot.rep < 0 ∨ 16 ≤ e.dot.rep then 3 else if e.dot.num < 1 ∨ 1000000000 < e.dot.num then 2 else if good e.sku = false then 5 else if e.qty < 1 ∨ 1000000 < e.qty then 6 else 0
def okAt (es : List Entry) (i : Nat) : Bool := decide (entE es[i]! = 0) && (decide (i = 0) || dLt es[i - 1]!.dot es[i]!.dot)
def okL (es : List Entry) : Bool := allUp (okAt es) es.length
def lstE (es : List Entry) : Int := if okL es = true then 0 else 1
def invL (es : List Entry) (i : Int) : Prop := 0 ≤ i ∧ i ≤ es.length ∧ ∀ j : Nat, (j : Int) < i → okAt es j = true
def decL (es : List Entry) (i : Int) : Nat := (es.length - i).toNat
theorem lstE_bad {es : List Entry} {i : Nat} (hi : i < es.length) (h : okAt es i = false) : lstE es = 1 := by
  unfold lstE okL
  rw [if_neg]
  intro k
  have := (allUp_iff _ _).1 k i hi
  rw [h] at this; cases this
theorem lstE_ok {es : List Entry} (h : ∀ j : Nat, j < es.length → okAt es j = true) : lstE es = 0 := by
  unfold lstE okL
  rw [if_pos ((allUp_iff _ _).2 h)]
def inv30i {α : Type} (es : List α) (i : Int) : Prop := 0 ≤ i ∧ i ≤ es.length
def dec30i {α : Type} (es : List α) (i : Int) : Nat := (es.length - i).toNat
theorem okAt_iff (es : List Entry) (i : Nat) : okAt es i = true ↔ entE es[i]! = 0 ∧ (i = 0 ∨ dLt es[i - 1]!.dot es[i]!.dot = true) := by
  unfold okAt
  rw [Bool.and_eq_true, Bool.or_eq_true, decide_eq_true_iff, decide_eq_true_iff]
theorem invL_step {es : List Entry} {i : Int} (h0 : 0 ≤ i) (h1 : i < es.length) (h2 : ∀ j : Nat, (j : Int) < i → okAt es j = true) (h : okAt es i.toNat = true) : invL es (i + 1) :=
  ⟨by omega, by omega, fun j hj => by
    by_cases e : j = i.toNat
    · rw [e]; exact h
    · exact h2 j (by omega)⟩
theorem not_okAt {es : List Entry} {i : Nat} (h : ¬ okAt es i = true) : okAt es i = false := by simpa using h
theorem con15 (rep num : Int) (sku : ByteArray) (qty : Int) : Con Try.prog 15 [.i .i64 rep, .i .i64 num, .s sku, .i .i64 qty] (.agg (c28 ⟨⟨rep, num⟩, sku, qty⟩)) :=
  by
  refine st_con tab_ok (by kernel_rfl) [.cell 8 28] 15 Go.Proofs.Try.func15 (by kernel_rfl) (by kernel_rfl) ?_
  intro e0 cx
  refine sq ?_
  refine rg (A := True) cx [] [0, 1, 2, 3, 8] [8] trivial ?_
  refine sn ?_
  refine sq ?_
  refine rg (A := True) cx [] [8] [8] trivial ?_
  refine sn ?_
  refine st_ret (by kernel_rfl) ?_
  refine q_ret (r := .agg [.i .i64 (rep), .i .i64 (num), .s (sku), .i .i64 (qty)]) (obl := []) (by kernel_rfl) trivial (AVle.eq (show AV.agg [AV.i IntKind.i64 rep, AV.i IntKind.i64 num, AV.s sku, AV.i IntKind.i64 qty] = AV.agg (c28 { dot := { rep := rep, num := num : Dot }, sku := sku, qty := qty : Entry }) from ?g0)); rotate_left 1
  case g0 => exact rfl
theorem con14 (e : Entry) : Con Try.prog 14 [.agg (c28 e)] (.i .i64 (entE e)) :=
  by
  refine st_con tab_ok (by kernel_rfl) [.tmp 2] 39 Go.Proofs.Try.func14 (by kernel_rfl) (by kernel_rfl) ?_
  intro e0 cx
  refine sq ?_
  refine rg (A := True) cx [] [1] [1] trivial ?_
  refine sn ?_
  refine sq ?_
  refine st_block 0 (by kernel_rfl) ?_
  refine sq ?_
  refine st_join (σ' := ⟨[(1, .ptr (1) (0) (0) (0)), (3, .b (decide (e.dot.rep < (0 : Int) ∨ (16 : Int) ≤ e.dot.rep)))], [(1, ⟨0, 28, .var [.i .i64 (e.dot.rep), .i .i64 (e.dot.num), .s (e.sku), .i .i64 (e.qty)]⟩)]⟩) ?_ ?_
  refine st_split (e.dot.rep < (0 : Int)) (fun h_1 => ?_) (fun h_1 => ?_)
  refine rg (A := _ ∧ (AV.b true = AV.b (decide (e.dot.rep < (0 : Int) ∨ (16 : Int) ≤ e.dot.rep)))) cx [(3, { tell := some (.b (true)) }), (10, { tell := some (.b (decide (e.dot.rep < (0 : Int) ∨ (16 : Int) ≤ e.dot.rep))) })] [1, 3] [1] ⟨(told_true h_1), (by simp only [eq_true h_1, told_simp1, told_simp2, and_true, true_and, and_false, false_and, or_true, true_or, or_false, false_or, not_true_eq_false, not_false_eq_true, decide_true, decide_false, Bool.decide_eq_true])⟩ ?_
  exact ⟨rfl, by kernel_rfl⟩
  refine rg (A := _ ∧ (AV.b (decide (e.dot.rep ≥ (16 : Int))) = AV.b (decide ((16 : Int) ≤ e.dot.rep))) ∧ (AV.b (decide ((16 : Int) ≤ e.dot.rep)) = AV.b (decide (e.dot.rep < (0 : Int) ∨ (16 : Int) ≤ e.dot.rep)))) cx [(3, { tell := some (.b (false)) }), (8, { tell := some (.b (decide ((16 : Int) ≤ e.dot.rep))) }), (10, { tell := some (.b (decide (e.dot.rep < (0 : Int) ∨ (16 : Int) ≤ e.dot.rep))) })] [1, 3] [1] ⟨(told_false h_1), (by kernel_rfl), (by simp only [eq_false h_1, told_simp1, told_simp2, and_true, true_and, and_false, false_and, or_true, true_or, or_false, false_or, not_true_eq_false, not_false_eq_true, decide_true, decide_false, Bool.decide_eq_true])⟩ ?_
  exact ⟨rfl, by kernel_rfl⟩
  refine sn ?_
  refine st_dec (e.dot.rep < (0 : Int) ∨ (16 : Int) ≤ e.dot.rep) (by kernel_rfl) (by kernel_rfl) (fun h_2 => ?_) (fun h_2 => ?_)
  refine sq ?_
  refine rg (A := True) cx [] [2] [] trivial ?_
  refine sn ?_
  refine st_ret (by kernel_rfl) ?_
  refine q_blk_ret ?_
  refine q_seq_ret ?_
  refine q_ret (r := .i .i64 ((3 : Int))) (obl := []) (by kernel_rfl) trivial (AVle.eq (show AV.i IntKind.i64 (3 : Int) = AV.i IntKind.i64 (entE e) from ?g0)); rotate_left 1
  refine sq ?_
  refine st_join (σ' := ⟨[(1, .ptr (1) (0) (0) (0)), (14, .b (decide (e.dot.num < (1 : Int) ∨ (1000000000 : Int) < e.dot.num)))], [(1, ⟨0, 28, .var [.i .i64 (e.dot.rep), .i .i64 (e.dot.num), .s (e.sku), .i .i64 (e.qty)]⟩)]⟩) ?_ ?_
  refine st_split (e.dot.num < (1 : Int)) (fun h_4 => ?_) (fun h_4 => ?_)
  refine rg (A := _ ∧ (AV.b true = AV.b (decide (e.dot.num < (1 : Int) ∨ (1000000000 : Int) < e.dot.num)))) cx [(3, { tell := some (.b (true)) }), (10, { tell := some (.b (decide (e.dot.num < (1 : Int) ∨ (1000000000 : Int) < e.dot.num))) })] [1, 14] [1] ⟨(told_true h_4), (by simp only [eq_true h_4, told_simp1, told_simp2, and_true, true_and, and_false, false_and, or_true, true_or, or_false, false_or, not_true_eq_false, not_false_eq_true, decide_true, decide_false, Bool.decide_eq_true])⟩ ?_
  exact ⟨rfl, by kernel_rfl⟩
  refine rg (A := _ ∧ (AV.b (decide (e.dot.num > (1000000000 : Int))) = AV.b (decide ((1000000000 : Int) < e.dot.num))) ∧ (AV.b (decide ((1000000000 : Int) < e.dot.num)) = AV.b (decide (e.dot.num < (1 : Int) ∨ (1000000000 : Int) < e.dot.num)))) cx [(3, { tell := some (.b (false)) }), (8, { tell := some (.b (decide ((1000000000 : Int) < e.dot.num))) }), (10, { tell := some (.b (decide (e.dot.num < (1 : Int) ∨ (1000000000 : Int) < e.dot.num))) })] [1, 14] [1] ⟨(told_false h_4), (by kernel_rfl), (by simp only [eq_false h_4, told_simp1, told_simp2, and_true, true_and, and_false, false_and, or_true, true_or, or_false, false_or, not_true_eq_false, not_false_eq_true, decide_true, decide_false, Bool.decide_eq_true])⟩ ?_
  exact ⟨rfl, by kernel_rfl⟩
  refine sn ?_
  refine st_dec (e.dot.num < (1 : Int) ∨ (1000000000 : Int) < e.dot.num) (by kernel_rfl) (by kernel_rfl) (fun h_5 => ?_) (fun h_5 => ?_)
  refine sq ?_
  refine rg (A := True) cx [] [2] [] trivial ?_
  refine sn ?_
  refine st_ret (by kernel_rfl) ?_
  refine q_blk_ret ?_
  refine q_seq_ret ?_
  refine q_ret (r := .i .i64 ((2 : Int))) (obl := []) (by kernel_rfl) trivial (AVle.eq (show AV.i IntKind.i64 (2 : Int) = AV.i IntKind.i64 (entE e) from ?g1)); rotate_left 1
  refine sq ?_
  refine rg (A := _ ∧ ((AV.b !good e.sku) = AV.b (decide ¬good e.sku = true))) cx [(2, { val := some (.b (good e.sku)) }), (3, { tell := some (.b (decide ¬good e.sku = true)) })] [1, 25] [1] ⟨(con47 (e.sku)), (told_not)⟩ ?_
  refine sn ?_
  refine st_dec (¬good e.sku = true) (by kernel_rfl) (by kernel_rfl) (fun h_6 => ?_) (fun h_6 => ?_)
  refine sq ?_
  refine rg (A := True) cx [] [2] [] trivial ?_
  refine sn ?_
  refine st_ret (by kernel_rfl) ?_
  refine q_blk_ret ?_
  refine q_seq_ret ?_
  refine q_ret (r := .i .i64 ((5 : Int))) (obl := []) (by kernel_rfl) trivial (AVle.eq (show AV.i IntKind.i64 (5 : Int) = AV.i IntKind.i64 (entE e) from ?g2)); rotate_left 1
  refine sq ?_
  refine st_join (σ' := ⟨[(30, .b (decide (e.qty < (1 : Int) ∨ (1000000 : Int) < e.qty)))], []⟩) ?_ ?_
  refine st_split (e.qty < (1 : Int)) (fun h_8 => ?_) (fun h_8 => ?_)
  refine rg (A := _ ∧ (AV.b true = AV.b (decide (e.qty < (1 : Int) ∨ (1000000 : Int) < e.qty)))) cx [(2, { tell := some (.b (true)) }), (8, { tell := some (.b (decide (e.qty < (1 : Int) ∨ (1000000 : Int) < e.qty))) })] [30] [] ⟨(told_true h_8), (by simp only [eq_true h_8, told_simp1, told_simp2, and_true, true_and, and_false, false_and, or_true, true_or, or_false, false_or, not_true_eq_false, not_false_eq_true, decide_true, decide_false, Bool.decide_eq_true])⟩ ?_
  exact ⟨rfl, by kernel_rfl⟩
  refine rg (A := _ ∧ (AV.b (decide (e.qty > (1000000 : Int))) = AV.b (decide ((1000000 : Int) < e.qty))) ∧ (AV.b (decide ((1000000 : Int) < e.qty)) = AV.b (decide (e.qty < (1 : Int) ∨ (1000000 : Int) < e.qty)))) cx [(2, { tell := some (.b (false)) }), (6, { tell := some (.b (decide ((1000000 : Int) < e.qty))) }), (8, { tell := some (.b (decide (e.qty < (1 : Int) ∨ (1000000 : Int) < e.qty))) })] [30] [] ⟨(told_false h_8), (by kernel_rfl), (by simp only [eq_false h_8, told_simp1, told_simp2, and_true, true_and, and_false, false_and, or_true, true_or, or_false, false_or, not_true_eq_false, not_false_eq_true, decide_true, decide_false, Bool.decide_eq_true])⟩ ?_
  exact ⟨rfl, by kernel_rfl⟩
  refine sn ?_
  refine st_dec (e.qty < (1 : Int) ∨ (1000000 : Int) < e.qty) (by kernel_rfl) (by kernel_rfl) (fun h_9 => ?_) (fun h_9 => ?_)
  refine sq ?_
  refine rg (A := True) cx [] [2] [] trivial ?_
  refine sn ?_
  refine st_ret (by kernel_rfl) ?_
  refine q_blk_ret ?_
  refine q_seq_ret ?_
  refine q_ret (r := .i .i64 ((6 : Int))) (obl := []) (by kernel_rfl) trivial (AVle.eq (show AV.i IntKind.i64 (6 : Int) = AV.i IntKind.i64 (entE e) from ?g3)); rotate_left 1
  refine st_skip (by kernel_rfl) ?_
  refine q_blk_normal ?_
  refine sn ?_
  refine sq ?_
  refine rg (A := True) cx [] [2] [] trivial ?_
  refine sn ?_
  refine st_ret (by kernel_rfl) ?_
  refine q_ret (r := .i .i64 ((0 : Int))) (obl := []) (by kernel_rfl) trivial (AVle.eq (show AV.i IntKind.i64 (0 : Int) = AV.i IntKind.i64 (entE e) from ?g4)); rotate_left 1
  revert h_2; rotate_left
  revert h_2 h_5; rotate_left
  revert h_2 h_5 h_6; rotate_left
  revert h_2 h_5 h_6 h_9; rotate_left
  revert h_2 h_5 h_6 h_9; rotate_left
  case' g4 => refine (fun h k l m => ?_)
  case' g3 => refine (fun h k l m => ?_)
  case' g2 => refine (fun h k l => ?_)
  case' g1 => refine (fun h k => ?_)
  case' g0 => refine (fun h => ?_)
  all_goals (unfold entE)
  · rw [if_pos h]
  · rw [if_neg h, if_pos k]
  · rw [if_neg h, if_neg k, if_pos (by simpa using l)]
  · rw [if_neg h, if_neg k, if_neg (by simpa using l), if_pos m]
  · rw [if_neg h, if_neg k, if_neg (by simpa using l), if_neg m]
theorem con19 (e : Entry) : Con Try.prog 19 [.agg (c28 e)] (.i .i64 (entE e)) :=
  by
  refine st_con tab_ok (by kernel_rfl) [.tmp 2] 39 Go.Proofs.Try.func19 (by kernel_rfl) (by kernel_rfl) ?_
  intro e0 cx
  refine sq ?_
  refine rg (A := True) cx [] [1] [1] trivial ?_
  refine sn ?_
  refine sq ?_
  refine st_block 0 (by kernel_rfl) ?_
  refine sq ?_
  refine st_join (σ' := ⟨[(1, .ptr (1) (0) (0) (0)), (3, .b (decide (e.dot.rep < (0 : Int) ∨ (16 : Int) ≤ e.dot.rep)))], [(1, ⟨0, 28, .var [.i .i64 (e.dot.rep), .i .i64 (e.dot.num), .s (e.sku), .i .i64 (e.qty)]⟩)]⟩) ?_ ?_
  refine st_split (e.dot.rep < (0 : Int)) (fun h_1 => ?_) (fun h_1 => ?_)
  refine rg (A := _ ∧ (AV.b true = AV.b (decide (e.dot.rep < (0 : Int) ∨ (16 : Int) ≤ e.dot.rep)))) cx [(3, { tell := some (.b (true)) }), (10, { tell := some (.b (decide (e.dot.rep < (0 : Int) ∨ (16 : Int) ≤ e.dot.rep))) })] [1, 3] [1] ⟨(told_true h_1), (by simp only [eq_true h_1, told_simp1, told_simp2, and_true, true_and, and_false, false_and, or_true, true_or, or_false, false_or, not_true_eq_false, not_false_eq_true, decide_true, decide_false, Bool.decide_eq_true])⟩ ?_
  exact ⟨rfl, by kernel_rfl⟩
  refine rg (A := _ ∧ (AV.b (decide (e.dot.rep ≥ (16 : Int))) = AV.b (decide ((16 : Int) ≤ e.dot.rep))) ∧ (AV.b (decide ((16 : Int) ≤ e.dot.rep)) = AV.b (decide (e.dot.rep < (0 : Int) ∨ (16 : Int) ≤ e.dot.rep)))) cx [(3, { tell := some (.b (false)) }), (8, { tell := some (.b (decide ((16 : Int) ≤ e.dot.rep))) }), (10, { tell := some (.b (decide (e.dot.rep < (0 : Int) ∨ (16 : Int) ≤ e.dot.rep))) })] [1, 3] [1] ⟨(told_false h_1), (by kernel_rfl), (by simp only [eq_false h_1, told_simp1, told_simp2, and_true, true_and, and_false, false_and, or_true, true_or, or_false, false_or, not_true_eq_false, not_false_eq_true, decide_true, decide_false, Bool.decide_eq_true])⟩ ?_
  exact ⟨rfl, by kernel_rfl⟩
  refine sn ?_
  refine st_dec (e.dot.rep < (0 : Int) ∨ (16 : Int) ≤ e.dot.rep) (by kernel_rfl) (by kernel_rfl) (fun h_2 => ?_) (fun h_2 => ?_)
  refine sq ?_
  refine rg (A := True) cx [] [2] [] trivial ?_
  refine sn ?_
  refine st_ret (by kernel_rfl) ?_
  refine q_blk_ret ?_
  refine q_seq_ret ?_
  refine q_ret (r := .i .i64 ((3 : Int))) (obl := []) (by kernel_rfl) trivial (AVle.eq (show AV.i IntKind.i64 (3 : Int) = AV.i IntKind.i64 (entE e) from ?g0)); rotate_left 1
  refine sq ?_
  refine st_join (σ' := ⟨[(1, .ptr (1) (0) (0) (0)), (14, .b (decide (e.dot.num < (1 : Int) ∨ (1000000000 : Int) < e.dot.num)))], [(1, ⟨0, 28, .var [.i .i64 (e.dot.rep), .i .i64 (e.dot.num), .s (e.sku), .i .i64 (e.qty)]⟩)]⟩) ?_ ?_
  refine st_split (e.dot.num < (1 : Int)) (fun h_4 => ?_) (fun h_4 => ?_)
  refine rg (A := _ ∧ (AV.b true = AV.b (decide (e.dot.num < (1 : Int) ∨ (1000000000 : Int) < e.dot.num)))) cx [(3, { tell := some (.b (true)) }), (10, { tell := some (.b (decide (e.dot.num < (1 : Int) ∨ (1000000000 : Int) < e.dot.num))) })] [1, 14] [1] ⟨(told_true h_4), (by simp only [eq_true h_4, told_simp1, told_simp2, and_true, true_and, and_false, false_and, or_true, true_or, or_false, false_or, not_true_eq_false, not_false_eq_true, decide_true, decide_false, Bool.decide_eq_true])⟩ ?_
  exact ⟨rfl, by kernel_rfl⟩
  refine rg (A := _ ∧ (AV.b (decide (e.dot.num > (1000000000 : Int))) = AV.b (decide ((1000000000 : Int) < e.dot.num))) ∧ (AV.b (decide ((1000000000 : Int) < e.dot.num)) = AV.b (decide (e.dot.num < (1 : Int) ∨ (1000000000 : Int) < e.dot.num)))) cx [(3, { tell := some (.b (false)) }), (8, { tell := some (.b (decide ((1000000000 : Int) < e.dot.num))) }), (10, { tell := some (.b (decide (e.dot.num < (1 : Int) ∨ (1000000000 : Int) < e.dot.num))) })] [1, 14] [1] ⟨(told_false h_4), (by kernel_rfl), (by simp only [eq_false h_4, told_simp1, told_simp2, and_true, true_and, and_false, false_and, or_true, true_or, or_false, false_or, not_true_eq_false, not_false_eq_true, decide_true, decide_false, Bool.decide_eq_true])⟩ ?_
  exact ⟨rfl, by kernel_rfl⟩
  refine sn ?_
  refine st_dec (e.dot.num < (1 : Int) ∨ (1000000000 : Int) < e.dot.num) (by kernel_rfl) (by kernel_rfl) (fun h_5 => ?_) (fun h_5 => ?_)
  refine sq ?_
  refine rg (A := True) cx [] [2] [] trivial ?_
  refine sn ?_
  refine st_ret (by kernel_rfl) ?_
  refine q_blk_ret ?_
  refine q_seq_ret ?_
  refine q_ret (r := .i .i64 ((2 : Int))) (obl := []) (by kernel_rfl) trivial (AVle.eq (show AV.i IntKind.i64 (2 : Int) = AV.i IntKind.i64 (entE e) from ?g1)); rotate_left 1
  refine sq ?_
  refine rg (A := _ ∧ ((AV.b !good e.sku) = AV.b (decide ¬good e.sku = true))) cx [(2, { val := some (.b (good e.sku)) }), (3, { tell := some (.b (decide ¬good e.sku = true)) })] [1, 25] [1] ⟨(con50 (e.sku)), (told_not)⟩ ?_
  refine sn ?_
  refine st_dec (¬good e.sku = true) (by kernel_rfl) (by kernel_rfl) (fun h_6 => ?_) (fun h_6 => ?_)
  refine sq ?_
  refine rg (A := True) cx [] [2] [] trivial ?_
  refine sn ?_
  refine st_ret (by kernel_rfl) ?_
  refine q_blk_ret ?_
  refine q_seq_ret ?_
  refine q_ret (r := .i .i64 ((5 : Int))) (obl := []) (by kernel_rfl) trivial (AVle.eq (show AV.i IntKind.i64 (5 : Int) = AV.i IntKind.i64 (entE e) from ?g2)); rotate_left 1
  refine sq ?_
  refine st_join (σ' := ⟨[(30, .b (decide (e.qty < (1 : Int) ∨ (1000000 : Int) < e.qty)))], []⟩) ?_ ?_
  refine st_split (e.qty < (1 : Int)) (fun h_8 => ?_) (fun h_8 => ?_)
  refine rg (A := _ ∧ (AV.b true = AV.b (decide (e.qty < (1 : Int) ∨ (1000000 : Int) < e.qty)))) cx [(2, { tell := some (.b (true)) }), (8, { tell := some (.b (decide (e.qty < (1 : Int) ∨ (1000000 : Int) < e.qty))) })] [30] [] ⟨(told_true h_8), (by simp only [eq_true h_8, told_simp1, told_simp2, and_true, true_and, and_false, false_and, or_true, true_or, or_false, false_or, not_true_eq_false, not_false_eq_true, decide_true, decide_false, Bool.decide_eq_true])⟩ ?_
  exact ⟨rfl, by kernel_rfl⟩
  refine rg (A := _ ∧ (AV.b (decide (e.qty > (1000000 : Int))) = AV.b (decide ((1000000 : Int) < e.qty))) ∧ (AV.b (decide ((1000000 : Int) < e.qty)) = AV.b (decide (e.qty < (1 : Int) ∨ (1000000 : Int) < e.qty)))) cx [(2, { tell := some (.b (false)) }), (6, { tell := some (.b (decide ((1000000 : Int) < e.qty))) }), (8, { tell := some (.b (decide (e.qty < (1 : Int) ∨ (1000000 : Int) < e.qty))) })] [30] [] ⟨(told_false h_8), (by kernel_rfl), (by simp only [eq_false h_8, told_simp1, told_simp2, and_true, true_and, and_false, false_and, or_true, true_or, or_false, false_or, not_true_eq_false, not_false_eq_true, decide_true, decide_false, Bool.decide_eq_true])⟩ ?_
  exact ⟨rfl, by kernel_rfl⟩
  refine sn ?_
  refine st_dec (e.qty < (1 : Int) ∨ (1000000 : Int) < e.qty) (by kernel_rfl) (by kernel_rfl) (fun h_9 => ?_) (fun h_9 => ?_)
  refine sq ?_
  refine rg (A := True) cx [] [2] [] trivial ?_
  refine sn ?_
  refine st_ret (by kernel_rfl) ?_
  refine q_blk_ret ?_
  refine q_seq_ret ?_
  refine q_ret (r := .i .i64 ((6 : Int))) (obl := []) (by kernel_rfl) trivial (AVle.eq (show AV.i IntKind.i64 (6 : Int) = AV.i IntKind.i64 (entE e) from ?g3)); rotate_left 1
  refine st_skip (by kernel_rfl) ?_
  refine q_blk_normal ?_
  refine sn ?_
  refine sq ?_
  refine rg (A := True) cx [] [2] [] trivial ?_
  refine sn ?_
  refine st_ret (by kernel_rfl) ?_
  refine q_ret (r := .i .i64 ((0 : Int))) (obl := []) (by kernel_rfl) trivial (AVle.eq (show AV.i IntKind.i64 (0 : Int) = AV.i IntKind.i64 (entE e) from ?g4)); rotate_left 1
  revert h_2; rotate_left
  revert h_2 h_5; rotate_left
  revert h_2 h_5 h_6; rotate_left
  revert h_2 h_5 h_6 h_9; rotate_left
  revert h_2 h_5 h_6 h_9; rotate_left
  case' g4 => refine (fun h k l m => ?_)
  case' g3 => refine (fun h k l m => ?_)
  case' g2 => refine (fun h k l => ?_)
  case' g1 => refine (fun h k => ?_)
  case' g0 => refine (fun h => ?_)
  all_goals (unfold entE)
  · rw [if_pos h]
  · rw [if_neg h, if_pos k]
  · rw [if_neg h, if_neg k, if_pos (by simpa using l)]
  · rw [if_neg h, if_neg k, if_neg (by simpa using l), if_pos m]
  · rw [if_neg h, if_neg k, if_neg (by simpa using l), if_neg m]
theorem con48 (a b : Dot) : Con Try.prog 48 [.agg (c26 a), .agg (c26 b)] (.b (dLt a b)) :=
  by
  refine st_con tab_ok (by kernel_rfl) [.tmp 4] 24 Go.Proofs.Try.func48 (by kernel_rfl) (by kernel_rfl) ?_
  intro e0 cx
  refine sq ?_
  refine rg (A := True) cx [] [2, 3] [2, 3] trivial ?_
  refine sn ?_
  refine sq ?_
  refine st_join (σ' := ⟨[(4, .b (decide (a.rep < b.rep ∨ a.rep = b.rep ∧ a.num < b.num)))], []⟩) ?_ ?_
  refine st_split (a.rep < b.rep) (fun h_1 => ?_) (fun h_1 => ?_)
  refine rg (A := _ ∧ (AV.b true = AV.b (decide (a.rep < b.rep ∨ a.rep = b.rep ∧ a.num < b.num)))) cx [(4, { tell := some (.b (true)) }), (19, { tell := some (.b (decide (a.rep < b.rep ∨ a.rep = b.rep ∧ a.num < b.num))) })] [4] [] ⟨(told_true h_1), (by simp only [eq_true h_1, told_simp1, told_simp2, and_true, true_and, and_false, false_and, or_true, true_or, or_false, false_or, not_true_eq_false, not_false_eq_true, decide_true, decide_false, Bool.decide_eq_true])⟩ ?_
  exact ⟨rfl, by kernel_rfl⟩
  refine st_split (a.rep = b.rep) (fun h_2 => ?_) (fun h_2 => ?_)
  refine rg (A := _ ∧ _ ∧ (AV.b (decide (a.num < b.num)) = AV.b (decide (a.num < b.num))) ∧ (AV.b (decide (a.num < b.num)) = AV.b (decide (a.rep < b.rep ∨ a.rep = b.rep ∧ a.num < b.num)))) cx [(4, { tell := some (.b (false)) }), (10, { tell := some (.b (true)) }), (16, { tell := some (.b (decide (a.num < b.num))) }), (19, { tell := some (.b (decide (a.rep < b.rep ∨ a.rep = b.rep ∧ a.num < b.num))) })] [4] [] ⟨(told_false h_1), (told_true h_2), (by kernel_rfl), (by simp only [eq_false h_1, eq_true h_2, told_simp1, told_simp2, and_true, true_and, and_false, false_and, or_true, true_or, or_false, false_or, not_true_eq_false, not_false_eq_true, decide_true, decide_false, Bool.decide_eq_true])⟩ ?_
  exact ⟨rfl, by kernel_rfl⟩
  refine rg (A := _ ∧ _ ∧ (AV.b false = AV.b (decide (a.rep < b.rep ∨ a.rep = b.rep ∧ a.num < b.num)))) cx [(4, { tell := some (.b (false)) }), (10, { tell := some (.b (false)) }), (19, { tell := some (.b (decide (a.rep < b.rep ∨ a.rep = b.rep ∧ a.num < b.num))) })] [4] [] ⟨(told_false h_1), (told_false h_2), (by simp only [eq_false h_1, eq_false h_2, told_simp1, told_simp2, and_true, true_and, and_false, false_and, or_true, true_or, or_false, false_or, not_true_eq_false, not_false_eq_true, decide_true, decide_false, Bool.decide_eq_true])⟩ ?_
  exact ⟨rfl, by kernel_rfl⟩
  refine sn ?_
  refine st_ret (by kernel_rfl) ?_
  refine q_ret (r := .b (decide (a.rep < b.rep ∨ a.rep = b.rep ∧ a.num < b.num))) (obl := []) (by kernel_rfl) trivial (AVle.eq (show AV.b (decide (a.rep < b.rep ∨ a.rep = b.rep ∧ a.num < b.num)) = AV.b (dLt a b) from ?g0)); rotate_left 1
  case g0 => exact rfl
theorem con49 (a b : Dot) : Con Try.prog 49 [.agg (c26 a), .agg (c26 b)] (.b (dLt a b)) :=
  by
  refine st_con tab_ok (by kernel_rfl) [.tmp 4] 24 Go.Proofs.Try.func49 (by kernel_rfl) (by kernel_rfl) ?_
  intro e0 cx
  refine sq ?_
  refine rg (A := True) cx [] [2, 3] [2, 3] trivial ?_
  refine sn ?_
  refine sq ?_
  refine st_join (σ' := ⟨[(4, .b (decide (a.rep < b.rep ∨ a.rep = b.rep ∧ a.num < b.num)))], []⟩) ?_ ?_
  refine st_split (a.rep < b.rep) (fun h_1 => ?_) (fun h_1 => ?_)
  refine rg (A := _ ∧ (AV.b true = AV.b (decide (a.rep < b.rep ∨ a.rep = b.rep ∧ a.num < b.num)))) cx [(4, { tell := some (.b (true)) }), (19, { tell := some (.b (decide (a.rep < b.rep ∨ a.rep = b.rep ∧ a.num < b.num))) })] [4] [] ⟨(told_true h_1), (by simp only [eq_true h_1, told_simp1, told_simp2, and_true, true_and, and_false, false_and, or_true, true_or, or_false, false_or, not_true_eq_false, not_false_eq_true, decide_true, decide_false, Bool.decide_eq_true])⟩ ?_
  exact ⟨rfl, by kernel_rfl⟩
  refine st_split (a.rep = b.rep) (fun h_2 => ?_) (fun h_2 => ?_)
  refine rg (A := _ ∧ _ ∧ (AV.b (decide (a.num < b.num)) = AV.b (decide (a.num < b.num))) ∧ (AV.b (decide (a.num < b.num)) = AV.b (decide (a.rep < b.rep ∨ a.rep = b.rep ∧ a.num < b.num)))) cx [(4, { tell := some (.b (false)) }), (10, { tell := some (.b (true)) }), (16, { tell := some (.b (decide (a.num < b.num))) }), (19, { tell := some (.b (decide (a.rep < b.rep ∨ a.rep = b.rep ∧ a.num < b.num))) })] [4] [] ⟨(told_false h_1), (told_true h_2), (by kernel_rfl), (by simp only [eq_false h_1, eq_true h_2, told_simp1, told_simp2, and_true, true_and, and_false, false_and, or_true, true_or, or_false, false_or, not_true_eq_false, not_false_eq_true, decide_true, decide_false, Bool.decide_eq_true])⟩ ?_
  exact ⟨rfl, by kernel_rfl⟩
  refine rg (A := _ ∧ _ ∧ (AV.b false = AV.b (decide (a.rep < b.rep ∨ a.rep = b.rep ∧ a.num < b.num)))) cx [(4, { tell := some (.b (false)) }), (10, { tell := some (.b (false)) }), (19, { tell := some (.b (decide (a.rep < b.rep ∨ a.rep = b.rep ∧ a.num < b.num))) })] [4] [] ⟨(told_false h_1), (told_false h_2), (by simp only [eq_false h_1, eq_false h_2, told_simp1, told_simp2, and_true, true_and, and_false, false_and, or_true, true_or, or_false, false_or, not_true_eq_false, not_false_eq_true, decide_true, decide_false, Bool.decide_eq_true])⟩ ?_
  exact ⟨rfl, by kernel_rfl⟩
  refine sn ?_
  refine st_ret (by kernel_rfl) ?_
  refine q_ret (r := .b (decide (a.rep < b.rep ∨ a.rep = b.rep ∧ a.num < b.num))) (obl := []) (by kernel_rfl) trivial (AVle.eq (show AV.b (decide (a.rep < b.rep ∨ a.rep = b.rep ∧ a.num < b.num)) = AV.b (dLt a b) from ?g0)); rotate_left 1
  case g0 => exact rfl
theorem con16 (es : List Entry) : Con Try.prog 16 [.sl (es.map c28)] (.i .i64 (lstE es)) :=
  by
  have e : ∀ {i : Int}, 0 ≤ i → (i - 1).toNat = i.toNat - 1 := fun {i} h => by omega
  refine con_lens 0 (c28) (es) (by kernel_rfl) Go.Proofs.Try.func16 (by kernel_rfl) fun hl_0 => ?_
  refine st_con tab_ok (by kernel_rfl) [.tmp 2] 32 Go.Proofs.Try.func16 (by kernel_rfl) (by kernel_rfl) ?_
  intro e0 cx
  refine sq ?_
  refine rg (A := True) cx [] [0] [] trivial ?_
  refine sn ?_
  refine sq ?_
  refine sq ?_
  refine rg (A := _) cx [(1, { tell := some (.i .i64 ((↑es.length : Int))) })] [0, 5, 6, 7] [] (told_len c28 es) ?_
  refine sn ?_
  refine st_block 0 (by kernel_rfl) ?_
  refine st_loop (X := Int) (fun x => ⟨[(0, .sl (List.map c28 es)), (5, .sl (List.map c28 es)), (6, .i .i64 ((↑es.length : Int))), (7, .i .i64 (x))], []⟩) (fun x ↦ decL es x) (fun x ↦ invL es x) [0, 5, 6, 7] [] ((0 : Int)) (by kernel_rfl) (by kernel_rfl) (show invL es (0 : Int) from ?g0) ?_; rotate_left 1
  intro i_0 h_1
  obtain ⟨h_2, h_3, h_4⟩ : (0 : Int) ≤ i_0 ∧ i_0 ≤ (↑es.length : Int) ∧ ∀ (j : Nat), (↑j : Int) < i_0 → okAt es j = true := h_1
  refine sq ?_
  refine rg (A := (AV.b (decide (i_0 < (↑es.length : Int))) = AV.b (decide (i_0 < (↑es.length : Int))))) cx [(0, { tell := some (.b (decide (i_0 < (↑es.length : Int)))) })] [0, 5, 6, 7, 8] [] (by kernel_rfl) ?_
  refine sn ?_
  refine sq ?_
  refine st_dec (i_0 < (↑es.length : Int)) (by kernel_rfl) (by kernel_rfl) (fun h_5 => ?_) (fun h_5 => ?_)
  refine st_skip (by kernel_rfl) ?_
  refine sn ?_
  refine sq ?_
  refine st_block 1 (by kernel_rfl) ?_
  refine sq ?_
  refine rg (A := ((0 : Int) ≤ i_0) ∧ ((List.map c28 es)[i_0.toNat]? = some (c28 es[i_0.toNat]!)) ∧ ((c28 es[i_0.toNat]!).length = (4 : Nat)) ∧ ((4 : Nat) ≤ [AV.i IntKind.i64 es[i_0.toNat]!.dot.rep, AV.i IntKind.i64 es[i_0.toNat]!.dot.num, AV.s es[i_0.toNat]!.sku, AV.i IntKind.i64 es[i_0.toNat]!.qty].length)) cx [(1, { row := (c28 es[i_0.toNat]!) })] [0, 5, 6, 7, 4, 3] [4] ⟨(by (with_reducible assumption)), (by (with_reducible refine get_map ?_; omega)), (by kernel_rfl), (by (simp only [List.length_append, List.length_cons, List.length_nil]; omega))⟩ ?_
  refine sn ?_
  refine sq ?_
  refine st_join (σ' := ⟨[(0, .sl (List.map c28 es)), (5, .sl (List.map c28 es)), (6, .i .i64 ((↑es.length : Int))), (7, .i .i64 (i_0)), (30, .b (decide (¬entE es[i_0.toNat]! = (0 : Int) ∨ (0 : Int) < i_0 ∧ ¬dLt es[(i_0 - (1 : Int)).toNat]!.dot es[i_0.toNat]!.dot = true)))], []⟩) ?_ ?_
  refine st_split (¬entE es[i_0.toNat]! = (0 : Int)) (fun h_7 => ?_) (fun h_7 => ?_)
  refine ra (A := _ ∧ (AV.b (entE es[i_0.toNat]! != (0 : Int)) = AV.b true) ∧ (AV.b true = AV.b (decide (¬entE es[i_0.toNat]! = (0 : Int) ∨ (0 : Int) < i_0 ∧ ¬dLt es[(i_0 - (1 : Int)).toNat]!.dot es[i_0.toNat]!.dot = true)))) cx [(1, { val := some (.i .i64 (entE es[i_0.toNat]!)) }), (2, { tell := some (.b (true)) }), (18, { tell := some (.b (decide (¬entE es[i_0.toNat]! = (0 : Int) ∨ (0 : Int) < i_0 ∧ ¬dLt es[(i_0 - (1 : Int)).toNat]!.dot es[i_0.toNat]!.dot = true))) })] [0, 5, 6, 7, 30] [] ⟨(con14 (es[i_0.toNat]!)), (told_neqt h_7), (by simp only [eq_false h_7, told_simp1, told_simp2, and_true, true_and, and_false, false_and, or_true, true_or, or_false, false_or, not_true_eq_false, not_false_eq_true, decide_true, decide_false, Bool.decide_eq_true])⟩ ?_
  exact ⟨rfl, by kernel_rfl⟩
  refine st_split ((0 : Int) < i_0) (fun h_8 => ?_) (fun h_8 => ?_)
  refine ra (A := _ ∧ (AV.b (entE es[i_0.toNat]! != (0 : Int)) = AV.b (decide ¬entE es[i_0.toNat]! = (0 : Int))) ∧ _ ∧ _ ∧ (AV.i IntKind.i64 (IntKind.i64.wrap (i_0 - (1 : Int))) = AV.i IntKind.i64 (i_0 - (1 : Int))) ∧ ((0 : Int) ≤ i_0 - (1 : Int)) ∧ ((List.map c28 es)[(i_0 - (1 : Int)).toNat]? = some (c28 es[(i_0 - (1 : Int)).toNat]!)) ∧ ((c28 es[(i_0 - (1 : Int)).toNat]!).length = (4 : Nat)) ∧ ((2 : Nat) ≤ [AV.i IntKind.i64 es[(i_0 - (1 : Int)).toNat]!.dot.rep, AV.i IntKind.i64 es[(i_0 - (1 : Int)).toNat]!.dot.num, AV.s es[(i_0 - (1 : Int)).toNat]!.sku, AV.i IntKind.i64 es[(i_0 - (1 : Int)).toNat]!.qty].length) ∧ _ ∧ ((AV.b !dLt es[(i_0 - (1 : Int)).toNat]!.dot es[i_0.toNat]!.dot) = AV.b (decide ¬dLt es[(i_0 - (1 : Int)).toNat]!.dot es[i_0.toNat]!.dot = true)) ∧ (AV.b (decide ¬dLt es[(i_0 - (1 : Int)).toNat]!.dot es[i_0.toNat]!.dot = true) = AV.b (decide (¬entE es[i_0.toNat]! = (0 : Int) ∨ (0 : Int) < i_0 ∧ ¬dLt es[(i_0 - (1 : Int)).toNat]!.dot es[i_0.toNat]!.dot = true)))) cx [(1, { val := some (.i .i64 (entE es[i_0.toNat]!)) }), (2, { tell := some (.b (decide ¬entE es[i_0.toNat]! = (0 : Int))) }), (3, { tell := some (.b (false)) }), (5, { tell := some (.b (true)) }), (9, { tell := some (.i .i64 (i_0 - (1 : Int))) }), (10, { row := (c28 es[(i_0 - (1 : Int)).toNat]!) }), (15, { val := some (.b (dLt es[(i_0 - (1 : Int)).toNat]!.dot es[i_0.toNat]!.dot)) }), (16, { tell := some (.b (decide ¬dLt es[(i_0 - (1 : Int)).toNat]!.dot es[i_0.toNat]!.dot = true)) }), (18, { tell := some (.b (decide (¬entE es[i_0.toNat]! = (0 : Int) ∨ (0 : Int) < i_0 ∧ ¬dLt es[(i_0 - (1 : Int)).toNat]!.dot es[i_0.toNat]!.dot = true))) })] [0, 5, 6, 7, 30] [] ⟨(con14 (es[i_0.toNat]!)), (told_neq), (told_false h_7), (told_true h_8), (told_i64 (by omega) (by omega)), (by omega), (by (with_reducible refine get_map ?_; omega)), (by kernel_rfl), (by (simp only [List.length_append, List.length_cons, List.length_nil]; omega)), (con48 (es[(i_0 - (1 : Int)).toNat]!.dot) (es[i_0.toNat]!.dot)), (told_not), (by simp only [eq_false h_7, eq_true h_8, told_simp1, told_simp2, and_true, true_and, and_false, false_and, or_true, true_or, or_false, false_or, not_true_eq_false, not_false_eq_true, decide_true, decide_false, Bool.decide_eq_true])⟩ ?_
  exact ⟨rfl, by kernel_rfl⟩
  refine ra (A := _ ∧ (AV.b (entE es[i_0.toNat]! != (0 : Int)) = AV.b (decide ¬entE es[i_0.toNat]! = (0 : Int))) ∧ _ ∧ _ ∧ (AV.b false = AV.b (decide (¬entE es[i_0.toNat]! = (0 : Int) ∨ (0 : Int) < i_0 ∧ ¬dLt es[(i_0 - (1 : Int)).toNat]!.dot es[i_0.toNat]!.dot = true)))) cx [(1, { val := some (.i .i64 (entE es[i_0.toNat]!)) }), (2, { tell := some (.b (decide ¬entE es[i_0.toNat]! = (0 : Int))) }), (3, { tell := some (.b (false)) }), (5, { tell := some (.b (false)) }), (18, { tell := some (.b (decide (¬entE es[i_0.toNat]! = (0 : Int) ∨ (0 : Int) < i_0 ∧ ¬dLt es[(i_0 - (1 : Int)).toNat]!.dot es[i_0.toNat]!.dot = true))) })] [0, 5, 6, 7, 30] [] ⟨(con14 (es[i_0.toNat]!)), (told_neq), (told_false h_7), (told_false h_8), (by simp only [eq_false h_7, eq_false h_8, told_simp1, told_simp2, and_true, true_and, and_false, false_and, or_true, true_or, or_false, false_or, not_true_eq_false, not_false_eq_true, decide_true, decide_false, Bool.decide_eq_true])⟩ ?_
  exact ⟨rfl, by kernel_rfl⟩
  refine sn ?_
  refine st_dec (¬entE es[i_0.toNat]! = (0 : Int) ∨ (0 : Int) < i_0 ∧ ¬dLt es[(i_0 - (1 : Int)).toNat]!.dot es[i_0.toNat]!.dot = true) (by kernel_rfl) (by kernel_rfl) (fun h_9 => ?_) (fun h_9 => ?_)
  refine sq ?_
  refine rg (A := True) cx [] [2] [] trivial ?_
  refine sn ?_
  refine st_ret (by kernel_rfl) ?_
  refine q_blk_ret ?_
  refine q_seq_ret ?_
  refine q_seq_ret ?_
  refine q_blk_ret ?_
  refine q_seq_ret ?_
  refine q_ret (r := .i .i64 ((1 : Int))) (obl := []) (by kernel_rfl) trivial (AVle.eq (show AV.i IntKind.i64 (1 : Int) = AV.i IntKind.i64 (lstE es) from ?g1)); rotate_left 1
  refine st_skip (by kernel_rfl) ?_
  refine q_blk_normal ?_
  refine sn ?_
  refine rg (A := (AV.i IntKind.i64 (IntKind.i64.wrap (i_0 + (1 : Int))) = AV.i IntKind.i64 (i_0 + (1 : Int)))) cx [(0, { tell := some (.i .i64 (i_0 + (1 : Int))) })] [0, 5, 6, 7] [] (told_i64 (by omega) (by omega)) ?_
  refine sn ?_
  refine loop_next (i_0 + (1 : Int)) (by kernel_rfl) (show ((↑es.length : Int) - (i_0 + (1 : Int))).toNat < ((↑es.length : Int) - i_0).toNat from (by omega)) (show invL es (i_0 + (1 : Int)) from ?g2); rotate_left 1
  refine st_exit 0 (by kernel_rfl) ?_
  refine q_seq_exit ?_
  refine q_seq_exit ?_
  refine q_blk_hit ?_
  refine sn ?_
  refine sq ?_
  refine rg (A := True) cx [] [2] [] trivial ?_
  refine sn ?_
  refine st_ret (by kernel_rfl) ?_
  refine q_ret (r := .i .i64 ((0 : Int))) (obl := []) (by kernel_rfl) trivial (AVle.eq (show AV.i IntKind.i64 (0 : Int) = AV.i IntKind.i64 (lstE es) from ?g3)); rotate_left 1
  rotate_left
  revert i_0 h_2 h_3 h_4 h_5 h_9; rotate_left
  revert i_0 h_2 h_3 h_4 h_5 h_9; rotate_left
  revert i_0 h_2 h_3 h_4 h_5; rotate_left
  case g0 => exact ⟨by omega, by omega, fun j hj => by omega⟩
  case' g3 => refine (fun i h0 h1 h2 h3 => ?_)
  case' g2 => refine (fun i h0 h1 h2 h3 h4 => ?_)
  case' g1 => refine (fun i h0 h1 h2 h3 h4 => ?_)
  · rw [lstE_bad (i := i.toNat) (by omega) (not_okAt _)]
    rw [e h0] at h4
    rw [okAt_iff]; rintro ⟨a, b⟩
    rcases h4 with h4 | ⟨h4, h5⟩
    · exact h4 a
    · rcases b with b | b
      · omega
      · exact h5 b
  · rw [e h0] at h4
    refine invL_step h0 h3 h2 ((okAt_iff _ _).2 ⟨Classical.byContradiction fun a => h4 (.inl a), ?_⟩)
    by_cases c : i.toNat = 0
    · exact .inl c
    · exact .inr (Classical.byContradiction fun a => h4 (.inr ⟨by omega, a⟩))
  · rw [lstE_ok fun j hj => h2 j (by omega)]
theorem con18 (es : List Entry) : Con Try.prog 18 [.sl (es.map c28)] (.i .i64 (lstE es)) :=
  by
  have e : ∀ {i : Int}, 0 ≤ i → (i - 1).toNat = i.toNat - 1 := fun {i} h => by omega
  refine con_lens 0 (c28) (es) (by kernel_rfl) Go.Proofs.Try.func18 (by kernel_rfl) fun hl_0 => ?_
  refine st_con tab_ok (by kernel_rfl) [.tmp 2] 33 Go.Proofs.Try.func18 (by kernel_rfl) (by kernel_rfl) ?_
  intro e0 cx
  refine sq ?_
  refine rg (A := True) cx [] [0] [] trivial ?_
  refine sn ?_
  refine sq ?_
  refine sq ?_
  refine rg (A := True) cx [] [0, 3] [] trivial ?_
  refine sn ?_
  refine st_block 0 (by kernel_rfl) ?_
  refine st_loop (X := Int) (fun x => ⟨[(0, .sl (List.map c28 es)), (3, .i .i64 (x))], []⟩) (fun x ↦ decL es x) (fun x ↦ invL es x) [0, 3] [] ((0 : Int)) (by kernel_rfl) (by kernel_rfl) (show invL es (0 : Int) from ?g0) ?_; rotate_left 1
  intro i_0 h_1
  obtain ⟨h_2, h_3, h_4⟩ : (0 : Int) ≤ i_0 ∧ i_0 ≤ (↑es.length : Int) ∧ ∀ (j : Nat), (↑j : Int) < i_0 → okAt es j = true := h_1
  refine sq ?_
  refine sq ?_
  refine rg (A := _ ∧ (AV.b (decide (i_0 < (↑es.length : Int))) = AV.b (decide (i_0 < (↑es.length : Int))))) cx [(2, { tell := some (.i .i64 ((↑es.length : Int))) }), (3, { tell := some (.b (decide (i_0 < (↑es.length : Int)))) })] [0, 3, 7] [] ⟨(told_len c28 es), (by kernel_rfl)⟩ ?_
  refine sn ?_
  refine st_dec (i_0 < (↑es.length : Int)) (by kernel_rfl) (by kernel_rfl) (fun h_5 => ?_) (fun h_5 => ?_)
  refine st_skip (by kernel_rfl) ?_
  refine sn ?_
  refine sq ?_
  refine st_block 1 (by kernel_rfl) ?_
  refine sq ?_
  refine sq ?_
  refine rg (A := ((0 : Int) ≤ i_0) ∧ ((List.map c28 es)[i_0.toNat]? = some (c28 es[i_0.toNat]!)) ∧ ((c28 es[i_0.toNat]!).length = (4 : Nat)) ∧ ((4 : Nat) ≤ [AV.i IntKind.i64 es[i_0.toNat]!.dot.rep, AV.i IntKind.i64 es[i_0.toNat]!.dot.num, AV.s es[i_0.toNat]!.sku, AV.i IntKind.i64 es[i_0.toNat]!.qty].length) ∧ _ ∧ (AV.b (entE es[i_0.toNat]! != (0 : Int)) = AV.b (decide ¬entE es[i_0.toNat]! = (0 : Int)))) cx [(2, { row := (c28 es[i_0.toNat]!) }), (4, { val := some (.i .i64 (entE es[i_0.toNat]!)) }), (5, { tell := some (.b (decide ¬entE es[i_0.toNat]! = (0 : Int))) })] [0, 3, 15] [] ⟨(by (with_reducible assumption)), (by (with_reducible refine get_map ?_; omega)), (by kernel_rfl), (by (simp only [List.length_append, List.length_cons, List.length_nil]; omega)), (con19 (es[i_0.toNat]!)), (told_neq)⟩ ?_
  refine sn ?_
  refine st_dec (¬entE es[i_0.toNat]! = (0 : Int)) (by kernel_rfl) (by kernel_rfl) (fun h_6 => ?_) (fun h_6 => ?_)
  refine sq ?_
  refine rg (A := True) cx [] [2] [] trivial ?_
  refine sn ?_
  refine st_ret (by kernel_rfl) ?_
  refine q_seq_ret ?_
  refine q_blk_ret ?_
  refine q_seq_ret ?_
  refine q_seq_ret ?_
  refine q_blk_ret ?_
  refine q_seq_ret ?_
  refine q_ret (r := .i .i64 ((1 : Int))) (obl := []) (by kernel_rfl) trivial (AVle.eq (show AV.i IntKind.i64 (1 : Int) = AV.i IntKind.i64 (lstE es) from ?g1)); rotate_left 1
  refine st_skip (by kernel_rfl) ?_
  refine sn ?_
  refine sq ?_
  refine st_join (σ' := ⟨[(0, .sl (List.map c28 es)), (3, .i .i64 (i_0)), (32, .b (decide ((0 : Int) < i_0 ∧ ¬dLt es[(i_0 - (1 : Int)).toNat]!.dot es[i_0.toNat]!.dot = true)))], []⟩) ?_ ?_
  refine st_split ((0 : Int) < i_0) (fun h_8 => ?_) (fun h_8 => ?_)
  refine ra (A := _ ∧ (AV.i IntKind.i64 (IntKind.i64.wrap (i_0 - (1 : Int))) = AV.i IntKind.i64 (i_0 - (1 : Int))) ∧ ((0 : Int) ≤ i_0 - (1 : Int)) ∧ ((List.map c28 es)[(i_0 - (1 : Int)).toNat]? = some (c28 es[(i_0 - (1 : Int)).toNat]!)) ∧ ((c28 es[(i_0 - (1 : Int)).toNat]!).length = (4 : Nat)) ∧ ((2 : Nat) ≤ [AV.i IntKind.i64 es[(i_0 - (1 : Int)).toNat]!.dot.rep, AV.i IntKind.i64 es[(i_0 - (1 : Int)).toNat]!.dot.num, AV.s es[(i_0 - (1 : Int)).toNat]!.sku, AV.i IntKind.i64 es[(i_0 - (1 : Int)).toNat]!.qty].length) ∧ ((0 : Int) ≤ i_0) ∧ ((List.map c28 es)[i_0.toNat]? = some (c28 es[i_0.toNat]!)) ∧ ((c28 es[i_0.toNat]!).length = (4 : Nat)) ∧ ((2 : Nat) ≤ [AV.i IntKind.i64 es[i_0.toNat]!.dot.rep, AV.i IntKind.i64 es[i_0.toNat]!.dot.num, AV.s es[i_0.toNat]!.sku, AV.i IntKind.i64 es[i_0.toNat]!.qty].length) ∧ _ ∧ ((AV.b !dLt es[(i_0 - (1 : Int)).toNat]!.dot es[i_0.toNat]!.dot) = AV.b (decide ¬dLt es[(i_0 - (1 : Int)).toNat]!.dot es[i_0.toNat]!.dot = true)) ∧ (AV.b (decide ¬dLt es[(i_0 - (1 : Int)).toNat]!.dot es[i_0.toNat]!.dot = true) = AV.b (decide ((0 : Int) < i_0 ∧ ¬dLt es[(i_0 - (1 : Int)).toNat]!.dot es[i_0.toNat]!.dot = true)))) cx [(1, { tell := some (.b (true)) }), (5, { tell := some (.i .i64 (i_0 - (1 : Int))) }), (6, { row := (c28 es[(i_0 - (1 : Int)).toNat]!) }), (11, { row := (c28 es[i_0.toNat]!) }), (14, { val := some (.b (dLt es[(i_0 - (1 : Int)).toNat]!.dot es[i_0.toNat]!.dot)) }), (15, { tell := some (.b (decide ¬dLt es[(i_0 - (1 : Int)).toNat]!.dot es[i_0.toNat]!.dot = true)) }), (16, { tell := some (.b (decide ((0 : Int) < i_0 ∧ ¬dLt es[(i_0 - (1 : Int)).toNat]!.dot es[i_0.toNat]!.dot = true))) })] [0, 3, 32] [] ⟨(told_true h_8), (told_i64 (by omega) (by omega)), (by omega), (by (with_reducible refine get_map ?_; omega)), (by kernel_rfl), (by (simp only [List.length_append, List.length_cons, List.length_nil]; omega)), (by (with_reducible assumption)), (by (with_reducible refine get_map ?_; omega)), (by kernel_rfl), (by (simp only [List.length_append, List.length_cons, List.length_nil]; omega)), (con49 (es[(i_0 - (1 : Int)).toNat]!.dot) (es[i_0.toNat]!.dot)), (told_not), (by simp only [eq_true h_8, told_simp1, told_simp2, and_true, true_and, and_false, false_and, or_true, true_or, or_false, false_or, not_true_eq_false, not_false_eq_true, decide_true, decide_false, Bool.decide_eq_true])⟩ ?_
  exact ⟨rfl, by kernel_rfl⟩
  refine ra (A := _ ∧ (AV.b false = AV.b (decide ((0 : Int) < i_0 ∧ ¬dLt es[(i_0 - (1 : Int)).toNat]!.dot es[i_0.toNat]!.dot = true)))) cx [(1, { tell := some (.b (false)) }), (16, { tell := some (.b (decide ((0 : Int) < i_0 ∧ ¬dLt es[(i_0 - (1 : Int)).toNat]!.dot es[i_0.toNat]!.dot = true))) })] [0, 3, 32] [] ⟨(told_false h_8), (by simp only [eq_false h_8, told_simp1, told_simp2, and_true, true_and, and_false, false_and, or_true, true_or, or_false, false_or, not_true_eq_false, not_false_eq_true, decide_true, decide_false, Bool.decide_eq_true])⟩ ?_
  exact ⟨rfl, by kernel_rfl⟩
  refine sn ?_
  refine st_dec ((0 : Int) < i_0 ∧ ¬dLt es[(i_0 - (1 : Int)).toNat]!.dot es[i_0.toNat]!.dot = true) (by kernel_rfl) (by kernel_rfl) (fun h_9 => ?_) (fun h_9 => ?_)
  refine sq ?_
  refine rg (A := True) cx [] [2] [] trivial ?_
  refine sn ?_
  refine st_ret (by kernel_rfl) ?_
  refine q_blk_ret ?_
  refine q_seq_ret ?_
  refine q_seq_ret ?_
  refine q_blk_ret ?_
  refine q_seq_ret ?_
  refine q_ret (r := .i .i64 ((1 : Int))) (obl := []) (by kernel_rfl) trivial (AVle.eq (show AV.i IntKind.i64 (1 : Int) = AV.i IntKind.i64 (lstE es) from ?g2)); rotate_left 1
  refine st_skip (by kernel_rfl) ?_
  refine q_blk_normal ?_
  refine sn ?_
  refine rg (A := (AV.i IntKind.i64 (IntKind.i64.wrap (i_0 + (1 : Int))) = AV.i IntKind.i64 (i_0 + (1 : Int)))) cx [(1, { tell := some (.i .i64 (i_0 + (1 : Int))) })] [0, 3] [] (told_i64 (by omega) (by omega)) ?_
  refine sn ?_
  refine loop_next (i_0 + (1 : Int)) (by kernel_rfl) (show ((↑es.length : Int) - (i_0 + (1 : Int))).toNat < ((↑es.length : Int) - i_0).toNat from (by omega)) (show invL es (i_0 + (1 : Int)) from ?g3); rotate_left 1
  refine st_exit 0 (by kernel_rfl) ?_
  refine q_seq_exit ?_
  refine q_seq_exit ?_
  refine q_blk_hit ?_
  refine sn ?_
  refine sq ?_
  refine rg (A := True) cx [] [2] [] trivial ?_
  refine sn ?_
  refine st_ret (by kernel_rfl) ?_
  refine q_ret (r := .i .i64 ((0 : Int))) (obl := []) (by kernel_rfl) trivial (AVle.eq (show AV.i IntKind.i64 (0 : Int) = AV.i IntKind.i64 (lstE es) from ?g4)); rotate_left 1
  rotate_left
  revert i_0 h_2 h_3 h_4 h_5 h_6; rotate_left
  revert i_0 h_2 h_3 h_4 h_5 h_6 h_9; rotate_left
  revert i_0 h_2 h_3 h_4 h_5 h_6 h_9; rotate_left
  revert i_0 h_2 h_3 h_4 h_5; rotate_left
  case g0 => exact ⟨by omega, by omega, fun j hj => by omega⟩
  case' g4 => refine (fun i h0 h1 h2 h3 => ?_)
  case' g3 => refine (fun i h0 h1 h2 h3 h4 h5 => ?_)
  case' g2 => refine (fun i h0 h1 h2 h3 h4 h5 => ?_)
  case' g1 => refine (fun i h0 h1 h2 h3 h4 => ?_)
  · rw [lstE_bad (i := i.toNat) (by omega) (not_okAt _)]
    rw [okAt_iff]; rintro ⟨a, b⟩; exact h4 a
  · rw [lstE_bad (i := i.toNat) (by omega) (not_okAt _)]
    rw [e h0] at h5
    rw [okAt_iff]; rintro ⟨a, b⟩
    rcases b with b | b
    · omega
    · exact h5.2 b
  · rw [e h0] at h5
    refine invL_step h0 h3 h2 ((okAt_iff _ _).2 ⟨Classical.not_not.1 h4, ?_⟩)
    by_cases c : i.toNat = 0
    · exact .inl c
    · exact .inr (Classical.byContradiction fun a => h5 ⟨by omega, a⟩)
  · rw [lstE_ok fun j hj => h2 j (by omega)]
end Go.Proofs.Ytjngmlkaijpbgaa
namespace Go.Proofs.Ytjngmlkaijpbgaa
open Go.E
set_option maxRecDepth 100000
set_option maxHeartbeats 4000000
def someL : List Entry := [⟨⟨0, 3⟩, ⟨#[65]⟩, 5⟩, ⟨⟨1, 1⟩, ⟨#[66]⟩, 2⟩, ⟨⟨1, 4⟩, ⟨#[65]⟩, 1⟩]
theorem con17  : Con Try.prog 17 [] (.sl (someL.map c28)) :=
  by
  refine st_con tab_ok (by kernel_rfl) [.tmp 0] 5 Go.Proofs.Try.func17 (by kernel_rfl) (by kernel_rfl) ?_
  intro e0 cx
  refine sq ?_
  refine rg (A := True) cx [] [] [] trivial ?_
  refine sn ?_
  refine sq ?_
  refine rg (A := _ ∧ _ ∧ _) cx [(0, { val := some (resC (con15 ((0 : Int)) ((3 : Int)) ({ data := #[(65 : UInt8)] : ByteArray }) ((5 : Int)))) }), (1, { val := some (resC (con15 ((1 : Int)) ((1 : Int)) ({ data := #[(66 : UInt8)] : ByteArray }) ((2 : Int)))) }), (2, { val := some (resC (con15 ((1 : Int)) ((4 : Int)) ({ data := #[(65 : UInt8)] : ByteArray }) ((1 : Int)))) })] [0] [4] ⟨(con15 ((0 : Int)) ((3 : Int)) ({ data := #[(65 : UInt8)] : ByteArray }) ((5 : Int))), (con15 ((1 : Int)) ((1 : Int)) ({ data := #[(66 : UInt8)] : ByteArray }) ((2 : Int))), (con15 ((1 : Int)) ((4 : Int)) ({ data := #[(65 : UInt8)] : ByteArray }) ((1 : Int)))⟩ ?_
  refine sn ?_
  refine st_ret (by kernel_rfl) ?_
  refine q_ret (r := .sl (List.map c28 [{ dot := { rep := (0 : Int), num := (3 : Int) : Dot }, sku := { dot := { rep := (0 : Int), num := (3 : Int) : Dot }, sku := { data := #[(65 : UInt8)] : ByteArray }, qty := (5 : Int) : Entry }.sku, qty := (5 : Int) : Entry }, { dot := { rep := (1 : Int), num := (1 : Int) : Dot }, sku := { dot := { rep := (1 : Int), num := (1 : Int) : Dot }, sku := { data := #[(66 : UInt8)] : ByteArray }, qty := (2 : Int) : Entry }.sku, qty := (2 : Int) : Entry }, { dot := { rep := (1 : Int), num := (4 : Int) : Dot }, sku := { dot := { rep := (1 : Int), num := (4 : Int) : Dot }, sku := { data := #[(65 : UInt8)] : ByteArray }, qty := (1 : Int) : Entry }.sku, qty := (1 : Int) : Entry }])) (obl := []) (by kernel_rfl) trivial (AVle.eq (show AV.sl (List.map c28 [{ dot := { rep := (0 : Int), num := (3 : Int) : Dot }, sku := { dot := { rep := (0 : Int), num := (3 : Int) : Dot }, sku := { data := #[(65 : UInt8)] : ByteArray }, qty := (5 : Int) : Entry }.sku, qty := (5 : Int) : Entry }, { dot := { rep := (1 : Int), num := (1 : Int) : Dot }, sku := { dot := { rep := (1 : Int), num := (1 : Int) : Dot }, sku := { data := #[(66 : UInt8)] : ByteArray }, qty := (2 : Int) : Entry }.sku, qty := (2 : Int) : Entry }, { dot := { rep := (1 : Int), num := (4 : Int) : Dot }, sku := { dot := { rep := (1 : Int), num := (4 : Int) : Dot }, sku := { data := #[(65 : UInt8)] : ByteArray }, qty := (1 : Int) : Entry }.sku, qty := (1 : Int) : Entry }]) = AV.sl (List.map c28 someL) from ?g0)); rotate_left 1
  case g0 => exact rfl
theorem con3 (es : List Entry) : Con Try.prog 3 [.sl (es.map c28)] (.b true) :=
  by
  refine con_lens 0 (c28) (es) (by kernel_rfl) Go.Proofs.Try.func3 (by kernel_rfl) fun hl_0 => ?_
  refine st_con tab_ok (by kernel_rfl) [.tmp 2] 42 Go.Proofs.Try.func3 (by kernel_rfl) (by kernel_rfl) ?_
  intro e0 cx
  refine sq ?_
  refine rg (A := True) cx [] [0] [] trivial ?_
  refine sn ?_
  refine sq ?_
  refine sq ?_
  refine rg (A := _ ∧ _ ∧ _ ∧ _ ∧ _ ∧ _) cx [(0, { val := some (resC (con15 ((0 : Int)) ((1 : Int)) ({ data := #[(65 : UInt8)] : ByteArray }) ((1 : Int)))) }), (1, { val := some (.i .i64 ((0 : Int))) }), (4, { val := some (resC (con15 ((16 : Int)) ((0 : Int)) ({ data := #[(97 : UInt8)] : ByteArray }) ((0 : Int)))) }), (5, { val := some (.i .i64 ((3 : Int))) }), (9, { val := some (resC (con17 )) }), (10, { val := some (.i .i64 ((0 : Int))) })] [0, 18] [] ⟨(con15 ((0 : Int)) ((1 : Int)) ({ data := #[(65 : UInt8)] : ByteArray }) ((1 : Int))), (con14 ({ dot := { rep := (0 : Int), num := (1 : Int) : Dot }, sku := { dot := { rep := (0 : Int), num := (1 : Int) : Dot }, sku := { data := #[(65 : UInt8)] : ByteArray }, qty := (1 : Int) : Entry }.sku, qty := (1 : Int) : Entry })), (con15 ((16 : Int)) ((0 : Int)) ({ data := #[(97 : UInt8)] : ByteArray }) ((0 : Int))), (con14 ({ dot := { rep := (16 : Int), num := (0 : Int) : Dot }, sku := { dot := { rep := (16 : Int), num := (0 : Int) : Dot }, sku := { data := #[(97 : UInt8)] : ByteArray }, qty := (0 : Int) : Entry }.sku, qty := (0 : Int) : Entry })), (con17 ), (con16 (someL))⟩ ?_
  refine sn ?_
  refine st_false (by kernel_rfl) (by kernel_rfl) ?_
  refine st_skip (by kernel_rfl) ?_
  refine sn ?_
  refine sq ?_
  refine sq ?_
  refine rg (A := _ ∧ _ ∧ (Flat (AV.i IntKind.i64 (1 : Int))) ∧ _) cx [(0, { val := some (resC (con15 ((0 : Int)) ((3 : Int)) ({ data := #[(65 : UInt8)] : ByteArray }) ((5 : Int)))) }), (1, { val := some (resC (con15 ((0 : Int)) ((3 : Int)) ({ data := #[(65 : UInt8)] : ByteArray }) ((1 : Int)))) }), (3, { val := some (.i .i64 ((1 : Int))), flat := true })] [0, 23] [] ⟨(con15 ((0 : Int)) ((3 : Int)) ({ data := #[(65 : UInt8)] : ByteArray }) ((5 : Int))), (con15 ((0 : Int)) ((3 : Int)) ({ data := #[(65 : UInt8)] : ByteArray }) ((1 : Int))), (by exact Flat.i _ _), (con16 ([{ dot := { rep := (0 : Int), num := (3 : Int) : Dot }, sku := { dot := { rep := (0 : Int), num := (3 : Int) : Dot }, sku := { data := #[(65 : UInt8)] : ByteArray }, qty := (5 : Int) : Entry }.sku, qty := (5 : Int) : Entry }, { dot := { rep := (0 : Int), num := (3 : Int) : Dot }, sku := { dot := { rep := (0 : Int), num := (3 : Int) : Dot }, sku := { data := #[(65 : UInt8)] : ByteArray }, qty := (1 : Int) : Entry }.sku, qty := (1 : Int) : Entry }]))⟩ ?_
  refine sn ?_
  refine st_false (by kernel_rfl) (by kernel_rfl) ?_
  refine st_skip (by kernel_rfl) ?_
  refine sn ?_
  refine sq ?_
  refine rg (A := _) cx [(1, { val := some (.i .i64 (lstE es)) })] [0, 3] [] (con18 (es)) ?_
  refine sn ?_
  refine sq ?_
  refine sq ?_
  refine rg (A := _) cx [(1, { tell := some (.i .i64 ((↑es.length : Int))) })] [0, 3, 26, 27, 28] [] (told_len c28 es) ?_
  refine sn ?_
  refine st_block 0 (by kernel_rfl) ?_
  refine st_loop (X := Int) (fun x => ⟨[(0, .sl (List.map c28 es)), (3, .i .i64 (lstE es)), (26, .sl (List.map c28 es)), (27, .i .i64 ((↑es.length : Int))), (28, .i .i64 (x))], []⟩) (fun x ↦ dec30i es x) (fun x ↦ inv30i es x) [0, 3, 26, 27, 28] [] ((0 : Int)) (by kernel_rfl) (by kernel_rfl) (show inv30i es (0 : Int) from ?g0) ?_; rotate_left 1
  intro i_0 h_1
  obtain ⟨h_2, h_3⟩ : (0 : Int) ≤ i_0 ∧ i_0 ≤ (↑es.length : Int) := h_1
  refine sq ?_
  refine rg (A := (AV.b (decide (i_0 < (↑es.length : Int))) = AV.b (decide (i_0 < (↑es.length : Int))))) cx [(0, { tell := some (.b (decide (i_0 < (↑es.length : Int)))) })] [0, 3, 26, 27, 28, 29] [] (by kernel_rfl) ?_
  refine sn ?_
  refine sq ?_
  refine st_dec (i_0 < (↑es.length : Int)) (by kernel_rfl) (by kernel_rfl) (fun h_4 => ?_) (fun h_4 => ?_)
  refine st_skip (by kernel_rfl) ?_
  refine sn ?_
  refine sq ?_
  refine st_block 1 (by kernel_rfl) ?_
  refine sq ?_
  refine rg (A := ((0 : Int) ≤ i_0) ∧ ((List.map c28 es)[i_0.toNat]? = some (c28 es[i_0.toNat]!)) ∧ ((c28 es[i_0.toNat]!).length = (4 : Nat)) ∧ ((4 : Nat) ≤ [AV.i IntKind.i64 es[i_0.toNat]!.dot.rep, AV.i IntKind.i64 es[i_0.toNat]!.dot.num, AV.s es[i_0.toNat]!.sku, AV.i IntKind.i64 es[i_0.toNat]!.qty].length)) cx [(0, { row := (c28 es[i_0.toNat]!) })] [0, 3, 26, 27, 28, 5] [5] ⟨(by (with_reducible assumption)), (by (with_reducible refine get_map ?_; omega)), (by kernel_rfl), (by (simp only [List.length_append, List.length_cons, List.length_nil]; omega))⟩ ?_
  refine sn ?_
  refine sq ?_
  refine ra (A := _ ∧ _ ∧ (AV.b (entE es[i_0.toNat]! != entE es[i_0.toNat]!) = AV.b false)) cx [(1, { val := some (.i .i64 (entE es[i_0.toNat]!)) }), (3, { val := some (.i .i64 (entE es[i_0.toNat]!)) }), (4, { tell := some (.b (false)) })] [0, 3, 26, 27, 28, 36] [] ⟨(con14 (es[i_0.toNat]!)), (con19 (es[i_0.toNat]!)), (told_ins)⟩ ?_
  refine sn ?_
  refine st_false (by kernel_rfl) (by kernel_rfl) ?_
  refine st_skip (by kernel_rfl) ?_
  refine q_blk_normal ?_
  refine sn ?_
  refine rg (A := (AV.i IntKind.i64 (IntKind.i64.wrap (i_0 + (1 : Int))) = AV.i IntKind.i64 (i_0 + (1 : Int)))) cx [(0, { tell := some (.i .i64 (i_0 + (1 : Int))) })] [0, 3, 26, 27, 28] [] (told_i64 (by omega) (by omega)) ?_
  refine sn ?_
  refine loop_next (i_0 + (1 : Int)) (by kernel_rfl) (show ((↑es.length : Int) - (i_0 + (1 : Int))).toNat < ((↑es.length : Int) - i_0).toNat from (by omega)) (show inv30i es (i_0 + (1 : Int)) from ?g1); rotate_left 1
  refine st_exit 0 (by kernel_rfl) ?_
  refine q_seq_exit ?_
  refine q_seq_exit ?_
  refine q_blk_hit ?_
  refine sn ?_
  refine sq ?_
  refine rg (A := _ ∧ (AV.b (lstE es == lstE es) = AV.b true)) cx [(1, { val := some (.i .i64 (lstE es)) }), (3, { tell := some (.b (true)) })] [2] [] ⟨(con16 (es)), (told_ies)⟩ ?_
  refine sn ?_
  refine st_ret (by kernel_rfl) ?_
  exact q_ret (r := .b (true)) (obl := []) (by kernel_rfl) trivial (AVle.refl _)
  rotate_left
  revert i_0 h_2 h_3 h_4; rotate_left
  case g0 => exact ⟨by omega, by omega⟩
  case g1 => exact (fun i h0 h1 h2 => ⟨by omega, by omega⟩)
end Go.Proofs.Ytjngmlkaijpbgaa
namespace Go.Proofs.Ytjngmlkaijpbgaa
open Go.E
set_option maxRecDepth 100000
set_option maxHeartbeats 4000000
def ofV (es : List Entry) (sku : ByteArray) : List Entry × Int :=
  if okL es = true then (if good sku = true then (es.filter (fun e => decide (e.sku = sku)), 0) else ([], 5)) else ([], 1)
def ownV (es : List Entry) (rep : Int) (sku : ByteArray) : List Entry × Int :=
  if okL es = true then (if 0 ≤ rep ∧ rep < 16 then (if good sku = true then (es.filter (fun e => decide (e.sku = sku ∧ e.dot.rep = rep)), 0) else ([], 5)) else ([], 3)) else ([], 1)
def invP (p : Entry → Bool) (es : List Entry) (i : Int) (l : List Entry) : Prop := 0 ≤ i ∧ i ≤ es.length ∧ l = (es.take i.toNat).filter p ∧ (l.length : Int) ≤ i
def decP (es : List Entry) (i : Int) (l : List Entry) : Nat := (es.length - i).toNat
theorem filter_step {p : Entry → Bool} {es : List Entry} {i : Int} (h0 : 0 ≤ i) (h : i < es.length) : (es.take (i + 1).toNat).filter p = if p es[i.toNat]! = true then (es.take i.toNat).filter p ++ [es[i.toNat]!] else (es.take i.toNat).filter p := by
  rw [← take_step h0 h, List.filter_append]
  by_cases hp : p es[i.toNat]! = true
  · rw [if_pos hp, List.filter_cons_of_pos hp, List.filter_nil]
  · rw [if_neg hp, List.filter_cons_of_neg hp, List.filter_nil, List.append_nil]
theorem rng_ofV (es : List Entry) (sku : ByteArray) : (ofV es sku).1.length ≤ es.length := by
  unfold ofV
  split
  · split
    · exact List.length_filter_le _ _
    · simp
  · simp
theorem lstE_cases (es : List Entry) : (okL es = true ∧ lstE es = 0) ∨ (¬ okL es = true ∧ lstE es = 1) := by
  unfold lstE
  by_cases h : okL es = true
  · rw [if_pos h]; exact .inl ⟨h, rfl⟩
  · rw [if_neg h]; exact .inr ⟨h, rfl⟩
theorem ofV_form {es : List Entry} {sku : ByteArray} (h : ¬ lstE es = 0) : ofV es sku = ([], 1) := by
  unfold ofV; rw [if_neg]; intro k; exact h (by unfold lstE; rw [if_pos k])
theorem okL_of {es : List Entry} (h : lstE es = 0) : okL es = true := by
  rcases lstE_cases es with ⟨a, b⟩ | ⟨a, b⟩
  · exact a
  · omega
theorem ofV_sku {es : List Entry} {sku : ByteArray} (h : lstE es = 0) (g : ¬ good sku = true) : ofV es sku = ([], 5) := by
  unfold ofV; rw [if_pos (okL_of h), if_neg g]
theorem ofV_ok {es : List Entry} {sku : ByteArray} (h : lstE es = 0) (g : good sku = true) : ofV es sku = (es.filter (fun e => decide (e.sku = sku)), 0) := by
  unfold ofV; rw [if_pos (okL_of h), if_pos g]
theorem ownV_form {es : List Entry} {rep : Int} {sku : ByteArray} (h : ¬ lstE es = 0) : ownV es rep sku = ([], 1) := by
  unfold ownV; rw [if_neg]; intro k; exact h (by unfold lstE; rw [if_pos k])
theorem ownV_rep {es : List Entry} {rep : Int} {sku : ByteArray} (h : lstE es = 0) (r : rep < 0 ∨ 16 ≤ rep) : ownV es rep sku = ([], 3) := by
  unfold ownV; rw [if_pos (okL_of h), if_neg (by omega)]
theorem ownV_sku {es : List Entry} {rep : Int} {sku : ByteArray} (h : lstE es = 0) (r : ¬ (rep < 0 ∨ 16 ≤ rep)) (g : ¬ good sku = true) : ownV es rep sku = ([], 5) := by
  unfold ownV; rw [if_pos (okL_of h), if_pos (by omega), if_neg g]
theorem ownV_ok {es : List Entry} {rep : Int} {sku : ByteArray} (h : lstE es = 0) (r : ¬ (rep < 0 ∨ 16 ≤ rep)) (g : good sku = true) : ownV es rep sku = (es.filter (fun e => decide (e.sku = sku ∧ e.dot.rep = rep)), 0) := by
  unfold ownV; rw [if_pos (okL_of h), if_pos (by omega), if_pos g]
theorem own_of {es : List Entry} {rep : Int} {sku : ByteArray} (h : lstE es = 0) (r : ¬ (rep < 0 ∨ 16 ≤ rep)) : ownV es rep sku = ((ofV es sku).1.filter (fun e => decide (e.dot.rep = rep)), (ofV es sku).2) := by
  by_cases g : good sku = true
  · rw [ofV_ok h g, ownV_ok h r g, List.filter_filter]
    congr 1
    refine List.filter_congr fun e _ => ?_
    by_cases a : e.sku = sku <;> by_cases b : e.dot.rep = rep <;> simp [a, b]
  · rw [ofV_sku h g, ownV_sku h r g]; rfl
theorem invP_init (p : Entry → Bool) (es : List Entry) : invP p es 0 [] := ⟨by omega, by omega, by simp, by simp⟩
theorem invP_add {p : Entry → Bool} {es l : List Entry} {i : Int} (h0 : 0 ≤ i) (h2 : l = (es.take i.toNat).filter p) (h3 : (l.length : Int) ≤ i) (h4 : i < es.length) (h : p es[i.toNat]! = true) : invP p es (i + 1) (l ++ [es[i.toNat]!]) :=
  ⟨by omega, by omega, by rw [filter_step h0 h4, if_pos h, h2], by rw [List.length_append, List.length_cons, List.length_nil]; omega⟩
theorem invP_skip {p : Entry → Bool} {es l : List Entry} {i : Int} (h0 : 0 ≤ i) (h2 : l = (es.take i.toNat).filter p) (h3 : (l.length : Int) ≤ i) (h4 : i < es.length) (h : ¬ p es[i.toNat]! = true) : invP p es (i + 1) l :=
  ⟨by omega, by omega, by rw [filter_step h0 h4, if_neg h, h2], by omega⟩
theorem invP_done {p : Entry → Bool} {es l : List Entry} {i : Int} (h2 : l = (es.take i.toNat).filter p) (h4 : ¬ i < es.length) : l = es.filter p := by
  rw [h2, List.take_of_length_le (by omega)]
theorem con53 (e : Entry) (sku : ByteArray) : Con Try.prog 53 [.agg (c28 e), .eptr [.s sku]] (.b (decide (e.sku = sku))) :=
  by
  refine st_con tab_ok (by kernel_rfl) [.tmp 3] 8 Go.Proofs.Try.func53 (by kernel_rfl) (by kernel_rfl) ?_
  intro e0 cx
  refine sq ?_
  refine rg (A := True) cx [] [1, 2] [2] trivial ?_
  refine sn ?_
  refine sq ?_
  refine rg (A := (AV.b (e.sku.toList == sku.toList) = AV.b (decide (e.sku = sku)))) cx [(3, { tell := some (.b (decide (e.sku = sku))) })] [3] [] (told_seq) ?_
  refine sn ?_
  refine st_ret (by kernel_rfl) ?_
  exact q_ret (r := .b (decide (e.sku = sku))) (obl := []) (by kernel_rfl) trivial (AVle.refl _)
theorem con52 (e : Entry) (sku : ByteArray) (rep : Int) : Con Try.prog 52 [.agg (c28 e), .eptr [.s sku], .eptr [.i .i64 rep]] (.b (decide (e.sku = sku ∧ e.dot.rep = rep))) :=
  by
  refine st_con tab_ok (by kernel_rfl) [.tmp 4] 16 Go.Proofs.Try.func52 (by kernel_rfl) (by kernel_rfl) ?_
  intro e0 cx
  refine sq ?_
  refine rg (A := True) cx [] [1, 2, 3] [3] trivial ?_
  refine sn ?_
  refine sq ?_
  refine st_join (σ' := ⟨[(4, .b (decide (e.sku = sku ∧ e.dot.rep = rep)))], []⟩) ?_ ?_
  refine st_split (e.sku = sku) (fun h_1 => ?_) (fun h_1 => ?_)
  refine rg (A := (AV.b (e.sku.toList == sku.toList) = AV.b true) ∧ (AV.b (e.dot.rep == rep) = AV.b (decide (e.dot.rep = rep))) ∧ (AV.b (decide (e.dot.rep = rep)) = AV.b (decide (e.sku = sku ∧ e.dot.rep = rep)))) cx [(3, { tell := some (.b (true)) }), (9, { tell := some (.b (decide (e.dot.rep = rep))) }), (11, { tell := some (.b (decide (e.sku = sku ∧ e.dot.rep = rep))) })] [4] [] ⟨(told_seqt h_1), (by kernel_rfl), (by simp only [eq_true h_1, told_simp1, told_simp2, and_true, true_and, and_false, false_and, or_true, true_or, or_false, false_or, not_true_eq_false, not_false_eq_true, decide_true, decide_false, Bool.decide_eq_true])⟩ ?_
  exact ⟨rfl, by kernel_rfl⟩
  refine rg (A := (AV.b (e.sku.toList == sku.toList) = AV.b false) ∧ (AV.b false = AV.b (decide (e.sku = sku ∧ e.dot.rep = rep)))) cx [(3, { tell := some (.b (false)) }), (11, { tell := some (.b (decide (e.sku = sku ∧ e.dot.rep = rep))) })] [4] [] ⟨(told_seqf h_1), (by simp only [eq_false h_1, told_simp1, told_simp2, and_true, true_and, and_false, false_and, or_true, true_or, or_false, false_or, not_true_eq_false, not_false_eq_true, decide_true, decide_false, Bool.decide_eq_true])⟩ ?_
  exact ⟨rfl, by kernel_rfl⟩
  refine sn ?_
  refine st_ret (by kernel_rfl) ?_
  exact q_ret (r := .b (decide (e.sku = sku ∧ e.dot.rep = rep))) (obl := []) (by kernel_rfl) trivial (AVle.refl _)
theorem con51_1 (es : List Entry) (sku : ByteArray) (hs : es.length * 40 ≤ 140737488351232) : Con Try.prog 51 [.sl (es.map c28), .fn (.func 53) [] [.eptr [.s sku]]] (.sl ((es.filter (fun e => decide (e.sku = sku))).map c28)) :=
  by
  refine con_lens 0 (c28) (es) (by kernel_rfl) Go.Proofs.Try.func51 (by kernel_rfl) fun hl_0 => ?_
  refine st_con tab_ok (by kernel_rfl) [.tmp 4] 23 Go.Proofs.Try.func51 (by kernel_rfl) (by kernel_rfl) ?_
  intro e0 cx
  refine sq ?_
  refine rg (A := True) cx [] [0, 1] [] trivial ?_
  refine sn ?_
  refine sq ?_
  refine rg (A := True) cx [] [0, 1, 5] [] trivial ?_
  refine sn ?_
  refine sq ?_
  refine sq ?_
  refine rg (A := _) cx [(1, { tell := some (.i .i64 ((↑es.length : Int))) })] [1, 5, 8, 9, 10] [] (told_len c28 es) ?_
  refine sn ?_
  refine st_block 0 (by kernel_rfl) ?_
  refine awp_adopt 5 1005 28 4 (σ' := ⟨[(1, .fn (Fn.func (53 : FuncId)) [] [.eptr [.s (sku)]]), (5, .own 1005 0), (8, .sl (List.map c28 es)), (9, .i .i64 ((↑es.length : Int))), (10, .i .i64 ((0 : Int)))], [(1005, ⟨0, 28, .row 4 (List.map c28 [])⟩)]⟩) (by kernel_rfl) ?_
  refine st_loop (X := Int × List Entry) (fun x => ⟨[(1, .fn (Fn.func (53 : FuncId)) [] [.eptr [.s (sku)]]), (5, .own 1005 0), (8, .sl (List.map c28 es)), (9, .i .i64 ((↑es.length : Int))), (10, .i .i64 (x.fst))], [(1005, ⟨0, 28, .row 4 (List.map c28 x.snd)⟩)]⟩) (fun x ↦ decP es x.fst x.snd) (fun x ↦ invP (fun e ↦ decide (e.sku = sku)) es x.fst x.snd) [1, 5, 8, 9, 10] [1005] (((0 : Int), [])) (by kernel_rfl) (by kernel_rfl) (show invP (fun e ↦ decide (e.sku = sku)) es (0 : Int) [] from ?g0) ?_; rotate_left 1
  rintro ⟨i_0, l_1⟩ h_2
  obtain ⟨h_3, h_4, h_5, h_6⟩ : (0 : Int) ≤ i_0 ∧ i_0 ≤ (↑es.length : Int) ∧ l_1 = List.filter (fun e ↦ decide (e.sku = sku)) (List.take i_0.toNat es) ∧ (↑l_1.length : Int) ≤ i_0 := h_2
  refine sq ?_
  refine rg (A := (AV.b (decide (i_0 < (↑es.length : Int))) = AV.b (decide (i_0 < (↑es.length : Int))))) cx [(0, { tell := some (.b (decide (i_0 < (↑es.length : Int)))) })] [1, 5, 8, 9, 10, 11] [1005] (by kernel_rfl) ?_
  refine sn ?_
  refine sq ?_
  refine st_dec (i_0 < (↑es.length : Int)) (by kernel_rfl) (by kernel_rfl) (fun h_7 => ?_) (fun h_7 => ?_)
  refine st_skip (by kernel_rfl) ?_
  refine sn ?_
  refine sq ?_
  refine st_block 1 (by kernel_rfl) ?_
  refine sq ?_
  refine rg (A := ((0 : Int) ≤ i_0) ∧ ((List.map c28 es)[i_0.toNat]? = some (c28 es[i_0.toNat]!)) ∧ ((c28 es[i_0.toNat]!).length = (4 : Nat)) ∧ ((4 : Nat) ≤ [AV.i IntKind.i64 es[i_0.toNat]!.dot.rep, AV.i IntKind.i64 es[i_0.toNat]!.dot.num, AV.s es[i_0.toNat]!.sku, AV.i IntKind.i64 es[i_0.toNat]!.qty].length)) cx [(0, { row := (c28 es[i_0.toNat]!) })] [1, 5, 8, 9, 10, 7] [1005, 7] ⟨(by (with_reducible assumption)), (by (with_reducible refine get_map ?_; omega)), (by kernel_rfl), (by (simp only [List.length_append, List.length_cons, List.length_nil]; omega))⟩ ?_
  refine sn ?_
  refine sq ?_
  refine rg (A := _) cx [(2, { val := some (resC (con53 (es[i_0.toNat]!) (sku))) })] [1, 5, 8, 9, 10, 7, 16] [1005, 7] (con53 (es[i_0.toNat]!) (sku)) ?_
  refine sn ?_
  refine st_dec (es[i_0.toNat]!.sku = sku) (by kernel_rfl) (by kernel_rfl) (fun h_8 => ?_) (fun h_8 => ?_)
  refine rg (A := (28 = (28 : Nat)) ∧ ((4 : Nat) = 4) ∧ ([AV.i IntKind.i64 (0 : Int), AV.i IntKind.i64 (0 : Int), AV.s { data := #[] : ByteArray }, AV.i IntKind.i64 (0 : Int)].length = (4 : Nat)) ∧ (∀ (r : List AV), r ∈ List.map c28 [es[i_0.toNat]!] → r.length = 4) ∧ ((List.map c28 l_1).length + (List.map c28 [es[i_0.toNat]!]).length ≤ maxLen) ∧ (((List.map c28 l_1).length + (List.map c28 [es[i_0.toNat]!]).length) * (40 : Nat) ≤ (140737488355328 : Nat)) ∧ (List.map c28 l_1 ++ List.map c28 [es[i_0.toNat]!] = List.map c28 (l_1 ++ [es[i_0.toNat]!]))) cx [(3, { rows := some (List.map c28 (l_1 ++ [es[i_0.toNat]!])) })] [1, 5, 8, 9, 10] [1005] ⟨(by kernel_rfl), (by kernel_rfl), (by kernel_rfl), (by (with_reducible refine len_map (fun _ => ?_) _; kernel_rfl)), (by (simp only [Go.maxLen, List.length_map, List.length_append, List.length_cons, List.length_nil]; omega)), (by (simp only [Go.maxLen, List.length_map, List.length_append, List.length_cons, List.length_nil]; omega)), (by (with_reducible refine app_map ?_; kernel_rfl))⟩ ?_
  refine q_blk_normal ?_
  refine sn ?_
  refine rg (A := (AV.i IntKind.i64 (IntKind.i64.wrap (i_0 + (1 : Int))) = AV.i IntKind.i64 (i_0 + (1 : Int)))) cx [(0, { tell := some (.i .i64 (i_0 + (1 : Int))) })] [1, 5, 8, 9, 10] [1005] (told_i64 (by omega) (by omega)) ?_
  refine sn ?_
  refine loop_next ((i_0 + (1 : Int), l_1 ++ [es[i_0.toNat]!])) (by kernel_rfl) (show ((↑es.length : Int) - (i_0 + (1 : Int))).toNat < ((↑es.length : Int) - i_0).toNat from (by omega)) (show invP (fun e ↦ decide (e.sku = sku)) es (i_0 + (1 : Int)) (l_1 ++ [es[i_0.toNat]!]) from ?g1); rotate_left 1
  refine st_skip (by kernel_rfl) ?_
  refine q_blk_normal ?_
  refine sn ?_
  refine rg (A := (AV.i IntKind.i64 (IntKind.i64.wrap (i_0 + (1 : Int))) = AV.i IntKind.i64 (i_0 + (1 : Int)))) cx [(0, { tell := some (.i .i64 (i_0 + (1 : Int))) })] [1, 5, 8, 9, 10] [1005] (told_i64 (by omega) (by omega)) ?_
  refine sn ?_
  refine loop_next ((i_0 + (1 : Int), l_1)) (by kernel_rfl) (show ((↑es.length : Int) - (i_0 + (1 : Int))).toNat < ((↑es.length : Int) - i_0).toNat from (by omega)) (show invP (fun e ↦ decide (e.sku = sku)) es (i_0 + (1 : Int)) l_1 from ?g2); rotate_left 1
  refine st_exit 0 (by kernel_rfl) ?_
  refine q_seq_exit ?_
  refine q_seq_exit ?_
  refine q_blk_hit ?_
  refine sn ?_
  refine sq ?_
  refine rg (A := True) cx [] [4] [1005] trivial ?_
  refine sn ?_
  refine st_ret (by kernel_rfl) ?_
  refine q_ret (r := .sl (List.map c28 l_1)) (obl := []) (by kernel_rfl) trivial (AVle.eq (show AV.sl (List.map c28 l_1) = AV.sl (List.map c28 (List.filter (fun e ↦ decide (e.sku = sku)) es)) from ?g3)); rotate_left 1
  rotate_left
  revert i_0 l_1 h_3 h_4 h_5 h_6 h_7 h_8; rotate_left
  revert i_0 l_1 h_3 h_4 h_5 h_6 h_7 h_8; rotate_left
  revert i_0 l_1 h_3 h_4 h_5 h_6 h_7; rotate_left
  case g0 => exact (invP_init _ _)
  case g1 => exact (fun i l h0 h1 h2 h3 h4 h5 => invP_add h0 h2 h3 h4 (decide_eq_true h5))
  case g2 => exact (fun i l h0 h1 h2 h3 h4 h5 => invP_skip h0 h2 h3 h4 (by simpa using h5))
  case g3 => exact (fun i l h0 h1 h2 h3 h4 => by rw [invP_done h2 h4])
theorem con51_2 (es : List Entry) (sku : ByteArray) (rep : Int) (hs : es.length * 40 ≤ 140737488351232) : Con Try.prog 51 [.sl (es.map c28), .fn (.func 52) [] [.eptr [.s sku], .eptr [.i .i64 rep]]] (.sl ((es.filter (fun e => decide (e.sku = sku ∧ e.dot.rep = rep))).map c28)) :=
  by
  refine con_lens 0 (c28) (es) (by kernel_rfl) Go.Proofs.Try.func51 (by kernel_rfl) fun hl_0 => ?_
  refine st_con tab_ok (by kernel_rfl) [.tmp 4] 23 Go.Proofs.Try.func51 (by kernel_rfl) (by kernel_rfl) ?_
  intro e0 cx
  refine sq ?_
  refine rg (A := True) cx [] [0, 1] [] trivial ?_
  refine sn ?_
  refine sq ?_
  refine rg (A := True) cx [] [0, 1, 5] [] trivial ?_
  refine sn ?_
  refine sq ?_
  refine sq ?_
  refine rg (A := _) cx [(1, { tell := some (.i .i64 ((↑es.length : Int))) })] [1, 5, 8, 9, 10] [] (told_len c28 es) ?_
  refine sn ?_
  refine st_block 0 (by kernel_rfl) ?_
  refine awp_adopt 5 1005 28 4 (σ' := ⟨[(1, .fn (Fn.func (52 : FuncId)) [] [.eptr [.s (sku)], .eptr [.i .i64 (rep)]]), (5, .own 1005 0), (8, .sl (List.map c28 es)), (9, .i .i64 ((↑es.length : Int))), (10, .i .i64 ((0 : Int)))], [(1005, ⟨0, 28, .row 4 (List.map c28 [])⟩)]⟩) (by kernel_rfl) ?_
  refine st_loop (X := Int × List Entry) (fun x => ⟨[(1, .fn (Fn.func (52 : FuncId)) [] [.eptr [.s (sku)], .eptr [.i .i64 (rep)]]), (5, .own 1005 0), (8, .sl (List.map c28 es)), (9, .i .i64 ((↑es.length : Int))), (10, .i .i64 (x.fst))], [(1005, ⟨0, 28, .row 4 (List.map c28 x.snd)⟩)]⟩) (fun x ↦ decP es x.fst x.snd) (fun x ↦ invP (fun e ↦ decide (e.sku = sku ∧ e.dot.rep = rep)) es x.fst x.snd) [1, 5, 8, 9, 10] [1005] (((0 : Int), [])) (by kernel_rfl) (by kernel_rfl) (show invP (fun e ↦ decide (e.sku = sku ∧ e.dot.rep = rep)) es (0 : Int) [] from ?g0) ?_; rotate_left 1
  rintro ⟨i_0, l_1⟩ h_2
  obtain ⟨h_3, h_4, h_5, h_6⟩ : (0 : Int) ≤ i_0 ∧ i_0 ≤ (↑es.length : Int) ∧ l_1 = List.filter (fun e ↦ decide (e.sku = sku ∧ e.dot.rep = rep)) (List.take i_0.toNat es) ∧ (↑l_1.length : Int) ≤ i_0 := h_2
  refine sq ?_
  refine rg (A := (AV.b (decide (i_0 < (↑es.length : Int))) = AV.b (decide (i_0 < (↑es.length : Int))))) cx [(0, { tell := some (.b (decide (i_0 < (↑es.length : Int)))) })] [1, 5, 8, 9, 10, 11] [1005] (by kernel_rfl) ?_
  refine sn ?_
  refine sq ?_
  refine st_dec (i_0 < (↑es.length : Int)) (by kernel_rfl) (by kernel_rfl) (fun h_7 => ?_) (fun h_7 => ?_)
  refine st_skip (by kernel_rfl) ?_
  refine sn ?_
  refine sq ?_
  refine st_block 1 (by kernel_rfl) ?_
  refine sq ?_
  refine rg (A := ((0 : Int) ≤ i_0) ∧ ((List.map c28 es)[i_0.toNat]? = some (c28 es[i_0.toNat]!)) ∧ ((c28 es[i_0.toNat]!).length = (4 : Nat)) ∧ ((4 : Nat) ≤ [AV.i IntKind.i64 es[i_0.toNat]!.dot.rep, AV.i IntKind.i64 es[i_0.toNat]!.dot.num, AV.s es[i_0.toNat]!.sku, AV.i IntKind.i64 es[i_0.toNat]!.qty].length)) cx [(0, { row := (c28 es[i_0.toNat]!) })] [1, 5, 8, 9, 10, 7] [1005, 7] ⟨(by (with_reducible assumption)), (by (with_reducible refine get_map ?_; omega)), (by kernel_rfl), (by (simp only [List.length_append, List.length_cons, List.length_nil]; omega))⟩ ?_
  refine sn ?_
  refine sq ?_
  refine rg (A := _) cx [(2, { val := some (resC (con52 (es[i_0.toNat]!) (sku) (rep))) })] [1, 5, 8, 9, 10, 7, 16] [1005, 7] (con52 (es[i_0.toNat]!) (sku) (rep)) ?_
  refine sn ?_
  refine st_dec (es[i_0.toNat]!.sku = sku ∧ es[i_0.toNat]!.dot.rep = rep) (by kernel_rfl) (by kernel_rfl) (fun h_8 => ?_) (fun h_8 => ?_)
  refine rg (A := (28 = (28 : Nat)) ∧ ((4 : Nat) = 4) ∧ ([AV.i IntKind.i64 (0 : Int), AV.i IntKind.i64 (0 : Int), AV.s { data := #[] : ByteArray }, AV.i IntKind.i64 (0 : Int)].length = (4 : Nat)) ∧ (∀ (r : List AV), r ∈ List.map c28 [es[i_0.toNat]!] → r.length = 4) ∧ ((List.map c28 l_1).length + (List.map c28 [es[i_0.toNat]!]).length ≤ maxLen) ∧ (((List.map c28 l_1).length + (List.map c28 [es[i_0.toNat]!]).length) * (40 : Nat) ≤ (140737488355328 : Nat)) ∧ (List.map c28 l_1 ++ List.map c28 [es[i_0.toNat]!] = List.map c28 (l_1 ++ [es[i_0.toNat]!]))) cx [(3, { rows := some (List.map c28 (l_1 ++ [es[i_0.toNat]!])) })] [1, 5, 8, 9, 10] [1005] ⟨(by kernel_rfl), (by kernel_rfl), (by kernel_rfl), (by (with_reducible refine len_map (fun _ => ?_) _; kernel_rfl)), (by (simp only [Go.maxLen, List.length_map, List.length_append, List.length_cons, List.length_nil]; omega)), (by (simp only [Go.maxLen, List.length_map, List.length_append, List.length_cons, List.length_nil]; omega)), (by (with_reducible refine app_map ?_; kernel_rfl))⟩ ?_
  refine q_blk_normal ?_
  refine sn ?_
  refine rg (A := (AV.i IntKind.i64 (IntKind.i64.wrap (i_0 + (1 : Int))) = AV.i IntKind.i64 (i_0 + (1 : Int)))) cx [(0, { tell := some (.i .i64 (i_0 + (1 : Int))) })] [1, 5, 8, 9, 10] [1005] (told_i64 (by omega) (by omega)) ?_
  refine sn ?_
  refine loop_next ((i_0 + (1 : Int), l_1 ++ [es[i_0.toNat]!])) (by kernel_rfl) (show ((↑es.length : Int) - (i_0 + (1 : Int))).toNat < ((↑es.length : Int) - i_0).toNat from (by omega)) (show invP (fun e ↦ decide (e.sku = sku ∧ e.dot.rep = rep)) es (i_0 + (1 : Int)) (l_1 ++ [es[i_0.toNat]!]) from ?g1); rotate_left 1
  refine st_skip (by kernel_rfl) ?_
  refine q_blk_normal ?_
  refine sn ?_
  refine rg (A := (AV.i IntKind.i64 (IntKind.i64.wrap (i_0 + (1 : Int))) = AV.i IntKind.i64 (i_0 + (1 : Int)))) cx [(0, { tell := some (.i .i64 (i_0 + (1 : Int))) })] [1, 5, 8, 9, 10] [1005] (told_i64 (by omega) (by omega)) ?_
  refine sn ?_
  refine loop_next ((i_0 + (1 : Int), l_1)) (by kernel_rfl) (show ((↑es.length : Int) - (i_0 + (1 : Int))).toNat < ((↑es.length : Int) - i_0).toNat from (by omega)) (show invP (fun e ↦ decide (e.sku = sku ∧ e.dot.rep = rep)) es (i_0 + (1 : Int)) l_1 from ?g2); rotate_left 1
  refine st_exit 0 (by kernel_rfl) ?_
  refine q_seq_exit ?_
  refine q_seq_exit ?_
  refine q_blk_hit ?_
  refine sn ?_
  refine sq ?_
  refine rg (A := True) cx [] [4] [1005] trivial ?_
  refine sn ?_
  refine st_ret (by kernel_rfl) ?_
  refine q_ret (r := .sl (List.map c28 l_1)) (obl := []) (by kernel_rfl) trivial (AVle.eq (show AV.sl (List.map c28 l_1) = AV.sl (List.map c28 (List.filter (fun e ↦ decide (e.sku = sku ∧ e.dot.rep = rep)) es)) from ?g3)); rotate_left 1
  rotate_left
  revert i_0 l_1 h_3 h_4 h_5 h_6 h_7 h_8; rotate_left
  revert i_0 l_1 h_3 h_4 h_5 h_6 h_7 h_8; rotate_left
  revert i_0 l_1 h_3 h_4 h_5 h_6 h_7; rotate_left
  case g0 => exact (invP_init _ _)
  case g1 => exact (fun i l h0 h1 h2 h3 h4 h5 => invP_add h0 h2 h3 h4 (decide_eq_true h5))
  case g2 => exact (fun i l h0 h1 h2 h3 h4 h5 => invP_skip h0 h2 h3 h4 (by simpa using h5))
  case g3 => exact (fun i l h0 h1 h2 h3 h4 => by rw [invP_done h2 h4])
theorem con23 (es : List Entry) (sku : ByteArray) (hs : es.length * 40 ≤ 140737488351232) : Con Try.prog 23 [.sl (es.map c28), .s sku] (.tup [.sl ((ofV es sku).1.map c28), .i .i64 (ofV es sku).2]) :=
  by
  refine con_lens 0 (c28) (es) (by kernel_rfl) Go.Proofs.Try.func23 (by kernel_rfl) fun hl_0 => ?_
  refine st_con tab_ok (by kernel_rfl) [.tmp 4, .tmp 5] 15 Go.Proofs.Try.func23 (by kernel_rfl) (by kernel_rfl) ?_
  intro e0 cx
  refine sq ?_
  refine rg (A := True) cx [] [0, 3] [3] trivial ?_
  refine sn ?_
  refine sq ?_
  refine sq ?_
  refine rg (A := _ ∧ (AV.b (lstE es != (0 : Int)) = AV.b (decide ¬lstE es = (0 : Int)))) cx [(1, { val := some (.i .i64 (lstE es)) }), (2, { tell := some (.b (decide ¬lstE es = (0 : Int))) })] [0, 3, 8] [3] ⟨(con16 (es)), (told_neq)⟩ ?_
  refine sn ?_
  refine st_dec (¬lstE es = (0 : Int)) (by kernel_rfl) (by kernel_rfl) (fun h_0 => ?_) (fun h_0 => ?_)
  refine sq ?_
  refine rg (A := True) cx [] [4, 5] [] trivial ?_
  refine sn ?_
  refine st_ret (by kernel_rfl) ?_
  refine q_seq_ret ?_
  refine q_ret (r := .tup [.nl, .i .i64 ((1 : Int))]) (obl := []) (by kernel_rfl) trivial (AVle.tup (ZLe.cons (AVle.nl' (show List.map c28 (ofV es sku).fst = [] from ?g1)) (ZLe.cons (AVle.eq (show AV.i IntKind.i64 (1 : Int) = AV.i IntKind.i64 (ofV es sku).snd from ?g0)) ZLe.nil))); rotate_left 2
  refine st_skip (by kernel_rfl) ?_
  refine sn ?_
  refine sq ?_
  refine sq ?_
  refine rg (A := _ ∧ ((AV.b !good sku) = AV.b (decide ¬good sku = true))) cx [(1, { val := some (.b (good sku)) }), (2, { tell := some (.b (decide ¬good sku = true)) })] [0, 3, 11] [3] ⟨(con47 (sku)), (told_not)⟩ ?_
  refine sn ?_
  refine st_dec (¬good sku = true) (by kernel_rfl) (by kernel_rfl) (fun h_1 => ?_) (fun h_1 => ?_)
  refine sq ?_
  refine rg (A := True) cx [] [4, 5] [] trivial ?_
  refine sn ?_
  refine st_ret (by kernel_rfl) ?_
  refine q_seq_ret ?_
  refine q_ret (r := .tup [.nl, .i .i64 ((5 : Int))]) (obl := []) (by kernel_rfl) trivial (AVle.tup (ZLe.cons (AVle.nl' (show List.map c28 (ofV es sku).fst = [] from ?g3)) (ZLe.cons (AVle.eq (show AV.i IntKind.i64 (5 : Int) = AV.i IntKind.i64 (ofV es sku).snd from ?g2)) ZLe.nil))); rotate_left 2
  refine st_skip (by kernel_rfl) ?_
  refine sn ?_
  refine sq ?_
  refine rg (A := _) cx [(2, { val := some (.sl (List.map c28 (List.filter (fun e ↦ decide (e.sku = sku)) es))) })] [4, 5] [] (con51_1 (es) (sku) (by (with_reducible assumption))) ?_
  refine sn ?_
  refine st_ret (by kernel_rfl) ?_
  refine q_ret (r := .tup [.sl (List.map c28 (List.filter (fun e ↦ decide (e.sku = sku)) es)), .i .i64 ((0 : Int))]) (obl := []) (by kernel_rfl) trivial (AVle.tup (ZLe.cons (AVle.eq (show AV.sl (List.map c28 (List.filter (fun e ↦ decide (e.sku = sku)) es)) = AV.sl (List.map c28 (ofV es sku).fst) from ?g5)) (ZLe.cons (AVle.eq (show AV.i IntKind.i64 (0 : Int) = AV.i IntKind.i64 (ofV es sku).snd from ?g4)) ZLe.nil))); rotate_left 2
  revert h_0; rotate_left
  revert h_0; rotate_left
  revert h_0 h_1; rotate_left
  revert h_0 h_1; rotate_left
  revert h_0 h_1; rotate_left
  revert h_0 h_1; rotate_left
  case g0 => exact (fun h => by rw [ofV_form h])
  case g1 => exact (fun h => by rw [ofV_form h]; rfl)
  case g2 => exact (fun h g => by rw [ofV_sku (Classical.not_not.1 h) g])
  case g3 => exact (fun h g => by rw [ofV_sku (Classical.not_not.1 h) g]; rfl)
  case g4 => exact (fun h g => by rw [ofV_ok (Classical.not_not.1 h) (Classical.not_not.1 g)])
  case g5 => exact (fun h g => by rw [ofV_ok (Classical.not_not.1 h) (Classical.not_not.1 g)])
theorem con20 (es : List Entry) (rep : Int) (sku : ByteArray) (hs : es.length * 40 ≤ 140737488351232) : Con Try.prog 20 [.sl (es.map c28), .i .i64 rep, .s sku] (.tup [.sl ((ownV es rep sku).1.map c28), .i .i64 (ownV es rep sku).2]) :=
  by
  refine con_lens 0 (c28) (es) (by kernel_rfl) Go.Proofs.Try.func20 (by kernel_rfl) fun hl_0 => ?_
  refine st_con tab_ok (by kernel_rfl) [.tmp 6, .tmp 7] 23 Go.Proofs.Try.func20 (by kernel_rfl) (by kernel_rfl) ?_
  intro e0 cx
  refine sq ?_
  refine rg (A := True) cx [] [0, 4, 5] [4, 5] trivial ?_
  refine sn ?_
  refine sq ?_
  refine sq ?_
  refine rg (A := _ ∧ (AV.b (lstE es != (0 : Int)) = AV.b (decide ¬lstE es = (0 : Int)))) cx [(1, { val := some (.i .i64 (lstE es)) }), (2, { tell := some (.b (decide ¬lstE es = (0 : Int))) })] [0, 4, 5, 10] [4, 5] ⟨(con16 (es)), (told_neq)⟩ ?_
  refine sn ?_
  refine st_dec (¬lstE es = (0 : Int)) (by kernel_rfl) (by kernel_rfl) (fun h_0 => ?_) (fun h_0 => ?_)
  refine sq ?_
  refine rg (A := True) cx [] [6, 7] [] trivial ?_
  refine sn ?_
  refine st_ret (by kernel_rfl) ?_
  refine q_seq_ret ?_
  refine q_ret (r := .tup [.nl, .i .i64 ((1 : Int))]) (obl := []) (by kernel_rfl) trivial (AVle.tup (ZLe.cons (AVle.nl' (show List.map c28 (ownV es rep sku).fst = [] from ?g1)) (ZLe.cons (AVle.eq (show AV.i IntKind.i64 (1 : Int) = AV.i IntKind.i64 (ownV es rep sku).snd from ?g0)) ZLe.nil))); rotate_left 2
  refine st_skip (by kernel_rfl) ?_
  refine sn ?_
  refine sq ?_
  refine sq ?_
  refine st_join (σ' := ⟨[(0, .sl (List.map c28 es)), (4, .ptr (4) (0) (0) (0)), (5, .ptr (5) (0) (0) (0)), (16, .b (decide (rep < (0 : Int) ∨ (16 : Int) ≤ rep)))], [(4, ⟨0, 3, .var [.i .i64 (rep)]⟩), (5, ⟨0, 9, .var [.s (sku)]⟩)]⟩) ?_ ?_
  refine st_split (rep < (0 : Int)) (fun h_2 => ?_) (fun h_2 => ?_)
  refine rg (A := _ ∧ (AV.b true = AV.b (decide (rep < (0 : Int) ∨ (16 : Int) ≤ rep)))) cx [(1, { tell := some (.b (true)) }), (5, { tell := some (.b (decide (rep < (0 : Int) ∨ (16 : Int) ≤ rep))) })] [0, 4, 5, 16] [4, 5] ⟨(told_true h_2), (by simp only [eq_true h_2, told_simp1, told_simp2, and_true, true_and, and_false, false_and, or_true, true_or, or_false, false_or, not_true_eq_false, not_false_eq_true, decide_true, decide_false, Bool.decide_eq_true])⟩ ?_
  exact ⟨rfl, by kernel_rfl⟩
  refine rg (A := _ ∧ (AV.b (decide (rep ≥ (16 : Int))) = AV.b (decide ((16 : Int) ≤ rep))) ∧ (AV.b (decide ((16 : Int) ≤ rep)) = AV.b (decide (rep < (0 : Int) ∨ (16 : Int) ≤ rep)))) cx [(1, { tell := some (.b (false)) }), (4, { tell := some (.b (decide ((16 : Int) ≤ rep))) }), (5, { tell := some (.b (decide (rep < (0 : Int) ∨ (16 : Int) ≤ rep))) })] [0, 4, 5, 16] [4, 5] ⟨(told_false h_2), (by kernel_rfl), (by simp only [eq_false h_2, told_simp1, told_simp2, and_true, true_and, and_false, false_and, or_true, true_or, or_false, false_or, not_true_eq_false, not_false_eq_true, decide_true, decide_false, Bool.decide_eq_true])⟩ ?_
  exact ⟨rfl, by kernel_rfl⟩
  refine sn ?_
  refine st_dec (rep < (0 : Int) ∨ (16 : Int) ≤ rep) (by kernel_rfl) (by kernel_rfl) (fun h_3 => ?_) (fun h_3 => ?_)
  refine sq ?_
  refine rg (A := True) cx [] [6, 7] [] trivial ?_
  refine sn ?_
  refine st_ret (by kernel_rfl) ?_
  refine q_seq_ret ?_
  refine q_ret (r := .tup [.nl, .i .i64 ((3 : Int))]) (obl := []) (by kernel_rfl) trivial (AVle.tup (ZLe.cons (AVle.nl' (show List.map c28 (ownV es rep sku).fst = [] from ?g3)) (ZLe.cons (AVle.eq (show AV.i IntKind.i64 (3 : Int) = AV.i IntKind.i64 (ownV es rep sku).snd from ?g2)) ZLe.nil))); rotate_left 2
  refine st_skip (by kernel_rfl) ?_
  refine sn ?_
  refine sq ?_
  refine sq ?_
  refine rg (A := _ ∧ ((AV.b !good sku) = AV.b (decide ¬good sku = true))) cx [(1, { val := some (.b (good sku)) }), (2, { tell := some (.b (decide ¬good sku = true)) })] [0, 4, 5, 19] [4, 5] ⟨(con47 (sku)), (told_not)⟩ ?_
  refine sn ?_
  refine st_dec (¬good sku = true) (by kernel_rfl) (by kernel_rfl) (fun h_4 => ?_) (fun h_4 => ?_)
  refine sq ?_
  refine rg (A := True) cx [] [6, 7] [] trivial ?_
  refine sn ?_
  refine st_ret (by kernel_rfl) ?_
  refine q_seq_ret ?_
  refine q_ret (r := .tup [.nl, .i .i64 ((5 : Int))]) (obl := []) (by kernel_rfl) trivial (AVle.tup (ZLe.cons (AVle.nl' (show List.map c28 (ownV es rep sku).fst = [] from ?g5)) (ZLe.cons (AVle.eq (show AV.i IntKind.i64 (5 : Int) = AV.i IntKind.i64 (ownV es rep sku).snd from ?g4)) ZLe.nil))); rotate_left 2
  refine st_skip (by kernel_rfl) ?_
  refine sn ?_
  refine sq ?_
  refine rg (A := _) cx [(2, { val := some (.sl (List.map c28 (List.filter (fun e ↦ decide (e.sku = sku ∧ e.dot.rep = rep)) es))) })] [6, 7] [] (con51_2 (es) (sku) (rep) (by (with_reducible assumption))) ?_
  refine sn ?_
  refine st_ret (by kernel_rfl) ?_
  refine q_ret (r := .tup [.sl (List.map c28 (List.filter (fun e ↦ decide (e.sku = sku ∧ e.dot.rep = rep)) es)), .i .i64 ((0 : Int))]) (obl := []) (by kernel_rfl) trivial (AVle.tup (ZLe.cons (AVle.eq (show AV.sl (List.map c28 (List.filter (fun e ↦ decide (e.sku = sku ∧ e.dot.rep = rep)) es)) = AV.sl (List.map c28 (ownV es rep sku).fst) from ?g7)) (ZLe.cons (AVle.eq (show AV.i IntKind.i64 (0 : Int) = AV.i IntKind.i64 (ownV es rep sku).snd from ?g6)) ZLe.nil))); rotate_left 2
  revert h_0; rotate_left
  revert h_0; rotate_left
  revert h_0 h_3; rotate_left
  revert h_0 h_3; rotate_left
  revert h_0 h_3 h_4; rotate_left
  revert h_0 h_3 h_4; rotate_left
  revert h_0 h_3 h_4; rotate_left
  revert h_0 h_3 h_4; rotate_left
  case g0 => exact (fun h => by rw [ownV_form h])
  case g1 => exact (fun h => by rw [ownV_form h]; rfl)
  case g2 => exact (fun h g => by rw [ownV_rep (Classical.not_not.1 h) g])
  case g3 => exact (fun h g => by rw [ownV_rep (Classical.not_not.1 h) g]; rfl)
  case g4 => exact (fun h r g => by rw [ownV_sku (Classical.not_not.1 h) r g])
  case g5 => exact (fun h r g => by rw [ownV_sku (Classical.not_not.1 h) r g]; rfl)
  case g6 => exact (fun h r g => by rw [ownV_ok (Classical.not_not.1 h) r (Classical.not_not.1 g)])
  case g7 => exact (fun h r g => by rw [ownV_ok (Classical.not_not.1 h) r (Classical.not_not.1 g)])
theorem con21 (es : List Entry) (sku : ByteArray) (hs : es.length * 40 ≤ 140737488351232) : Con Try.prog 21 [.sl (es.map c28), .s sku] (.tup [.sl ((ofV es sku).1.map c28), .i .i64 (ofV es sku).2]) :=
  by
  refine con_lens 0 (c28) (es) (by kernel_rfl) Go.Proofs.Try.func21 (by kernel_rfl) fun hl_0 => ?_
  refine st_con tab_ok (by kernel_rfl) [.tmp 4, .tmp 5] 35 Go.Proofs.Try.func21 (by kernel_rfl) (by kernel_rfl) ?_
  intro e0 cx
  refine sq ?_
  refine rg (A := True) cx [] [0, 1] [] trivial ?_
  refine sn ?_
  refine sq ?_
  refine sq ?_
  refine rg (A := _ ∧ (AV.b (lstE es != (0 : Int)) = AV.b (decide ¬lstE es = (0 : Int)))) cx [(1, { val := some (.i .i64 (lstE es)) }), (2, { tell := some (.b (decide ¬lstE es = (0 : Int))) })] [0, 1, 10] [] ⟨(con18 (es)), (told_neq)⟩ ?_
  refine sn ?_
  refine st_dec (¬lstE es = (0 : Int)) (by kernel_rfl) (by kernel_rfl) (fun h_0 => ?_) (fun h_0 => ?_)
  refine sq ?_
  refine rg (A := True) cx [] [4, 5] [] trivial ?_
  refine sn ?_
  refine st_ret (by kernel_rfl) ?_
  refine q_seq_ret ?_
  refine q_ret (r := .tup [.nl, .i .i64 ((1 : Int))]) (obl := []) (by kernel_rfl) trivial (AVle.tup (ZLe.cons (AVle.nl' (show List.map c28 (ofV es sku).fst = [] from ?g1)) (ZLe.cons (AVle.eq (show AV.i IntKind.i64 (1 : Int) = AV.i IntKind.i64 (ofV es sku).snd from ?g0)) ZLe.nil))); rotate_left 2
  refine st_skip (by kernel_rfl) ?_
  refine sn ?_
  refine sq ?_
  refine sq ?_
  refine rg (A := _ ∧ ((AV.b !good sku) = AV.b (decide ¬good sku = true))) cx [(1, { val := some (.b (good sku)) }), (2, { tell := some (.b (decide ¬good sku = true)) })] [0, 1, 13] [] ⟨(con50 (sku)), (told_not)⟩ ?_
  refine sn ?_
  refine st_dec (¬good sku = true) (by kernel_rfl) (by kernel_rfl) (fun h_1 => ?_) (fun h_1 => ?_)
  refine sq ?_
  refine rg (A := True) cx [] [4, 5] [] trivial ?_
  refine sn ?_
  refine st_ret (by kernel_rfl) ?_
  refine q_seq_ret ?_
  refine q_ret (r := .tup [.nl, .i .i64 ((5 : Int))]) (obl := []) (by kernel_rfl) trivial (AVle.tup (ZLe.cons (AVle.nl' (show List.map c28 (ofV es sku).fst = [] from ?g3)) (ZLe.cons (AVle.eq (show AV.i IntKind.i64 (5 : Int) = AV.i IntKind.i64 (ofV es sku).snd from ?g2)) ZLe.nil))); rotate_left 2
  refine st_skip (by kernel_rfl) ?_
  refine sn ?_
  refine sq ?_
  refine rg (A := True) cx [] [0, 1, 6] [] trivial ?_
  refine sn ?_
  refine sq ?_
  refine sq ?_
  refine rg (A := True) cx [] [0, 1, 6, 7] [] trivial ?_
  refine sn ?_
  refine st_block 0 (by kernel_rfl) ?_
  refine awp_adopt 6 1006 28 4 (σ' := ⟨[(0, .sl (List.map c28 es)), (1, .s (sku)), (6, .own 1006 0), (7, .i .i64 ((0 : Int)))], [(1006, ⟨0, 28, .row 4 (List.map c28 [])⟩)]⟩) (by kernel_rfl) ?_
  refine st_loop (X := Int × List Entry) (fun x => ⟨[(0, .sl (List.map c28 es)), (1, .s (sku)), (6, .own 1006 0), (7, .i .i64 (x.fst))], [(1006, ⟨0, 28, .row 4 (List.map c28 x.snd)⟩)]⟩) (fun x ↦ decP es x.fst x.snd) (fun x ↦ invP (fun e ↦ decide (e.sku = sku)) es x.fst x.snd) [0, 1, 6, 7] [1006] (((0 : Int), [])) (by kernel_rfl) (by kernel_rfl) (show invP (fun e ↦ decide (e.sku = sku)) es (0 : Int) [] from ?g4) ?_; rotate_left 1
  rintro ⟨i_2, l_3⟩ h_4
  obtain ⟨h_5, h_6, h_7, h_8⟩ : (0 : Int) ≤ i_2 ∧ i_2 ≤ (↑es.length : Int) ∧ l_3 = List.filter (fun e ↦ decide (e.sku = sku)) (List.take i_2.toNat es) ∧ (↑l_3.length : Int) ≤ i_2 := h_4
  refine sq ?_
  refine sq ?_
  refine rg (A := _ ∧ (AV.b (decide (i_2 < (↑es.length : Int))) = AV.b (decide (i_2 < (↑es.length : Int))))) cx [(2, { tell := some (.i .i64 ((↑es.length : Int))) }), (3, { tell := some (.b (decide (i_2 < (↑es.length : Int)))) })] [0, 1, 6, 7, 17] [1006] ⟨(told_len c28 es), (by kernel_rfl)⟩ ?_
  refine sn ?_
  refine st_dec (i_2 < (↑es.length : Int)) (by kernel_rfl) (by kernel_rfl) (fun h_9 => ?_) (fun h_9 => ?_)
  refine st_skip (by kernel_rfl) ?_
  refine sn ?_
  refine sq ?_
  refine st_block 1 (by kernel_rfl) ?_
  refine sq ?_
  refine rg (A := ((0 : Int) ≤ i_2) ∧ ((List.map c28 es)[i_2.toNat]? = some (c28 es[i_2.toNat]!)) ∧ ((c28 es[i_2.toNat]!).length = (4 : Nat)) ∧ (AV.b (es[i_2.toNat]!.sku.toList == sku.toList) = AV.b (decide (es[i_2.toNat]!.sku = sku)))) cx [(2, { row := (c28 es[i_2.toNat]!) }), (6, { tell := some (.b (decide (es[i_2.toNat]!.sku = sku))) })] [0, 1, 6, 7, 26] [1006] ⟨(by (with_reducible assumption)), (by (with_reducible refine get_map ?_; omega)), (by kernel_rfl), (told_seq)⟩ ?_
  refine sn ?_
  refine st_dec (es[i_2.toNat]!.sku = sku) (by kernel_rfl) (by kernel_rfl) (fun h_10 => ?_) (fun h_10 => ?_)
  refine rg (A := ((0 : Int) ≤ i_2) ∧ ((List.map c28 es)[i_2.toNat]? = some (c28 es[i_2.toNat]!)) ∧ ((c28 es[i_2.toNat]!).length = (4 : Nat)) ∧ ((4 : Nat) ≤ [AV.i IntKind.i64 es[i_2.toNat]!.dot.rep, AV.i IntKind.i64 es[i_2.toNat]!.dot.num, AV.s es[i_2.toNat]!.sku, AV.i IntKind.i64 es[i_2.toNat]!.qty].length) ∧ (28 = (28 : Nat)) ∧ ((4 : Nat) = 4) ∧ ([AV.i IntKind.i64 (0 : Int), AV.i IntKind.i64 (0 : Int), AV.s { data := #[] : ByteArray }, AV.i IntKind.i64 (0 : Int)].length = (4 : Nat)) ∧ (∀ (r : List AV), r ∈ List.map c28 [es[i_2.toNat]!] → r.length = 4) ∧ ((List.map c28 l_3).length + (List.map c28 [es[i_2.toNat]!]).length ≤ maxLen) ∧ (((List.map c28 l_3).length + (List.map c28 [es[i_2.toNat]!]).length) * (40 : Nat) ≤ (140737488355328 : Nat)) ∧ (List.map c28 l_3 ++ List.map c28 [es[i_2.toNat]!] = List.map c28 (l_3 ++ [es[i_2.toNat]!]))) cx [(3, { row := (c28 es[i_2.toNat]!) }), (6, { rows := some (List.map c28 (l_3 ++ [es[i_2.toNat]!])) })] [0, 1, 6, 7] [1006] ⟨(by (with_reducible assumption)), (by (with_reducible refine get_map ?_; omega)), (by kernel_rfl), (by (simp only [List.length_append, List.length_cons, List.length_nil]; omega)), (by kernel_rfl), (by kernel_rfl), (by kernel_rfl), (by (with_reducible refine len_map (fun _ => ?_) _; kernel_rfl)), (by (simp only [Go.maxLen, List.length_map, List.length_append, List.length_cons, List.length_nil]; omega)), (by (simp only [Go.maxLen, List.length_map, List.length_append, List.length_cons, List.length_nil]; omega)), (by (with_reducible refine app_map ?_; kernel_rfl))⟩ ?_
  refine q_blk_normal ?_
  refine sn ?_
  refine rg (A := (AV.i IntKind.i64 (IntKind.i64.wrap (i_2 + (1 : Int))) = AV.i IntKind.i64 (i_2 + (1 : Int)))) cx [(1, { tell := some (.i .i64 (i_2 + (1 : Int))) })] [0, 1, 6, 7] [1006] (told_i64 (by omega) (by omega)) ?_
  refine sn ?_
  refine loop_next ((i_2 + (1 : Int), l_3 ++ [es[i_2.toNat]!])) (by kernel_rfl) (show ((↑es.length : Int) - (i_2 + (1 : Int))).toNat < ((↑es.length : Int) - i_2).toNat from (by omega)) (show invP (fun e ↦ decide (e.sku = sku)) es (i_2 + (1 : Int)) (l_3 ++ [es[i_2.toNat]!]) from ?g5); rotate_left 1
  refine st_skip (by kernel_rfl) ?_
  refine q_blk_normal ?_
  refine sn ?_
  refine rg (A := (AV.i IntKind.i64 (IntKind.i64.wrap (i_2 + (1 : Int))) = AV.i IntKind.i64 (i_2 + (1 : Int)))) cx [(1, { tell := some (.i .i64 (i_2 + (1 : Int))) })] [0, 1, 6, 7] [1006] (told_i64 (by omega) (by omega)) ?_
  refine sn ?_
  refine loop_next ((i_2 + (1 : Int), l_3)) (by kernel_rfl) (show ((↑es.length : Int) - (i_2 + (1 : Int))).toNat < ((↑es.length : Int) - i_2).toNat from (by omega)) (show invP (fun e ↦ decide (e.sku = sku)) es (i_2 + (1 : Int)) l_3 from ?g6); rotate_left 1
  refine st_exit 0 (by kernel_rfl) ?_
  refine q_seq_exit ?_
  refine q_seq_exit ?_
  refine q_blk_hit ?_
  refine sn ?_
  refine sq ?_
  refine rg (A := True) cx [] [4, 5] [1006] trivial ?_
  refine sn ?_
  refine st_ret (by kernel_rfl) ?_
  refine q_ret (r := .tup [.sl (List.map c28 l_3), .i .i64 ((0 : Int))]) (obl := []) (by kernel_rfl) trivial (AVle.tup (ZLe.cons (AVle.eq (show AV.sl (List.map c28 l_3) = AV.sl (List.map c28 (ofV es sku).fst) from ?g8)) (ZLe.cons (AVle.eq (show AV.i IntKind.i64 (0 : Int) = AV.i IntKind.i64 (ofV es sku).snd from ?g7)) ZLe.nil))); rotate_left 2
  revert h_0; rotate_left
  revert h_0; rotate_left
  revert h_0 h_1; rotate_left
  revert h_0 h_1; rotate_left
  revert h_0 h_1; rotate_left
  revert h_0 h_1 i_2 l_3 h_5 h_6 h_7 h_8 h_9 h_10; rotate_left
  revert h_0 h_1 i_2 l_3 h_5 h_6 h_7 h_8 h_9 h_10; rotate_left
  revert h_0 h_1 i_2 l_3 h_5 h_6 h_7 h_8 h_9; rotate_left
  revert h_0 h_1 i_2 l_3 h_5 h_6 h_7 h_8 h_9; rotate_left
  case g0 => exact (fun h => by rw [ofV_form h])
  case g1 => exact (fun h => by rw [ofV_form h]; rfl)
  case g2 => exact (fun h g => by rw [ofV_sku (Classical.not_not.1 h) g])
  case g3 => exact (fun h g => by rw [ofV_sku (Classical.not_not.1 h) g]; rfl)
  case g4 => exact (fun _ _ => invP_init _ _)
  case g5 => exact (fun _ _ i l h0 h1 h2 h3 h4 h5 => invP_add h0 h2 h3 h4 (decide_eq_true h5))
  case g6 => exact (fun _ _ i l h0 h1 h2 h3 h4 h5 => invP_skip h0 h2 h3 h4 (by simpa using h5))
  case g7 => exact (fun h g i l h0 h1 h2 h3 h4 => by rw [ofV_ok (Classical.not_not.1 h) (Classical.not_not.1 g)])
  case g8 => exact (fun h g i l h0 h1 h2 h3 h4 => by rw [ofV_ok (Classical.not_not.1 h) (Classical.not_not.1 g), invP_done h2 h4])
theorem con22 (es : List Entry) (rep : Int) (sku : ByteArray) (hs : es.length * 40 ≤ 140737488351232) : Con Try.prog 22 [.sl (es.map c28), .i .i64 rep, .s sku] (.tup [.sl ((ownV es rep sku).1.map c28), .i .i64 (ownV es rep sku).2]) :=
  by
  refine con_lens 0 (c28) (es) (by kernel_rfl) Go.Proofs.Try.func22 (by kernel_rfl) fun hl_0 => ?_
  refine st_con tab_ok (by kernel_rfl) [.tmp 6, .tmp 7] 50 Go.Proofs.Try.func22 (by kernel_rfl) (by kernel_rfl) ?_
  intro e0 cx
  refine sq ?_
  refine rg (A := True) cx [] [0, 1, 2] [] trivial ?_
  refine sn ?_
  refine sq ?_
  refine sq ?_
  refine rg (A := _ ∧ (AV.b (lstE es != (0 : Int)) = AV.b (decide ¬lstE es = (0 : Int)))) cx [(1, { val := some (.i .i64 (lstE es)) }), (2, { tell := some (.b (decide ¬lstE es = (0 : Int))) })] [0, 1, 2, 14] [] ⟨(con18 (es)), (told_neq)⟩ ?_
  refine sn ?_
  refine st_dec (¬lstE es = (0 : Int)) (by kernel_rfl) (by kernel_rfl) (fun h_0 => ?_) (fun h_0 => ?_)
  refine sq ?_
  refine rg (A := True) cx [] [6, 7] [] trivial ?_
  refine sn ?_
  refine st_ret (by kernel_rfl) ?_
  refine q_seq_ret ?_
  refine q_ret (r := .tup [.nl, .i .i64 ((1 : Int))]) (obl := []) (by kernel_rfl) trivial (AVle.tup (ZLe.cons (AVle.nl' (show List.map c28 (ownV es rep sku).fst = [] from ?g1)) (ZLe.cons (AVle.eq (show AV.i IntKind.i64 (1 : Int) = AV.i IntKind.i64 (ownV es rep sku).snd from ?g0)) ZLe.nil))); rotate_left 2
  refine st_skip (by kernel_rfl) ?_
  refine sn ?_
  refine sq ?_
  refine sq ?_
  refine st_join (σ' := ⟨[(0, .sl (List.map c28 es)), (1, .i .i64 (rep)), (2, .s (sku)), (20, .b (decide (rep < (0 : Int) ∨ (16 : Int) ≤ rep)))], []⟩) ?_ ?_
  refine st_split (rep < (0 : Int)) (fun h_2 => ?_) (fun h_2 => ?_)
  refine rg (A := _ ∧ (AV.b true = AV.b (decide (rep < (0 : Int) ∨ (16 : Int) ≤ rep)))) cx [(1, { tell := some (.b (true)) }), (5, { tell := some (.b (decide (rep < (0 : Int) ∨ (16 : Int) ≤ rep))) })] [0, 1, 2, 20] [] ⟨(told_true h_2), (by simp only [eq_true h_2, told_simp1, told_simp2, and_true, true_and, and_false, false_and, or_true, true_or, or_false, false_or, not_true_eq_false, not_false_eq_true, decide_true, decide_false, Bool.decide_eq_true])⟩ ?_
  exact ⟨rfl, by kernel_rfl⟩
  refine rg (A := _ ∧ (AV.b (decide (rep ≥ (16 : Int))) = AV.b (decide ((16 : Int) ≤ rep))) ∧ (AV.b (decide ((16 : Int) ≤ rep)) = AV.b (decide (rep < (0 : Int) ∨ (16 : Int) ≤ rep)))) cx [(1, { tell := some (.b (false)) }), (4, { tell := some (.b (decide ((16 : Int) ≤ rep))) }), (5, { tell := some (.b (decide (rep < (0 : Int) ∨ (16 : Int) ≤ rep))) })] [0, 1, 2, 20] [] ⟨(told_false h_2), (by kernel_rfl), (by simp only [eq_false h_2, told_simp1, told_simp2, and_true, true_and, and_false, false_and, or_true, true_or, or_false, false_or, not_true_eq_false, not_false_eq_true, decide_true, decide_false, Bool.decide_eq_true])⟩ ?_
  exact ⟨rfl, by kernel_rfl⟩
  refine sn ?_
  refine st_dec (rep < (0 : Int) ∨ (16 : Int) ≤ rep) (by kernel_rfl) (by kernel_rfl) (fun h_3 => ?_) (fun h_3 => ?_)
  refine sq ?_
  refine rg (A := True) cx [] [6, 7] [] trivial ?_
  refine sn ?_
  refine st_ret (by kernel_rfl) ?_
  refine q_seq_ret ?_
  refine q_ret (r := .tup [.nl, .i .i64 ((3 : Int))]) (obl := []) (by kernel_rfl) trivial (AVle.tup (ZLe.cons (AVle.nl' (show List.map c28 (ownV es rep sku).fst = [] from ?g3)) (ZLe.cons (AVle.eq (show AV.i IntKind.i64 (3 : Int) = AV.i IntKind.i64 (ownV es rep sku).snd from ?g2)) ZLe.nil))); rotate_left 2
  refine st_skip (by kernel_rfl) ?_
  refine sn ?_
  refine sq ?_
  have hl_4 := (rng_ofV es)
  have hl_5 := (rng_ofV es sku)
  refine rg (A := _) cx [(2, { val := some (.tup [.sl (List.map c28 (ofV es sku).fst), .i .i64 ((ofV es sku).snd)]) })] [1, 8, 9] [] (con21 (es) (sku) (by (with_reducible assumption))) ?_
  refine sn ?_
  refine sq ?_
  refine rg (A := True) cx [] [1, 8, 9, 10] [] trivial ?_
  refine sn ?_
  refine sq ?_
  refine sq ?_
  refine rg (A := True) cx [] [1, 8, 9, 10, 11] [] trivial ?_
  refine sn ?_
  refine st_block 0 (by kernel_rfl) ?_
  refine awp_adopt 10 1010 28 4 (σ' := ⟨[(1, .i .i64 (rep)), (8, .sl (List.map c28 (ofV es sku).fst)), (9, .i .i64 ((ofV es sku).snd)), (10, .own 1010 0), (11, .i .i64 ((0 : Int)))], [(1010, ⟨0, 28, .row 4 (List.map c28 [])⟩)]⟩) (by kernel_rfl) ?_
  refine st_loop (X := Int × List Entry) (fun x => ⟨[(1, .i .i64 (rep)), (8, .sl (List.map c28 (ofV es sku).fst)), (9, .i .i64 ((ofV es sku).snd)), (10, .own 1010 0), (11, .i .i64 (x.fst))], [(1010, ⟨0, 28, .row 4 (List.map c28 x.snd)⟩)]⟩) (fun x ↦ decP (ofV es sku).fst x.fst x.snd) (fun x ↦ invP (fun e ↦ decide (e.dot.rep = rep)) (ofV es sku).fst x.fst x.snd) [1, 8, 9, 10, 11] [1010] (((0 : Int), [])) (by kernel_rfl) (by kernel_rfl) (show invP (fun e ↦ decide (e.dot.rep = rep)) (ofV es sku).fst (0 : Int) [] from ?g4) ?_; rotate_left 1
  rintro ⟨i_6, l_7⟩ h_8
  obtain ⟨h_9, h_10, h_11, h_12⟩ : (0 : Int) ≤ i_6 ∧ i_6 ≤ (↑(ofV es sku).fst.length : Int) ∧ l_7 = List.filter (fun e ↦ decide (e.dot.rep = rep)) (List.take i_6.toNat (ofV es sku).fst) ∧ (↑l_7.length : Int) ≤ i_6 := h_8
  refine sq ?_
  refine sq ?_
  refine rg (A := _ ∧ (AV.b (decide (i_6 < (↑(ofV es sku).fst.length : Int))) = AV.b (decide (i_6 < (↑(ofV es sku).fst.length : Int))))) cx [(2, { tell := some (.i .i64 ((↑(ofV es sku).fst.length : Int))) }), (3, { tell := some (.b (decide (i_6 < (↑(ofV es sku).fst.length : Int)))) })] [1, 8, 9, 10, 11, 30] [1010] ⟨(told_len c28 (ofV es sku).fst), (by kernel_rfl)⟩ ?_
  refine sn ?_
  refine st_dec (i_6 < (↑(ofV es sku).fst.length : Int)) (by kernel_rfl) (by kernel_rfl) (fun h_13 => ?_) (fun h_13 => ?_)
  refine st_skip (by kernel_rfl) ?_
  refine sn ?_
  refine sq ?_
  refine st_block 1 (by kernel_rfl) ?_
  refine sq ?_
  refine rg (A := ((0 : Int) ≤ i_6) ∧ ((List.map c28 (ofV es sku).fst)[i_6.toNat]? = some (c28 (ofV es sku).fst[i_6.toNat]!)) ∧ ((c28 (ofV es sku).fst[i_6.toNat]!).length = (4 : Nat)) ∧ (AV.b ((ofV es sku).fst[i_6.toNat]!.dot.rep == rep) = AV.b (decide ((ofV es sku).fst[i_6.toNat]!.dot.rep = rep)))) cx [(2, { row := (c28 (ofV es sku).fst[i_6.toNat]!) }), (7, { tell := some (.b (decide ((ofV es sku).fst[i_6.toNat]!.dot.rep = rep))) })] [1, 8, 9, 10, 11, 40] [1010] ⟨(by (with_reducible assumption)), (by (with_reducible refine get_map ?_; omega)), (by kernel_rfl), (by kernel_rfl)⟩ ?_
  refine sn ?_
  refine st_dec ((ofV es sku).fst[i_6.toNat]!.dot.rep = rep) (by kernel_rfl) (by kernel_rfl) (fun h_14 => ?_) (fun h_14 => ?_)
  refine rg (A := ((0 : Int) ≤ i_6) ∧ ((List.map c28 (ofV es sku).fst)[i_6.toNat]? = some (c28 (ofV es sku).fst[i_6.toNat]!)) ∧ ((c28 (ofV es sku).fst[i_6.toNat]!).length = (4 : Nat)) ∧ ((4 : Nat) ≤ [AV.i IntKind.i64 (ofV es sku).fst[i_6.toNat]!.dot.rep, AV.i IntKind.i64 (ofV es sku).fst[i_6.toNat]!.dot.num, AV.s (ofV es sku).fst[i_6.toNat]!.sku, AV.i IntKind.i64 (ofV es sku).fst[i_6.toNat]!.qty].length) ∧ (28 = (28 : Nat)) ∧ ((4 : Nat) = 4) ∧ ([AV.i IntKind.i64 (0 : Int), AV.i IntKind.i64 (0 : Int), AV.s { data := #[] : ByteArray }, AV.i IntKind.i64 (0 : Int)].length = (4 : Nat)) ∧ (∀ (r : List AV), r ∈ List.map c28 [(ofV es sku).fst[i_6.toNat]!] → r.length = 4) ∧ ((List.map c28 l_7).length + (List.map c28 [(ofV es sku).fst[i_6.toNat]!]).length ≤ maxLen) ∧ (((List.map c28 l_7).length + (List.map c28 [(ofV es sku).fst[i_6.toNat]!]).length) * (40 : Nat) ≤ (140737488355328 : Nat)) ∧ (List.map c28 l_7 ++ List.map c28 [(ofV es sku).fst[i_6.toNat]!] = List.map c28 (l_7 ++ [(ofV es sku).fst[i_6.toNat]!]))) cx [(3, { row := (c28 (ofV es sku).fst[i_6.toNat]!) }), (6, { rows := some (List.map c28 (l_7 ++ [(ofV es sku).fst[i_6.toNat]!])) })] [1, 8, 9, 10, 11] [1010] ⟨(by (with_reducible assumption)), (by (with_reducible refine get_map ?_; omega)), (by kernel_rfl), (by (simp only [List.length_append, List.length_cons, List.length_nil]; omega)), (by kernel_rfl), (by kernel_rfl), (by kernel_rfl), (by (with_reducible refine len_map (fun _ => ?_) _; kernel_rfl)), (by (simp only [Go.maxLen, List.length_map, List.length_append, List.length_cons, List.length_nil]; omega)), (by (simp only [Go.maxLen, List.length_map, List.length_append, List.length_cons, List.length_nil]; omega)), (by (with_reducible refine app_map ?_; kernel_rfl))⟩ ?_
  refine q_blk_normal ?_
  refine sn ?_
  refine rg (A := (AV.i IntKind.i64 (IntKind.i64.wrap (i_6 + (1 : Int))) = AV.i IntKind.i64 (i_6 + (1 : Int)))) cx [(1, { tell := some (.i .i64 (i_6 + (1 : Int))) })] [1, 8, 9, 10, 11] [1010] (told_i64 (by omega) (by omega)) ?_
  refine sn ?_
  refine loop_next ((i_6 + (1 : Int), l_7 ++ [(ofV es sku).fst[i_6.toNat]!])) (by kernel_rfl) (show ((↑(ofV es sku).fst.length : Int) - (i_6 + (1 : Int))).toNat < ((↑(ofV es sku).fst.length : Int) - i_6).toNat from (by omega)) (show invP (fun e ↦ decide (e.dot.rep = rep)) (ofV es sku).fst (i_6 + (1 : Int)) (l_7 ++ [(ofV es sku).fst[i_6.toNat]!]) from ?g5); rotate_left 1
  refine st_skip (by kernel_rfl) ?_
  refine q_blk_normal ?_
  refine sn ?_
  refine rg (A := (AV.i IntKind.i64 (IntKind.i64.wrap (i_6 + (1 : Int))) = AV.i IntKind.i64 (i_6 + (1 : Int)))) cx [(1, { tell := some (.i .i64 (i_6 + (1 : Int))) })] [1, 8, 9, 10, 11] [1010] (told_i64 (by omega) (by omega)) ?_
  refine sn ?_
  refine loop_next ((i_6 + (1 : Int), l_7)) (by kernel_rfl) (show ((↑(ofV es sku).fst.length : Int) - (i_6 + (1 : Int))).toNat < ((↑(ofV es sku).fst.length : Int) - i_6).toNat from (by omega)) (show invP (fun e ↦ decide (e.dot.rep = rep)) (ofV es sku).fst (i_6 + (1 : Int)) l_7 from ?g6); rotate_left 1
  refine st_exit 0 (by kernel_rfl) ?_
  refine q_seq_exit ?_
  refine q_seq_exit ?_
  refine q_blk_hit ?_
  refine sn ?_
  refine sq ?_
  refine rg (A := True) cx [] [6, 7] [1010] trivial ?_
  refine sn ?_
  refine st_ret (by kernel_rfl) ?_
  refine q_ret (r := .tup [.sl (List.map c28 l_7), .i .i64 ((ofV es sku).snd)]) (obl := []) (by kernel_rfl) trivial (AVle.tup (ZLe.cons (AVle.eq (show AV.sl (List.map c28 l_7) = AV.sl (List.map c28 (ownV es rep sku).fst) from ?g8)) (ZLe.cons (AVle.eq (show AV.i IntKind.i64 (ofV es sku).snd = AV.i IntKind.i64 (ownV es rep sku).snd from ?g7)) ZLe.nil))); rotate_left 2
  revert h_0; rotate_left
  revert h_0; rotate_left
  revert h_0 h_3; rotate_left
  revert h_0 h_3; rotate_left
  revert h_0 h_3; rotate_left
  revert h_0 h_3 i_6 l_7 h_9 h_10 h_11 h_12 h_13 h_14; rotate_left
  revert h_0 h_3 i_6 l_7 h_9 h_10 h_11 h_12 h_13 h_14; rotate_left
  revert h_0 h_3 i_6 l_7 h_9 h_10 h_11 h_12 h_13; rotate_left
  revert h_0 h_3 i_6 l_7 h_9 h_10 h_11 h_12 h_13; rotate_left
  case g0 => exact (fun h => by rw [ownV_form h])
  case g1 => exact (fun h => by rw [ownV_form h]; rfl)
  case g2 => exact (fun h g => by rw [ownV_rep (Classical.not_not.1 h) g])
  case g3 => exact (fun h g => by rw [ownV_rep (Classical.not_not.1 h) g]; rfl)
  case g4 => exact (fun _ _ => invP_init _ _)
  case g5 => exact (fun _ _ i l h0 h1 h2 h3 h4 h5 => invP_add h0 h2 h3 h4 (decide_eq_true h5))
  case g6 => exact (fun _ _ i l h0 h1 h2 h3 h4 h5 => invP_skip h0 h2 h3 h4 (by simpa using h5))
  case g7 => exact (fun h r i l h0 h1 h2 h3 h4 => by rw [own_of (Classical.not_not.1 h) r])
  case g8 => exact (fun h r i l h0 h1 h2 h3 h4 => by rw [own_of (Classical.not_not.1 h) r, invP_done h2 h4])
theorem con24 (a b : List Entry) : Con Try.prog 24 [.sl (a.map c28), .sl (b.map c28)] (.b (decide (a = b))) :=
  by
  refine con_lens 0 (c28) (a) (by kernel_rfl) Go.Proofs.Try.func24 (by kernel_rfl) fun hl_0 => ?_
  refine con_lens 1 (c28) (b) (by kernel_rfl) Go.Proofs.Try.func24 (by kernel_rfl) fun hl_1 => ?_
  refine st_con tab_ok (by kernel_rfl) [.tmp 4] 26 Go.Proofs.Try.func24 (by kernel_rfl) (by kernel_rfl) ?_
  intro e0 cx
  refine sq ?_
  refine rg (A := True) cx [] [0, 1] [] trivial ?_
  refine sn ?_
  refine sq ?_
  refine sq ?_
  refine rg (A := _ ∧ _ ∧ (AV.b ((↑a.length : Int) != (↑b.length : Int)) = AV.b (decide ¬(↑a.length : Int) = (↑b.length : Int)))) cx [(1, { tell := some (.i .i64 ((↑a.length : Int))) }), (3, { tell := some (.i .i64 ((↑b.length : Int))) }), (4, { tell := some (.b (decide ¬(↑a.length : Int) = (↑b.length : Int))) })] [0, 1, 10] [] ⟨(told_len c28 a), (told_len c28 b), (told_neq)⟩ ?_
  refine sn ?_
  refine st_dec (¬(↑a.length : Int) = (↑b.length : Int)) (by kernel_rfl) (by kernel_rfl) (fun h_0 => ?_) (fun h_0 => ?_)
  refine sq ?_
  refine rg (A := True) cx [] [4] [] trivial ?_
  refine sn ?_
  refine st_ret (by kernel_rfl) ?_
  refine q_seq_ret ?_
  refine q_ret (r := .b (false)) (obl := []) (by kernel_rfl) trivial (AVle.eq (show AV.b false = AV.b (decide (a = b)) from ?g0)); rotate_left 1
  refine st_skip (by kernel_rfl) ?_
  refine sn ?_
  refine sq ?_
  refine sq ?_
  refine rg (A := True) cx [] [0, 1, 5] [] trivial ?_
  refine sn ?_
  refine st_block 0 (by kernel_rfl) ?_
  refine st_loop (X := Int) (fun x => ⟨[(0, .sl (List.map c28 a)), (1, .sl (List.map c28 b)), (5, .i .i64 (x))], []⟩) (fun x ↦ dec30 a x) (fun x ↦ inv30 a b x) [0, 1, 5] [] ((0 : Int)) (by kernel_rfl) (by kernel_rfl) (show inv30 a b (0 : Int) from ?g1) ?_; rotate_left 1
  intro i_1 h_2
  obtain ⟨h_3, h_4, h_5⟩ : (0 : Int) ≤ i_1 ∧ i_1 ≤ (↑a.length : Int) ∧ ∀ (j : Nat), (↑j : Int) < i_1 → a[j]! = b[j]! := h_2
  refine sq ?_
  refine sq ?_
  refine rg (A := _ ∧ (AV.b (decide (i_1 < (↑a.length : Int))) = AV.b (decide (i_1 < (↑a.length : Int))))) cx [(2, { tell := some (.i .i64 ((↑a.length : Int))) }), (3, { tell := some (.b (decide (i_1 < (↑a.length : Int)))) })] [0, 1, 5, 14] [] ⟨(told_len c28 a), (by kernel_rfl)⟩ ?_
  refine sn ?_
  refine st_dec (i_1 < (↑a.length : Int)) (by kernel_rfl) (by kernel_rfl) (fun h_6 => ?_) (fun h_6 => ?_)
  refine st_skip (by kernel_rfl) ?_
  refine sn ?_
  refine sq ?_
  refine st_block 1 (by kernel_rfl) ?_
  refine sq ?_
  refine ra (A := ((0 : Int) ≤ i_1) ∧ ((List.map c28 a)[i_1.toNat]? = some (c28 a[i_1.toNat]!)) ∧ ((c28 a[i_1.toNat]!).length = (4 : Nat)) ∧ ((4 : Nat) ≤ [AV.i IntKind.i64 a[i_1.toNat]!.dot.rep, AV.i IntKind.i64 a[i_1.toNat]!.dot.num, AV.s a[i_1.toNat]!.sku, AV.i IntKind.i64 a[i_1.toNat]!.qty].length) ∧ ((0 : Int) ≤ i_1) ∧ ((List.map c28 b)[i_1.toNat]? = some (c28 b[i_1.toNat]!)) ∧ ((c28 b[i_1.toNat]!).length = (4 : Nat)) ∧ ((4 : Nat) ≤ [AV.i IntKind.i64 b[i_1.toNat]!.dot.rep, AV.i IntKind.i64 b[i_1.toNat]!.dot.num, AV.s b[i_1.toNat]!.sku, AV.i IntKind.i64 b[i_1.toNat]!.qty].length) ∧ (AggEq Try.prog (28 : Nat) [AV.i IntKind.i64 a[i_1.toNat]!.dot.rep, AV.i IntKind.i64 a[i_1.toNat]!.dot.num, AV.s a[i_1.toNat]!.sku, AV.i IntKind.i64 a[i_1.toNat]!.qty] [AV.i IntKind.i64 b[i_1.toNat]!.dot.rep, AV.i IntKind.i64 b[i_1.toNat]!.dot.num, AV.s b[i_1.toNat]!.sku, AV.i IntKind.i64 b[i_1.toNat]!.qty] !decide ¬a[i_1.toNat]! = b[i_1.toNat]!)) cx [(2, { row := (c28 a[i_1.toNat]!) }), (6, { row := (c28 b[i_1.toNat]!) }), (8, { val := some (.b (decide ¬a[i_1.toNat]! = b[i_1.toNat]!)) })] [0, 1, 5, 25] [] ⟨(by (with_reducible assumption)), (by (with_reducible refine get_map ?_; omega)), (by kernel_rfl), (by (simp only [List.length_append, List.length_cons, List.length_nil]; omega)), (by (with_reducible assumption)), (by (with_reducible refine get_map ?_; omega)), (by kernel_rfl), (by (simp only [List.length_append, List.length_cons, List.length_nil]; omega)), (aggNe_dec (eq28 a[i_1.toNat]! b[i_1.toNat]!))⟩ ?_
  refine sn ?_
  refine st_dec (¬a[i_1.toNat]! = b[i_1.toNat]!) (by kernel_rfl) (by kernel_rfl) (fun h_7 => ?_) (fun h_7 => ?_)
  refine sq ?_
  refine rg (A := True) cx [] [4] [] trivial ?_
  refine sn ?_
  refine st_ret (by kernel_rfl) ?_
  refine q_blk_ret ?_
  refine q_seq_ret ?_
  refine q_seq_ret ?_
  refine q_blk_ret ?_
  refine q_seq_ret ?_
  refine q_ret (r := .b (false)) (obl := []) (by kernel_rfl) trivial (AVle.eq (show AV.b false = AV.b (decide (a = b)) from ?g2)); rotate_left 1
  refine st_skip (by kernel_rfl) ?_
  refine q_blk_normal ?_
  refine sn ?_
  refine rg (A := (AV.i IntKind.i64 (IntKind.i64.wrap (i_1 + (1 : Int))) = AV.i IntKind.i64 (i_1 + (1 : Int)))) cx [(1, { tell := some (.i .i64 (i_1 + (1 : Int))) })] [0, 1, 5] [] (told_i64 (by omega) (by omega)) ?_
  refine sn ?_
  refine loop_next (i_1 + (1 : Int)) (by kernel_rfl) (show ((↑a.length : Int) - (i_1 + (1 : Int))).toNat < ((↑a.length : Int) - i_1).toNat from (by omega)) (show inv30 a b (i_1 + (1 : Int)) from ?g3); rotate_left 1
  refine st_exit 0 (by kernel_rfl) ?_
  refine q_seq_exit ?_
  refine q_seq_exit ?_
  refine q_blk_hit ?_
  refine sn ?_
  refine sq ?_
  refine rg (A := True) cx [] [4] [] trivial ?_
  refine sn ?_
  refine st_ret (by kernel_rfl) ?_
  refine q_ret (r := .b (true)) (obl := []) (by kernel_rfl) trivial (AVle.eq (show AV.b true = AV.b (decide (a = b)) from ?g4)); rotate_left 1
  revert h_0; rotate_left
  revert h_0; rotate_left
  revert h_0 i_1 h_3 h_4 h_5 h_6 h_7; rotate_left
  revert h_0 i_1 h_3 h_4 h_5 h_6 h_7; rotate_left
  revert h_0 i_1 h_3 h_4 h_5 h_6; rotate_left
  case g1 => exact (fun h => ⟨by omega, by omega, fun j hj => by omega⟩)
  case' g4 => refine (fun h i h1 h2 h3 h4 => ?_)
  case' g3 => refine (fun h i h1 h2 h3 h4 h5 => ⟨by omega, by omega, fun j hj => ?_⟩)
  case' g2 => refine (fun h i h1 h2 h3 h4 h5 => ?_)
  case' g0 => refine (fun h => ?_)
  · congr 1; symm; rw [decide_eq_false_iff_not]; rintro rfl; exact h rfl
  · congr 1; symm; rw [decide_eq_false_iff_not]; rintro rfl; exact h5 rfl
  · by_cases e : j = i.toNat
    · subst e; exact Classical.not_not.1 h5
    · exact h3 j (by omega)
  · congr 1; symm; rw [decide_eq_true_iff]; exact bang_eq (Classical.not_not.1 h) fun j hj => h3 j (by omega)
end Go.Proofs.Ytjngmlkaijpbgaa
namespace Go.Proofs.Ytjngmlkaijpbgaa
open Go.E
set_option maxRecDepth 100000
set_option maxHeartbeats 4000000
theorem ent_ok {e : Entry} (h : entE e = 0) : 0 ≤ e.dot.rep ∧ e.dot.rep < 16 ∧ 1 ≤ e.dot.num ∧ e.dot.num ≤ 1000000000 := by
  unfold entE at h
  split at h
  · cases h
  · split at h
    · cases h
    · omega
theorem okL_at {es : List Entry} (h : okL es = true) {i : Nat} (hi : i < es.length) : entE es[i]! = 0 ∧ (i = 0 ∨ dLt es[i - 1]!.dot es[i]!.dot = true) := (okAt_iff _ _).1 ((allUp_iff _ _).1 h i hi)
theorem okL_key {es : List Entry} (h : okL es = true) : ∀ i : Nat, i < es.length → (i : Int) + 1 ≤ es[i]!.dot.rep * 1000000000 + es[i]!.dot.num
  | 0, hi => by have := ent_ok (okL_at h hi).1; omega
  | i + 1, hi => by
    have h1 := okL_key h i (by omega)
    have h2 := ent_ok (okL_at h hi).1
    have h3 := ent_ok (okL_at h (show i < es.length by omega)).1
    have h4 := (okL_at h hi).2
    rcases h4 with h4 | h4
    · omega
    · simp only [Nat.add_sub_cancel, dLt, decide_eq_true_eq] at h4
      omega
/-- A list in form is no longer than there are dots. -/
theorem okL_len {es : List Entry} (h : okL es = true) : es.length ≤ 16000000000 := by
  by_cases h0 : es.length = 0
  · omega
  · have h1 := okL_key h (es.length - 1) (by omega)
    have h2 := ent_ok (okL_at h (show es.length - 1 < es.length by omega)).1
    omega
theorem lst_ok {es : List Entry} (h : lstE es = 0) : okL es = true := by
  unfold lstE at h
  split at h
  · assumption
  · cases h
theorem lst_no {es : List Entry} (h : ¬ lstE es = 0) : ¬ okL es = true := fun k => h (by unfold lstE; rw [if_pos k])
end Go.Proofs.Ytjngmlkaijpbgaa
namespace Go.E
open Go.Sort
variable {α : Type} [Inhabited α]
/-- Where what lies at k comes from, behind a swap of the runs of n at a and at b. -/
def swIx (a b n k : Nat) : Nat := if a ≤ k ∧ k < a + n then k - a + b else if b ≤ k ∧ k < b + n then k - b + a else k
/-- .. and behind a turn of [a, m) and [m, b). -/
def rotIx (a m b k : Nat) : Nat := if a ≤ k ∧ k < a + (b - m) then k - a + m else if a + (b - m) ≤ k ∧ k < b then k - (b - m) else k
theorem swIx_zero (a b k : Nat) : swIx a b 0 k = k := by unfold swIx; rw [if_neg (by omega), if_neg (by omega)]
theorem sw_step {d dk : Array α} {a b n : Nat} (hab : a + (n + 1) ≤ b) (hb : b + (n + 1) ≤ d.size) (hs : dk.size = d.size) (h : ∀ k, dk[k]! = d[swIx a b n k]!) :
    ∀ k, (swp dk (a + n) (b + n))[k]! = d[swIx a b (n + 1) k]! := by
  intro k
  rw [swp_get dk (by omega) (by omega), h, h, h]
  by_cases e1 : k = b + n
  · rw [if_pos e1]
    congr 1
    unfold swIx
    rw [if_neg (by omega), if_neg (by omega), if_neg (by omega), if_pos (by omega)]; omega
  · rw [if_neg e1]
    by_cases e2 : k = a + n
    · rw [if_pos e2]
      congr 1
      unfold swIx
      rw [if_neg (by omega), if_neg (by omega), if_pos (by omega)]; omega
    · rw [if_neg e2]
      congr 1
      unfold swIx
      by_cases h1 : a ≤ k ∧ k < a + n
      · rw [if_pos h1, if_pos (by omega)]
      · rw [if_neg h1, if_neg (show ¬ (a ≤ k ∧ k < a + (n + 1)) by omega)]
        by_cases h2 : b ≤ k ∧ k < b + n
        · rw [if_pos h2, if_pos (by omega)]
        · rw [if_neg h2, if_neg (by omega)]
/-- The left run is longer: its head and the right run change places. -/
theorem rot_left {m i j k : Nat} (hi : i ≤ m) (hj : 0 < j) (h : j < i) : swIx (m - i) m j (rotIx (m - (i - j)) m (m + j) k) = rotIx (m - i) m (m + j) k := by
  unfold rotIx
  by_cases c1 : m - i ≤ k ∧ k < m - i + j
  · rw [if_neg (by omega), if_neg (by omega), if_pos (by omega)]
    unfold swIx; rw [if_pos (by omega)]
  · by_cases c2 : m - (i - j) ≤ k ∧ k < m - (i - j) + j
    · rw [if_pos (by omega), if_neg (by omega), if_pos (by omega)]
      unfold swIx; rw [if_neg (by omega), if_pos (by omega)]; omega
    · by_cases c3 : m - (i - j) + j ≤ k ∧ k < m + j
      · rw [if_neg (by omega), if_pos (by omega), if_neg (by omega), if_pos (by omega)]
        unfold swIx; rw [if_neg (by omega), if_neg (by omega)]
      · rw [if_neg (by omega), if_neg (by omega), if_neg (by omega), if_neg (by omega)]
        unfold swIx; rw [if_neg (by omega), if_neg (by omega)]
/-- The right run is longer: the left run and its tail change places. -/
theorem rot_right {m i j k : Nat} (hi : i ≤ m) (h0 : 0 < i) (h : i < j) : swIx (m - i) (m + j - i) i (rotIx (m - i) m (m + (j - i)) k) = rotIx (m - i) m (m + j) k := by
  unfold rotIx
  by_cases c1 : m - i ≤ k ∧ k < m - i + (j - i)
  · rw [if_pos (by omega), if_pos (by omega)]
    unfold swIx; rw [if_neg (by omega)]
    by_cases c : m + j - i ≤ k - (m - i) + m
    · omega
    · rw [if_neg (by omega)]
  · by_cases c2 : m - i + (j - i) ≤ k ∧ k < m + (j - i)
    · rw [if_neg (by omega), if_pos (by omega), if_pos (by omega)]
      unfold swIx; rw [if_pos (by omega)]; omega
    · by_cases c3 : m + (j - i) ≤ k ∧ k < m + j
      · rw [if_neg (by omega), if_neg (by omega), if_neg (by omega), if_pos (by omega)]
        unfold swIx; rw [if_neg (by omega), if_pos (by omega)]; omega
      · rw [if_neg (by omega), if_neg (by omega), if_neg (by omega), if_neg (by omega)]
        unfold swIx; rw [if_neg (by omega), if_neg (by omega)]
/-- Runs of one length: the turn is the swap. -/
theorem rot_same {m i k : Nat} (hi : i ≤ m) : swIx (m - i) m i k = rotIx (m - i) m (m + i) k := by
  unfold swIx rotIx
  by_cases c1 : m - i ≤ k ∧ k < m - i + i
  · rw [if_pos c1, if_pos (show m - i ≤ k ∧ k < m - i + (m + i - m) by omega)]
  · rw [if_neg c1]
    by_cases c2 : m ≤ k ∧ k < m + i
    · rw [if_pos c2, if_neg (show ¬ (m - i ≤ k ∧ k < m - i + (m + i - m)) by omega), if_pos (show m - i + (m + i - m) ≤ k ∧ k < m + i by omega)]; omega
    · rw [if_neg c2, if_neg (show ¬ (m - i ≤ k ∧ k < m - i + (m + i - m)) by omega), if_neg (show ¬ (m - i + (m + i - m) ≤ k ∧ k < m + i) by omega)]
theorem rotIx_one (a k : Nat) : rotIx a (a + 1) (a + 1) k = k := by unfold rotIx; rw [if_neg (by omega)]; split <;> omega
/-- The element at a wanders up by one place. -/
theorem up_step {d dk : Array α} {a c : Nat} (hac : a ≤ c) (hb : c + 1 < d.size) (hs : dk.size = d.size) (h : ∀ k, dk[k]! = d[rotIx a (a + 1) (c + 1) k]!) :
    ∀ k, (swp dk c (c + 1))[k]! = d[rotIx a (a + 1) (c + 2) k]! := by
  intro k
  rw [swp_get dk (by omega) (by omega), h, h, h]
  unfold rotIx
  by_cases e1 : k = c + 1
  · rw [if_pos e1]; congr 1
    rw [if_neg (by omega), if_pos (by omega), if_neg (by omega), if_pos (by omega)]; omega
  · rw [if_neg e1]
    by_cases e2 : k = c
    · rw [if_pos e2]; congr 1
      rw [if_neg (by omega), if_neg (by omega), if_pos (by omega)]; omega
    · rw [if_neg e2]; congr 1
      by_cases h1 : a ≤ k ∧ k < a + (c + 1 - (a + 1))
      · rw [if_pos h1, if_pos (by omega)]
      · rw [if_neg h1, if_neg (show ¬ (a ≤ k ∧ k < a + (c + 2 - (a + 1))) by omega), if_neg (by omega), if_neg (by omega)]
/-- The element at m wanders down by one place: it lies at c + 1 and comes to c. -/
theorem down_step {d dk : Array α} {c m : Nat} (hcm : c + 1 ≤ m) (hb : m < d.size) (hs : dk.size = d.size) (h : ∀ k, dk[k]! = d[rotIx (c + 1) m (m + 1) k]!) :
    ∀ k, (swp dk (c + 1) c)[k]! = d[rotIx c m (m + 1) k]! := by
  intro k
  rw [swp_get dk (by omega) (by omega), h, h, h]
  unfold rotIx
  by_cases e1 : k = c
  · rw [if_pos e1]; congr 1
    rw [if_pos (by omega), if_pos (by omega)]; omega
  · rw [if_neg e1]
    by_cases e2 : k = c + 1
    · rw [if_pos e2]; congr 1
      rw [if_neg (by omega), if_neg (by omega), if_neg (by omega), if_pos (by omega)]; omega
    · rw [if_neg e2]; congr 1
      by_cases h1 : c + 1 + (m + 1 - m) ≤ k ∧ k < m + 1
      · rw [if_neg (by omega), if_pos h1, if_neg (by omega), if_pos (by omega)]
      · rw [if_neg (by omega), if_neg h1, if_neg (by omega), if_neg (by omega)]
theorem rotIx_end (m k : Nat) : rotIx m m (m + 1) k = k := by unfold rotIx; split <;> (try split) <;> omega
variable {lt : α → α → Bool}
/-- One element ahead of a sorted run, put where it belongs. -/
theorem merge_one_left (hO : SWO lt) {d d' : Array α} {a i b : Nat} (hs : SortedIn lt (a + 1) b d) (h1 : a + 1 ≤ i) (h2 : i ≤ b) (hl : ∀ h, a + 1 ≤ h → h < i → lt d[h]! d[a]! = true) (hr : ∀ h, i ≤ h → h < b → lt d[h]! d[a]! = false)
    (hd : ∀ k, d'[k]! = d[rotIx a (a + 1) i k]!) : SortedIn lt a b d' := by
  intro p q hp hpq hq
  rw [hd, hd]
  unfold rotIx
  by_cases cq : q < i - 1
  · rw [if_pos (by omega), if_pos (by omega)]
    exact hs _ _ (by omega) (by omega) (by omega)
  · by_cases cq2 : q = i - 1
    · rw [if_neg (by omega), if_pos (by omega), if_pos (by omega)]
      have e : q - (i - (a + 1)) = a := by omega
      rw [e]
      exact hO.asymmA (hl _ (by omega) (by omega))
    · rw [if_neg (by omega), if_neg (show ¬ (a + (i - (a + 1)) ≤ q ∧ q < i) by omega)]
      by_cases cp : p < i - 1
      · rw [if_pos (by omega)]
        exact hs _ _ (by omega) (by omega) (by omega)
      · by_cases cp2 : p = i - 1
        · rw [if_neg (by omega), if_pos (by omega)]
          have e : p - (i - (a + 1)) = a := by omega
          rw [e]
          exact hr _ (by omega) hq
        · rw [if_neg (by omega), if_neg (by omega)]
          exact hs _ _ (by omega) (by omega) (by omega)
/-- One element behind a sorted run. -/
theorem merge_one_right (hO : SWO lt) {d d' : Array α} {a i m : Nat} (hs : SortedIn lt a m d) (h1 : a ≤ i) (h2 : i ≤ m) (hl : ∀ h, a ≤ h → h < i → lt d[m]! d[h]! = false) (hr : ∀ h, i ≤ h → h < m → lt d[m]! d[h]! = true)
    (hd : ∀ k, d'[k]! = d[rotIx i m (m + 1) k]!) : SortedIn lt a (m + 1) d' := by
  intro p q hp hpq hq
  rw [hd, hd]
  unfold rotIx
  by_cases cp : p < i
  · rw [if_neg (show ¬ (i ≤ p ∧ p < i + (m + 1 - m)) by omega), if_neg (show ¬ (i + (m + 1 - m) ≤ p ∧ p < m + 1) by omega)]
    by_cases cq : q < i
    · rw [if_neg (by omega), if_neg (by omega)]; exact hs _ _ hp hpq (by omega)
    · by_cases cq2 : q = i
      · rw [if_pos (by omega)]
        have e : q - i + m = m := by omega
        rw [e]; exact hl _ hp cp
      · rw [if_neg (by omega), if_pos (by omega)]; exact hs _ _ hp (by omega) (by omega)
  · by_cases cp2 : p = i
    · rw [if_pos (show i ≤ p ∧ p < i + (m + 1 - m) by omega), if_neg (show ¬ (i ≤ q ∧ q < i + (m + 1 - m)) by omega), if_pos (show i + (m + 1 - m) ≤ q ∧ q < m + 1 by omega)]
      have e : p - i + m = m := by omega
      rw [e]; exact hO.asymmA (hr _ (by omega) (by omega))
    · rw [if_neg (show ¬ (i ≤ p ∧ p < i + (m + 1 - m)) by omega), if_pos (show i + (m + 1 - m) ≤ p ∧ p < m + 1 by omega), if_neg (show ¬ (i ≤ q ∧ q < i + (m + 1 - m)) by omega), if_pos (show i + (m + 1 - m) ≤ q ∧ q < m + 1 by omega)]
      exact hs _ _ (by omega) (by omega) (by omega)
/-- What symMerge's search finds: 'start': below it the left run stays, from it on it goes over to the right. n = mid + m, p = n - 1. -/
structure Cut (lt : α → α → Bool) (a m b start : Nat) (d : Array α) : Prop where
  lo : a ≤ start
  lo2 : (a + b) / 2 + m - start ≤ b
  hi : start ≤ m
  hi2 : start ≤ (a + b) / 2
  below : ∀ c, a ≤ c → (a + b) / 2 + m ≤ b + c → c < start → lt d[(a + b) / 2 + m - 1 - c]! d[c]! = false
  above : ∀ c, start ≤ c → c < m → c < (a + b) / 2 → lt d[(a + b) / 2 + m - 1 - c]! d[c]! = true
/-- Behind the turn each half is two sorted runs, and nothing in the right half is less than anything in the left. -/
theorem cut_parts (hO : SWO lt) {d d' : Array α} {a m b start : Nat} (h1 : SortedIn lt a m d) (h2 : SortedIn lt m b d) (ham : a < m) (hmb : m < b) (hc : Cut lt a m b start d)
    (hd : ∀ k, d'[k]! = d[rotIx start m ((a + b) / 2 + m - start) k]!) :
    SortedIn lt a start d' ∧ SortedIn lt start ((a + b) / 2) d' ∧ SortedIn lt ((a + b) / 2) ((a + b) / 2 + m - start) d' ∧ SortedIn lt ((a + b) / 2 + m - start) b d' ∧
      ∀ p q, a ≤ p → p < (a + b) / 2 → (a + b) / 2 ≤ q → q < b → lt d'[q]! d'[p]! = false := by
  obtain ⟨c1, c2, c3, c4, c5, c6⟩ := hc
  have hmid : a ≤ (a + b) / 2 ∧ (a + b) / 2 ≤ b ∧ a + b ≤ 2 * ((a + b) / 2) + 1 ∧ 2 * ((a + b) / 2) ≤ a + b := by omega
  generalize (a + b) / 2 = mid at *
  -- where the four pieces come from
  have g1 : ∀ k, k < start → d'[k]! = d[k]! := fun k hk => by rw [hd]; unfold rotIx; rw [if_neg (by omega), if_neg (by omega)]
  have g2 : ∀ k, start ≤ k → k < mid → d'[k]! = d[k - start + m]! := fun k hk hk2 => by rw [hd]; unfold rotIx; rw [if_pos (by omega)]
  have g3 : ∀ k, mid ≤ k → k < mid + m - start → d'[k]! = d[k - (mid - start)]! := fun k hk hk2 => by
    rw [hd]; unfold rotIx; rw [if_neg (by omega), if_pos (by omega)]; congr 1; omega
  have g4 : ∀ k, mid + m - start ≤ k → d'[k]! = d[k]! := fun k hk => by rw [hd]; unfold rotIx; rw [if_neg (by omega), if_neg (by omega)]
  refine ⟨fun p q hp hpq hq => ?_, fun p q hp hpq hq => ?_, fun p q hp hpq hq => ?_, fun p q hp hpq hq => ?_, fun p q hp hpm hqm hq => ?_⟩
  · rw [g1 q hq, g1 p (by omega)]; exact h1 _ _ hp hpq (by omega)
  · rw [g2 q (by omega) hq, g2 p hp (by omega)]; exact h2 _ _ (by omega) (by omega) (by omega)
  · rw [g3 q (by omega) hq, g3 p hp (by omega)]; exact h1 _ _ (by omega) (by omega) (by omega)
  · rw [g4 q (by omega), g4 p hp]; exact h2 _ _ (by omega) hpq hq
  · by_cases cp : p < start
    · rw [g1 p cp]
      by_cases cq : q < mid + m - start
      · rw [g3 q hqm cq]
        by_cases e : p < q - (mid - start)
        · exact h1 _ _ hp e (by omega)
        · omega
      · rw [g4 q (by omega)]
        -- p <= start - 1; d[n - start] not less than d[start - 1]; q from n - start on
        have k1 := c5 (start - 1) (by omega) (by omega) (by omega)
        have e : mid + m - 1 - (start - 1) = mid + m - start := by omega
        rw [e] at k1
        have k2 : lt d[q]! d[start - 1]! = false := by
          by_cases eq : q = mid + m - start
          · rw [eq]; exact k1
          · exact hO.ntrans _ _ _ (h2 _ _ (by omega) (by omega) hq) k1
        by_cases ep : p = start - 1
        · rw [ep]; exact k2
        · exact hO.ntrans _ _ _ k2 (h1 _ _ hp (by omega) (by omega))
    · rw [g2 p (by omega) hpm]
      by_cases cq : q < mid + m - start
      · rw [g3 q hqm cq]
        -- d[p'] <= d[n - start - 1] < d[start] <= d[q']
        have hsm : start < m := by omega
        have k1 := c6 start (Nat.le_refl _) hsm (by omega)
        have e : mid + m - 1 - start = mid - 1 - start + m := by omega
        rw [e] at k1
        have k2 : lt d[mid - 1 - start + m]! d[q - (mid - start)]! = true ∨ lt d[q - (mid - start)]! d[mid - 1 - start + m]! = false := by
          by_cases eq : q - (mid - start) = start
          · rw [eq]; exact .inl k1
          · right
            exact hO.ntrans _ _ _ (h1 start _ c1 (by omega) (by omega)) (hO.asymmA k1)
        have k3 : lt d[q - (mid - start)]! d[mid - 1 - start + m]! = false := k2.elim hO.asymmA id
        by_cases ep : p - start + m = mid - 1 - start + m
        · rw [ep]; exact k3
        · exact hO.ntrans _ _ _ k3 (h2 _ _ (by omega) (by omega) (by omega))
      · rw [g4 q (by omega)]
        exact h2 _ _ (by omega) (by omega) hq
/-- Two sorted halves, nothing in the right less than anything in the left. -/
theorem sorted_halves {d : Array α} {a mid b : Nat} (h1 : SortedIn lt a mid d) (h2 : SortedIn lt mid b d) (h3 : ∀ p q, a ≤ p → p < mid → mid ≤ q → q < b → lt d[q]! d[p]! = false) : SortedIn lt a b d := by
  intro p q hp hpq hq
  by_cases c1 : q < mid
  · exact h1 p q hp hpq c1
  · by_cases c2 : p < mid
    · exact h3 p q hp c2 (by omega) hq
    · exact h2 p q (by omega) hpq hq
theorem sorted_same {d d' : Array α} {a b : Nat} (h : SortedIn lt a b d) (he : ∀ i, a ≤ i → i < b → d'[i]! = d[i]!) : SortedIn lt a b d' := fun p q hp hpq hq => by
  rw [he p hp (by omega), he q (by omega) hq]; exact h p q hp hpq hq
/-- What is said of each of one half and each of the other stays so, where each half is put in another order. -/
theorem cross_perm {d d' : Array α} {a mid b : Nat} (ham : a ≤ mid) (hmb : mid ≤ b) (hb : b ≤ d.size) (h1 : PermIn a mid d d') (h3 : ∀ p q, a ≤ p → p < mid → mid ≤ q → q < b → lt d[q]! d[p]! = false) :
    ∀ p q, a ≤ p → p < mid → mid ≤ q → q < b → lt d'[q]! d'[p]! = false := fun p q hp hpm hmq hq => by
  rw [h1.2.1 q (by omega)]
  exact permIn_all d d' a mid (fun x => lt d[q]! x = false) (by omega) h1 (fun i hi him => h3 i q hi him hmq hq) p hp hpm
theorem cross_perm' {d d' : Array α} {a mid b : Nat} (ham : a ≤ mid) (hmb : mid ≤ b) (hb : b ≤ d.size) (h1 : PermIn mid b d d') (h3 : ∀ p q, a ≤ p → p < mid → mid ≤ q → q < b → lt d[q]! d[p]! = false) :
    ∀ p q, a ≤ p → p < mid → mid ≤ q → q < b → lt d'[q]! d'[p]! = false := fun p q hp hpm hmq hq => by
  rw [h1.2.1 p (by omega)]
  exact permIn_all d d' mid b (fun x => lt x d[p]! = false) hb h1 (fun i hi him => h3 p i hp hpm hi him) q hmq hq
theorem perm_mono {d d' : Array α} {a b a' b' : Nat} (h1 : a' ≤ a) (h2 : b ≤ b') (hb : b' ≤ d.size) (h : PermIn a b d d') : PermIn a' b' d d' := permIn_mono d d' a b a' b' h1 h2 hb h
end Go.E
namespace Go.E
open Go.Sort Go.RowKit
/-- A fact kept from the walk. -/
structure Box (p : Prop) : Prop where
  out : p
def wDr (w : World) (q : Nat) : World := { w with drawn := q }
section
variable {α : Type} [Inhabited α] {enc : α → List Value} {k : Nat} {w0 W W' : World} {blk off : Nat} {d d' : Array α}
/-- W is w0 with the row laid with d; new blocks behind; some draws on. -/
def Fam (enc : α → List Value) (k blk off : Nat) (w0 : World) (d : Array α) (W : World) : Prop := ∃ q os, W = wDr (grow (putRowK enc k w0 blk off d) os) q
theorem putRowK_wDr (w : World) (q : Nat) (d : Array α) : putRowK enc k (wDr w q) blk off d = wDr (putRowK enc k w blk off d) q := rfl
theorem grow_wDr (w : World) (q : Nat) (os : Array Obj) : grow (wDr w q) os = wDr (grow w os) q := rfl
theorem wDr_wDr (w : World) (q p : Nat) : wDr (wDr w q) p = wDr w p := rfl
theorem wDr_self (w : World) : wDr w w.drawn = w := rfl
theorem holdsK_wDr (w : World) (q : Nat) (d : Array α) (h : HoldsK enc k w blk off d) : HoldsK enc k (wDr w q) blk off d := h
theorem Fam.start (h : HoldsK enc k w0 blk off d) : Fam enc k blk off w0 d w0 := ⟨w0.drawn, #[], by rw [putRowK_self enc k w0 blk off d h, grow_empty, wDr_self]⟩
theorem Fam.size (h : Fam enc k blk off w0 d W) : w0.heap.size ≤ W.heap.size := by
  obtain ⟨q, os, rfl⟩ := h
  show w0.heap.size ≤ (grow (putRowK enc k w0 blk off d) os).heap.size
  rw [size_grow, size_putRowK]; omega
theorem Fam.grown (h : Fam enc k blk off w0 d W) (q : Nat) (os : Array Obj) : Fam enc k blk off w0 d (wDr (grow W os) q) := by
  obtain ⟨p, os', rfl⟩ := h
  exact ⟨q, os' ++ os, by rw [grow_wDr, wDr_wDr, grow_grow]⟩
theorem Fam.alloc (h : Fam enc k blk off w0 d W) (o : Obj) : Fam enc k blk off w0 d (W.alloc o) := by
  have := h.grown W.drawn #[o]
  rw [← alloc_eq_grow] at this
  exact this
theorem Fam.drewN (h : Fam enc k blk off w0 d W) (n : Nat) : Fam enc k blk off w0 d (W.drewN n) := by
  have := h.grown (W.drewN n).drawn #[]
  rw [grow_empty] at this
  have e : wDr W (W.drewN n).drawn = W.drewN n := by
    have : W.drewN n = Sort.ahead W n := by
      clear this h
      induction n with
      | zero => rfl
      | succ n ih =>
        show (W.drewN n).drew = _
        rw [ih, drew_eq_ahead, ahead_ahead]
    rw [this]; rfl
  rw [e] at this
  exact this
theorem Fam.trans (h : Fam enc k blk off w0 d W) (hb : blk < w0.heap.size) (h' : Fam enc k blk off W d' W') (hs : d'.size = d.size) : Fam enc k blk off w0 d' W' := by
  obtain ⟨q, os, rfl⟩ := h
  obtain ⟨q', os', rfl⟩ := h'
  refine ⟨q', os ++ os', ?_⟩
  have := grow_step_growK (enc := enc) (k := k) w0 os os' 0 0 blk off d d' hb hs
  simp only [ahead_zero, Nat.add_zero] at this
  rw [putRowK_wDr, grow_wDr, wDr_wDr, this]
theorem Fam.cell (h : Fam enc k blk off w0 d W) {a : Addr} (ha : a.block < w0.heap.size) (hne : a.block ≠ blk) : W.cell? a = w0.cell? a := by
  obtain ⟨q, os, rfl⟩ := h
  show (grow (putRowK enc k w0 blk off d) os).cell? a = _
  rw [cell?_grow _ _ _ (by rw [size_putRowK]; exact ha), cell?_putRowK_other _ _ _ _ _ _ _ hne]
theorem Fam.holds {d0 : Array α} (h : Fam enc k blk off w0 d W) (hb : blk < w0.heap.size) (h0 : HoldsK enc k w0 blk off d0) (hs : d.size = d0.size) : HoldsK enc k W blk off d := by
  obtain ⟨q, os, rfl⟩ := h
  exact holdsK_wDr _ q d (holdsK_grow enc k _ os blk off d (by rw [size_putRowK]; exact hb) (holdsK_putRowK enc k w0 blk off d0 d h0 hs))
theorem Fam.swap (h : Fam enc k blk off w0 d W) (hk : ∀ x, (enc x).length = k) (hb : blk < w0.heap.size) (i j : Nat) (hi : i < d.size) (hj : j < d.size) :
    Fam enc k blk off w0 (swp d i j) ((W.setCells blk (off + i * k) (enc d[j]!)).setCells blk (off + j * k) (enc d[i]!)) := by
  obtain ⟨q, os, rfl⟩ := h
  refine ⟨q, os, ?_⟩
  have e : ∀ (w : World) (o : Nat) (vs : List Value), (wDr w q).setCells blk o vs = wDr (w.setCells blk o vs) q := by
    intro w o vs
    induction vs generalizing w o with
    | nil => rfl
    | cons v vs ih => show ((wDr w q).setCell ⟨blk, o, none⟩ v).setCells blk (o + 1) vs = _
                      rw [show (wDr w q).setCell ⟨blk, o, none⟩ v = wDr (w.setCell ⟨blk, o, none⟩ v) q from rfl, ih]; rfl
  rw [e, e, ← putRowK_grow enc k w0 os blk off d hb, putRowK_swp enc k hk _ blk off d i j hi hj, putRowK_grow enc k w0 os blk off _ hb]
/-- Behind a call by whose contract nothing that was there has turned. -/
theorem Fam.below (h : Fam enc k blk off w0 d W) (hb : Below W.heap.size W W') : Fam enc k blk off w0 d W' := by
  have e : W' = wDr (grow W (W'.heap.extract W.heap.size W'.heap.size)) W'.drawn := by
    have hh : W'.heap = W.heap ++ W'.heap.extract W.heap.size W'.heap.size := by
      apply Array.ext'
      rw [Array.toList_append, Array.toList_extract]
      apply List.ext_getElem?
      intro i
      by_cases hi : i < W.heap.size
      · rw [List.getElem?_append_left (by simpa using hi)]
        have := hb.block i hi
        simpa using this
      · rw [List.getElem?_append_right (by simpa using hi)]
        simp only [List.extract, Array.length_toList, List.getElem?_take, List.getElem?_drop]
        have hs := hb.size
        have e2 : W.heap.size + (i - W.heap.size) = i := by omega
        rw [e2]
        split
        · rfl
        · rw [List.getElem?_eq_none (by simp; omega)]
    have h1 := hb.os
    have h2 := hb.tape
    have h3 := hb.output
    cases W' with
    | mk heap tape drawn os output =>
      simp only [wDr, grow] at *
      subst h1 h2 h3
      rw [← hh]
  rw [e]
  exact h.grown _ _
end
end Go.E
namespace Go.E
open Go.Sort Go.RowKit
section
variable {α : Type} [Inhabited α] {enc : α → List Value} {k : Nat} {w0 W W' : World} {blk off : Nat} {d d' : Array α}
theorem flatK_list (hk : ∀ x, (enc x).length = k) (d : Array α) : (flatK enc k d).toList = (d.toList.map enc).flatten := by
  have hsz : ∀ r ∈ d.toList.map enc, r.length = k := by
    intro r hr
    obtain ⟨x, _, rfl⟩ := List.mem_map.1 hr
    exact hk x
  apply List.ext_getElem?
  intro t
  by_cases ht : t < d.size * k
  · have k0 : 0 < k := by
      rcases Nat.eq_zero_or_pos k with h | h
      · subst h; simp at ht
      · exact h
    have hq : t % k < k := Nat.mod_lt _ k0
    have hj : t / k < d.size := (Nat.div_lt_iff_lt_mul k0).2 ht
    have hr : (d.toList.map enc)[t / k]? = some (enc d[t / k]) := by simp [hj]
    have := flatten_get hsz hr hq
    rw [show t / k * k + t % k = t by rw [Nat.mul_comm]; exact Nat.div_add_mod t k] at this
    rw [this, Array.getElem?_toList, getElem?_pos _ t (by simpa using ht)]
    have e := get_flatK enc k d t ht
    rw [getElem!_pos _ t (by simpa using ht)] at e
    rw [e, getElem!_pos d _ hj, getElem?_pos _ (t % k) (by rw [hk]; exact hq), getElem!_pos _ (t % k) (by rw [hk]; exact hq)]
  · rw [List.getElem?_eq_none (by simp; omega), List.getElem?_eq_none (by rw [flatten_len hsz]; simp; omega)]
theorem Fam.facts (h : Fam enc k blk off w0 d W) : W.os = w0.os ∧ W.tape = w0.tape ∧ W.output = w0.output ∧ ∀ j, j < w0.heap.size → j ≠ blk → W.heap[j]? = w0.heap[j]? := by
  obtain ⟨q, os, rfl⟩ := h
  refine ⟨rfl, rfl, rfl, fun j hj hne => ?_⟩
  show ((w0.heap.modify blk _) ++ os)[j]? = _
  rw [Array.getElem?_append_left (by simpa using hj), Array.getElem?_modify, if_neg (Ne.symm hne)]
theorem Fam.block (h : Fam enc k blk off w0 d W) {cur : Array Value} {e : TypeId} {fz : Nat × Nat} (hc : w0.heap[blk]? = some (.cells cur e fz)) : ∃ cur', cur'.size = cur.size ∧ W.heap[blk]? = some (.cells cur' e fz) := by
  obtain ⟨q, os, rfl⟩ := h
  have hb : blk < w0.heap.size := (Array.getElem?_eq_some_iff.1 hc).1
  refine ⟨putCells id off (flatK enc k d) cur, by simp [putCells], ?_⟩
  show ((w0.heap.modify blk _) ++ os)[blk]? = _
  rw [Array.getElem?_append_left (by simpa using hb), Array.getElem?_modify, if_pos rfl, hc]
  rfl
theorem holds_of_owns (hk : ∀ x, (enc x).length = k) {base ty n cap : Nat} {xs : List Value} (ho : w0.ownsRow base ty k (.slice (some ⟨blk, 0, none⟩) n cap) n xs) (hn : n = d.size) (hx : xs = (d.toList.map enc).flatten) : HoldsK enc k w0 blk 0 d := by
  obtain ⟨_, h⟩ := ho
  rcases h with ⟨h, _⟩ | ⟨g, cap', cur, e1, hb, hh, h1, h2, h3, h4⟩
  · cases h
  · simp only [Value.slice.injEq, Option.some.injEq, Addr.mk.injEq] at e1
    obtain ⟨⟨rfl, _, _⟩, _, rfl⟩ := e1
    intro j hj
    rw [← flatK_list hk] at hx
    rw [hx] at h4
    have hj' : j < n * k := by rw [hn]; simpa using hj
    have e : cur[j]? = some (flatK enc k d)[j]! := by
      have := congrArg (fun l => l[j]?) h4
      simp only [List.getElem?_take, hj', if_true, Array.getElem?_toList] at this
      rw [this, getElem?_pos _ j hj, getElem!_pos _ j hj]
    refine ⟨?_, ?_⟩
    · simp [World.cell?, hh, e]
    · simp [World.frozen?, hh]
theorem owns_of_holds (hk : ∀ x, (enc x).length = k) {base ty n cap : Nat} {cur : Array Value} (hH : HoldsK enc k W blk 0 d) (hn : n = d.size) (hb : base ≤ blk) (hh : W.heap[blk]? = some (.cells cur ty (0, 0))) (h1 : n ≤ cap) (h2 : cap ≤ maxLen) (h3 : cur.size = cap * k) :
    W.ownsRow base ty k (.slice (some ⟨blk, 0, none⟩) n cap) n (d.toList.map enc).flatten := by
  rw [← flatK_list hk]
  refine ⟨by simp [hn], .inr ⟨blk, cap, cur, rfl, hb, hh, h1, h2, h3, ?_⟩⟩
  have hle : n * k ≤ cur.size := by rw [h3]; exact Nat.mul_le_mul_right _ h1
  apply List.ext_getElem?
  intro j
  by_cases hj : j < n * k
  · have := (hH j (by simpa [hn] using hj)).1
    simp only [World.cell?, Nat.zero_add, hh, Option.isSome_none, Bool.false_eq_true, if_false, id] at this
    rw [List.getElem?_take, if_pos hj, Array.getElem?_toList, this, Array.getElem?_toList, getElem?_pos _ j (by simpa [hn] using hj), getElem!_pos _ j (by simpa [hn] using hj)]
  · rw [List.getElem?_eq_none (by simp; omega), List.getElem?_eq_none (by simp [← hn]; omega)]
theorem Fam.owns (hk : ∀ x, (enc x).length = k) (h : Fam enc k blk 0 w0 d' W) (hs : d'.size = d.size) {base ty n cap : Nat} {xs : List Value} (hx : xs = (d.toList.map enc).flatten) (hn : n = d.size) (ho : w0.ownsRow base ty k (.slice (some ⟨blk, 0, none⟩) n cap) n xs) :
    W.ownsRow base ty k (.slice (some ⟨blk, 0, none⟩) n cap) n (d'.toList.map enc).flatten := by
  have hH := holds_of_owns hk ho hn hx
  obtain ⟨_, h0⟩ := ho
  rcases h0 with ⟨h0, _⟩ | ⟨g, cap', cur, e1, hb, hh, h1, h2, h3, h4⟩
  · cases h0
  · simp only [Value.slice.injEq, Option.some.injEq, Addr.mk.injEq] at e1
    obtain ⟨⟨rfl, _, _⟩, _, rfl⟩ := e1
    have hlt : blk < w0.heap.size := (Array.getElem?_eq_some_iff.1 hh).1
    obtain ⟨cur', c1, c2⟩ := h.block hh
    exact owns_of_holds hk (h.holds hlt hH hs) (by rw [hn, hs]) hb c2 h1 h2 (by rw [c1, h3])
end
end Go.E
namespace Go.Proofs.Ytjngmlkaijpbgaa
open Go.E
set_option maxRecDepth 100000
set_option maxHeartbeats 4000000
open Go Go.Sort Go.RowKit Go.Lib Go.Shelf Go.Proofs
def renSr : Go.Shelf.Ren := ⟨fun
  | 6 => 136 | 14 => 140 | 15 => 78 | 20 => 141 | 21 => 142 | 22 => 143
  | 23 => 144 | 24 => 145 | 25 => 146 | 26 => 147 | 27 => 148 | 28 => 104 | 29 => 105
  | 46 => 149 | 47 => 150 | 48 => 151 | 49 => 152 | 50 => 153 | 57 => 154 | n => n,
  fun | 0 => 0 | 3 => 3 | 4 => 4 | 5 => 5 | 9 => 9 | 22 => 104 | 24 => 108 | 25 => 159 | 39 => 101 | 45 => 163 | 46 => 164 | 50 => 130 | 53 => 122 | 55 => 124 | 66 => 169 | 70 => 146 | 76 => 172 | 77 => 85 | n => n,
  fun n => n⟩
theorem laysSr : Go.Proofs.SlLaysF0.n6 Try.prog renSr := {
  mixed := (by kernel_rfl),
  f6 := ⟨Try.f136.name, by decide, Try.func136.trans (congrArg some (by kernel_rfl))⟩,
  f14 := ⟨Try.f140.name, by decide, Try.func140.trans (congrArg some (by kernel_rfl))⟩,
  f15 := Try.func78.trans (congrArg some (by kernel_rfl)),
  f20 := ⟨Try.f141.name, by decide, Try.func141.trans (congrArg some (by kernel_rfl))⟩,
  f21 := ⟨Try.f142.name, by decide, Try.func142.trans (congrArg some (by kernel_rfl))⟩,
  f22 := ⟨Try.f143.name, by decide, Try.func143.trans (congrArg some (by kernel_rfl))⟩,
  f23 := ⟨Try.f144.name, by decide, Try.func144.trans (congrArg some (by kernel_rfl))⟩,
  f24 := ⟨Try.f145.name, by decide, Try.func145.trans (congrArg some (by kernel_rfl))⟩,
  f25 := ⟨Try.f146.name, by decide, Try.func146.trans (congrArg some (by kernel_rfl))⟩,
  f26 := ⟨Try.f147.name, by decide, Try.func147.trans (congrArg some (by kernel_rfl))⟩,
  f27 := ⟨Try.f148.name, by decide, Try.func148.trans (congrArg some (by kernel_rfl))⟩,
  f28 := Try.func104.trans (congrArg some (by kernel_rfl)),
  f29 := Try.func105.trans (congrArg some (by kernel_rfl)),
  f46 := ⟨Try.f149.name, by decide, Try.func149.trans (congrArg some (by kernel_rfl))⟩,
  f47 := Try.func150.trans (congrArg some (by kernel_rfl)),
  f48 := Try.func151.trans (congrArg some (by kernel_rfl)),
  f49 := ⟨Try.f152.name, by decide, Try.func152.trans (congrArg some (by kernel_rfl))⟩,
  f50 := ⟨Try.f153.name, by decide, Try.func153.trans (congrArg some (by kernel_rfl))⟩,
  f57 := ⟨Try.f154.name, by decide, Try.func154.trans (congrArg some (by kernel_rfl))⟩,
  t0 := Try.underlying0, a0 := Try.isAgg0, z0 := Try.sizeOf0, v0 := Try.zeroValue0,
  t3 := Try.underlying3, a3 := Try.isAgg3, z3 := Try.sizeOf3, v3 := Try.zeroValue3,
  t4 := Try.underlying4, a4 := Try.isAgg4, z4 := Try.sizeOf4, v4 := Try.zeroValue4,
  t5 := Try.underlying5, a5 := Try.isAgg5, z5 := Try.sizeOf5, v5 := Try.zeroValue5,
  t9 := Try.underlying9, a9 := Try.isAgg9, z9 := Try.sizeOf9, v9 := Try.zeroValue9,
  t22 := Try.underlying104, a22 := Try.isAgg104, z22 := Try.sizeOf104, v22 := Try.zeroValue104,
  t25 := Try.underlying159, a25 := Try.isAgg159, z25 := Try.sizeOf159, v25 := Try.zeroValue159,
  t39 := Try.underlying101, a39 := Try.isAgg101, z39 := Try.sizeOf101, v39 := Try.zeroValue101,
  t45 := Try.underlying163, a45 := Try.isAgg163, z45 := Try.sizeOf163, v45 := Try.zeroValue163,
  t46 := Try.underlying164, a46 := Try.isAgg164, z46 := Try.sizeOf164, v46 := Try.zeroValue164,
  t50 := Try.underlying130, a50 := Try.isAgg130, z50 := Try.sizeOf130, v50 := Try.zeroValue130,
  t53 := Try.underlying122, a53 := Try.isAgg122, z53 := Try.sizeOf122, v53 := Try.zeroValue122,
  t55 := Try.underlying124, a55 := Try.isAgg124, z55 := Try.sizeOf124, v55 := Try.zeroValue124,
  t66 := Try.underlying169, a66 := Try.isAgg169, z66 := Try.sizeOf169, v66 := Try.zeroValue169,
  t70 := Try.underlying146, a70 := Try.isAgg146, z70 := Try.sizeOf146, v70 := Try.zeroValue146,
  t76 := Try.underlying172, a76 := Try.isAgg172, z76 := Try.sizeOf172, v76 := Try.zeroValue172,
  t77 := Try.underlying85, a77 := Try.isAgg85, z77 := Try.sizeOf85, v77 := Try.zeroValue85 }
section
variable {α : Type} {encA : α → List AV}
def encW (encA : α → List AV) (x : α) : List Value := (encA x).map valA
theorem encW_flat (d : List α) : (d.map (encW encA)).flatten = ((d.map encA).flatten).map valA := by
  induction d with
  | nil => rfl
  | cons x d ih => simp only [List.map_cons, List.flatten_cons, List.map_append, ih, encW]
end
def okR (r : Run) : Prop := 1 ≤ r.lo ∧ r.lo ≤ 1000000000
instance (r : Run) : Decidable (okR r) := by unfold okR; infer_instance
def RunB : Type := {r : Run // okR r}
instance : Inhabited RunB := ⟨⟨⟨1, 1⟩, by unfold okR; decide⟩⟩
def toB (r : Run) : RunB := if h : okR r then ⟨r, h⟩ else default
def encB (r : RunB) : List AV := c108 r.1
def cfB (x y : RunB) : Int := x.1.lo - y.1.lo
theorem ltB (x y : RunB) : ltOf cfB x y = decide (x.1.lo < y.1.lo) := by
  unfold ltOf cfB
  congr 1
  exact propext ⟨fun h => by omega, fun h => by omega⟩
theorem swoB : SWO (ltOf cfB) := by
  refine ⟨fun x => ?_, fun x y z h1 h2 => ?_, fun x y z h1 h2 => ?_⟩ <;> simp only [ltB, decide_eq_true_eq, decide_eq_false_iff_not] at * <;> omega
def pdqB (l : List RunB) : List RunB := (pdq (ltOf cfB) l.toArray 0 l.toArray.size (Lib.bitLen l.toArray.size) true true).toList
def pdqR (l : List Run) : List Run := (pdqB (l.map toB)).map (·.1)
theorem toB_val {l : List Run} (h : ∀ r ∈ l, okR r) : (l.map toB).map (·.1) = l := by
  rw [List.map_map]
  conv => rhs; rw [← List.map_id l]
  refine List.map_congr_left fun r hr => ?_
  simp [toB, h r hr]
theorem pdqB_perm (l : List RunB) : (pdqB l).Perm l := by
  have h := (pdq_sorts (ltOf cfB) swoB l.toArray 0 l.toArray.size (Lib.bitLen l.toArray.size) true true (Nat.zero_le _) (Nat.le_refl _) (Or.inl rfl)).1
  obtain ⟨hsz, _, hp⟩ := h
  unfold pdqB
  generalize pdq (ltOf cfB) l.toArray 0 l.toArray.size (Lib.bitLen l.toArray.size) true true = d at hsz hp ⊢
  have e1 : d.extract 0 l.toArray.size = d := by rw [← hsz]; exact Array.extract_size
  rw [e1, Array.extract_size] at hp
  exact hp
theorem pdqR_perm {l : List Run} (h : ∀ r ∈ l, okR r) : (pdqR l).Perm l := by
  have := (pdqB_perm (l.map toB)).map (·.1)
  rw [toB_val h] at this
  exact this
theorem pdqR_rises (l : List Run) : (pdqR l).Pairwise fun x y => x.lo ≤ y.lo := by
  have h := pdq_sorts (ltOf cfB) swoB (l.map toB).toArray 0 (l.map toB).toArray.size (Lib.bitLen (l.map toB).toArray.size) true true (Nat.zero_le _) (Nat.le_refl _) (Or.inl rfl)
  have hs := h.1.1
  have h2 := h.2
  unfold pdqR pdqB
  rw [List.pairwise_map, List.pairwise_iff_getElem]
  intro i j hi hj hij
  rw [Array.length_toList] at hi hj
  have := h2 i j (Nat.zero_le _) hij (by omega)
  rw [ltB, decide_eq_false_iff_not, getElem!_pos _ j hj, getElem!_pos _ i hi] at this
  rw [Array.getElem_toList, Array.getElem_toList]
  omega
set_option maxHeartbeats 4000000 in
theorem cmpB (x y : RunB) (W : World) : Calls Try.prog 137 #[.agg (encW encB x).toArray, .agg (encW encB y).toArray] W fun e w' => e = .returned (.int .i64 (cfB x y)) ∧ ∃ q os, w' = grow (W.drewN q) os := by
  have hx := x.2
  have hy := y.2
  unfold okR at hx hy
  have wr : IntKind.i64.wrap (x.1.lo - y.1.lo) = x.1.lo - y.1.lo := by rw [IntKind.wrap_i64]; omega
  unfold cfB encW encB c108
  generalize x.1 = p at hx wr ⊢
  generalize y.1 = q at hy wr ⊢
  obtain ⟨a, b⟩ := p
  obtain ⟨c, d⟩ := q
  simp only [List.map_cons, List.map_nil, valA] at wr ⊢
  go_enter Try.func137, Try.ntmps137
  go_wp2
  go_ret
  exact ⟨rfl, 0, #[_, _], by rw [alloc_eq_grow, alloc_eq_grow, grow_grow]; rfl⟩
theorem encB_len (x : RunB) : (encW encB x).length = 2 := rfl
theorem encB_plain (x : RunB) : ∀ a ∈ encB x, plainA a = true := by
  intro a ha
  simp only [encB, c108, List.mem_cons, List.not_mem_nil, or_false] at ha
  rcases ha with rfl | rfl <;> rfl
/-- slices.SortFunc at a row of runs of one's own. -/
theorem io136 (l : List Run) (hok : ∀ r ∈ l, okR r) (hlen : l.length < 4611686018427387904) :
    IOConG Try.prog 136 137 none false 108 2 (l.map c108) ((pdqR l).map c108) := by
  have hpm := pdqR_perm hok
  have hone : ∀ x, ∀ v ∈ encW encB x, v.oneCell' = true := by
    intro x v hv
    obtain ⟨a, ha, rfl⟩ := List.mem_map.1 hv
    exact plain_one (encB_plain x a ha)
  have hpl : ∀ m : List Run, ∀ a ∈ (m.map c108).flatten, plainA a = true := by
    intro m a ha
    obtain ⟨r, hr, har⟩ := List.mem_flatten.1 ha
    obtain ⟨x, _, rfl⟩ := List.mem_map.1 hr
    simp only [c108, List.mem_cons, List.not_mem_nil, or_false] at har
    rcases har with rfl | rfl <;> rfl
  have hsz : ∀ r ∈ l.map c108, r.length = 2 := fun r hr => by obtain ⟨x, _, rfl⟩ := List.mem_map.1 hr; rfl
  have hB : (l.map toB).map encB = l.map c108 := by
    conv => rhs; rw [← toB_val hok, List.map_map]
    rfl
  have hBp : (pdqB (l.map toB)).map encB = (pdqR l).map c108 := by
    unfold pdqR
    rw [List.map_map]
    rfl
  refine ⟨⟨_, Try.func136, by kernel_rfl, by kernel_rfl⟩, by rw [List.length_map, List.length_map, hpm.length_eq], fun r hr => by obtain ⟨x, _, rfl⟩ := List.mem_map.1 hr; rfl, fun w base v cv S xs hS hb ho hx1 hxr _ => ?_⟩
  have hxs : xs = (l.map c108).flatten.map valA := by
    apply List.ext_getElem?
    intro j
    by_cases hj : j < xs.length
    · have hj' : j < (l.map c108).flatten.length := by rw [flatten_len hsz, ← ho.1]; exact hj
      rw [List.getElem?_eq_getElem hj, List.getElem?_map, List.getElem?_eq_getElem hj', Option.map_some]
      have := hxr j _ _ (List.getElem?_eq_getElem hj') (List.getElem?_eq_getElem hj)
      rw [plain_val (hpl _ _ (List.getElem_mem hj')) this]
    · rw [List.getElem?_eq_none (by omega), List.getElem?_eq_none (by rw [List.length_map, flatten_len hsz, ← ho.1]; omega)]
  rw [hxs, List.length_map] at ho
  rw [List.length_map]
  simp only [Bool.false_eq_true, if_false, ioVal]
  have hout : ∀ (w' : World), ∀ (j : Nat) (a : AV) (u : Value), ((pdqR l).map c108).flatten[j]? = some a → (((pdqR l).map c108).flatten.map valA)[j]? = some u → RelV0 S w' a u := by
    intro w' j a u ha hu
    rw [List.getElem?_map, ha, Option.map_some, Option.some.injEq] at hu
    rw [← hu]
    exact plain_rel (hpl _ a (List.mem_of_getElem? ha))
  have hout1 : ∀ u ∈ ((pdqR l).map c108).flatten.map valA, u.oneCell' = true := by
    intro u hu
    obtain ⟨x, hx, rfl⟩ := List.mem_map.1 hu
    exact plain_one (hpl _ x hx)
  rcases ho.2 with ⟨rfl, h0⟩ | ⟨b, cap, cur, rfl, hb', hh, h1, h2, h3, h4⟩
  · have : l = [] := List.eq_nil_of_length_eq_zero h0
    subst this
    refine (AnyF.slices_SortFunc_none (P := Try.prog) (ρ := renSr) laysSr none 0 _ w).mono ?_
    rintro e' w' ⟨rfl, rfl⟩
    have e0 : pdqR [] = [] := List.eq_nil_of_length_eq_zero (by rw [hpm.length_eq]; rfl)
    refine ⟨rfl, [], ⟨by simp, .inl ⟨rfl, rfl⟩⟩, fun u hu => by simp at hu, fun j a u ha hu => by simp at hu, fun j _ _ => rfl, rfl, rfl, rfl, Nat.le_refl _⟩
  · have hbl : b < w.heap.size := (Array.getElem?_eq_some_iff.1 hh).1
    have hflat : (l.map c108).flatten.map valA = ((l.map toB).map (encW encB)).flatten := by rw [← hB, ← encW_flat]
    rw [hflat] at ho
    have hHd : HoldsK (encW encB) 2 w b 0 (l.map toB).toArray := holds_of_owns encB_len ho (by simp) (by simp)
    have hw := AnyQ.slices_SortFunc_eq (P := Try.prog) (ρ := renSr) laysSr 2 (fun _ => by kernel_rfl) (fun _ => by kernel_rfl) (encW encB) encB_len hone cfB swoB 137 #[] b 0 cap (l.map toB).toArray w
      (enters_of Try.func137 (by kernel_rfl) rfl) (fun m os dk hs x y => cmpB x y _) hHd hbl (by simpa using hlen)
    have hsize : (l.map toB).toArray.size = l.length := by simp
    rw [hsize] at hw
    refine hw.mono ?_
    rintro e' w' ⟨rfl, n, os, hw'⟩
    have hF : Fam (encW encB) 2 b 0 w (pdqB (l.map toB)).toArray w' := ⟨w.drawn + n, os, by rw [hw']; unfold pdqB; rw [hsize]; rfl⟩
    have f := hF.facts
    have ow := hF.owns (d := (l.map toB).toArray) encB_len (by simpa using (pdqB_perm (l.map toB)).length_eq) (by simp) (by simp) ho
    refine ⟨rfl, ((pdqR l).map c108).flatten.map valA, ?_, hout1, hout w', fun j hj hjb => f.2.2.2 j hj (fun e => hjb (by rw [e]; rfl)), f.1, f.2.1, f.2.2.1, hF.size⟩
    have e2 : ((pdqR l).map c108).flatten.map valA = ((pdqB (l.map toB)).map (encW encB)).flatten := by rw [← hBp, ← encW_flat]
    rw [e2]
    simpa using ow
end Go.Proofs.Ytjngmlkaijpbgaa
namespace Go.Proofs.Ytjngmlkaijpbgaa
open Go.E
set_option maxRecDepth 100000
set_option maxHeartbeats 4000000
def lastR (out : List Run) : Run := out[((out.length : Int) - 1).toNat]!
def addR (out : List Run) (r : Run) : List Run :=
  if 0 < (out.length : Int) ∧ r.lo ≤ (lastR out).hi + 1 then out.set ((out.length : Int) - 1).toNat ⟨(lastR out).lo, max (lastR out).hi r.hi⟩ else out ++ [r]
theorem bang_in {α : Type} [Inhabited α] {l : List α} {i : Nat} (h : i < l.length) : l[i]! ∈ l := by
  rw [getElem!_pos l i h]
  exact List.getElem_mem h
def clipR (r : Run) : Run := ⟨max r.lo 1, min r.hi 1000000000⟩
def hiOk (out : List Run) : Prop := ∀ x ∈ out, x.hi ≤ 1000000000 ∧ 0 ≤ x.hi
theorem con135 (r : Run) : Con Try.prog 135 [.agg (c108 r)] (.tup [.agg (c108 (clipR r)), .b (decide ((clipR r).lo ≤ (clipR r).hi))]) :=
  by
  refine st_con tab_ok (by kernel_rfl) [.cell 2 108, .tmp 3] 18 Go.Proofs.Try.func135 (by kernel_rfl) (by kernel_rfl) ?_
  intro e0 cx
  refine sq ?_
  refine rg (A := True) cx [] [1, 2] [1, 2] trivial ?_
  refine sn ?_
  refine sq ?_
  refine rg (A := (AV.i IntKind.i64 (if (1 : Int) > r.lo then (1 : Int) else r.lo) = AV.i IntKind.i64 (max r.lo (1 : Int))) ∧ (AV.i IntKind.i64 (if (1000000000 : Int) < r.hi then (1000000000 : Int) else r.hi) = AV.i IntKind.i64 (min r.hi (1000000000 : Int)))) cx [(2, { tell := some (.i .i64 (max r.lo (1 : Int))) }), (5, { tell := some (.i .i64 (min r.hi (1000000000 : Int))) })] [1, 2] [1, 2] ⟨(told_max), (told_min)⟩ ?_
  refine sn ?_
  refine sq ?_
  refine ra (A := (AV.b (decide (max r.lo (1 : Int) ≤ min r.hi (1000000000 : Int))) = AV.b (decide (max r.lo (1 : Int) ≤ min r.hi (1000000000 : Int))))) cx [(5, { tell := some (.b (decide (max r.lo (1 : Int) ≤ min r.hi (1000000000 : Int)))) })] [2, 3] [2] (by kernel_rfl) ?_
  refine sn ?_
  refine st_ret (by kernel_rfl) ?_
  refine q_ret (r := .tup [.agg [.i .i64 (max r.lo (1 : Int)), .i .i64 (min r.hi (1000000000 : Int))], .b (decide (max r.lo (1 : Int) ≤ min r.hi (1000000000 : Int)))]) (obl := []) (by kernel_rfl) trivial (AVle.tup (ZLe.cons (AVle.eq (show AV.agg [AV.i IntKind.i64 (max r.lo (1 : Int)), AV.i IntKind.i64 (min r.hi (1000000000 : Int))] = AV.agg [AV.i IntKind.i64 (clipR r).lo, AV.i IntKind.i64 (clipR r).hi] from ?g1)) (ZLe.cons (AVle.eq (show AV.b (decide (max r.lo (1 : Int) ≤ min r.hi (1000000000 : Int))) = AV.b (decide ((clipR r).lo ≤ (clipR r).hi)) from ?g0)) ZLe.nil))); rotate_left 2
  case g0 => exact rfl
  case g1 => exact rfl
theorem con138 (out : List Run) (r : Run) (hh : hiOk out) (hb : (out.length + 1) * 16 ≤ 140737488351232) : ConU Try.prog 138 108 2 (out.map c108) [.agg (c108 r)] ((addR out r).map c108) :=
  by
  have hlast : 0 < (out.length : Int) → out[((out.length : Int) - 1).toNat]!.hi ≤ 1000000000 ∧ 0 ≤ out[((out.length : Int) - 1).toNat]!.hi := fun h => hh _ (bang_in (by omega))
  refine st_conU tab_ok (by kernel_rfl) (.tmp 4) 41 Go.Proofs.Try.func138 (by kernel_rfl) (by kernel_rfl) (by (with_reducible refine len_map (fun _ => ?_) _); kernel_rfl) (by (with_reducible refine len_map (fun _ => ?_) _); kernel_rfl) (plain_flat (fun _ => by kernel_rfl) _) ?_
  intro e0 cx
  refine sq ?_
  refine rg (A := True) cx [] [0, 3] [0, 3] trivial ?_
  refine sn ?_
  refine sq ?_
  refine sq ?_
  refine rg (A := _) cx [(1, { tell := some (.i .i64 ((↑out.length : Int))) })] [0, 3, 5] [0, 3] (told_len c108 out) ?_
  refine sn ?_
  refine sq ?_
  refine st_join (σ' := ⟨[(0, .own 0 0), (3, .ptr (3) (0) (0) (0)), (5, .i .i64 ((↑out.length : Int))), (21, .b (decide ((0 : Int) < (↑out.length : Int) ∧ r.lo ≤ out[((↑out.length : Int) - (1 : Int)).toNat]!.hi + (1 : Int))))], [(0, ⟨0, 108, .row 2 (List.map c108 out)⟩), (3, ⟨0, 108, .var [.i .i64 (r.lo), .i .i64 (r.hi)]⟩)]⟩) ?_ ?_
  refine st_split ((0 : Int) < (↑out.length : Int)) (fun h_1 => ?_) (fun h_1 => ?_)
  refine ra (A := _ ∧ (AV.i IntKind.i64 (IntKind.i64.wrap ((↑out.length : Int) - (1 : Int))) = AV.i IntKind.i64 ((↑out.length : Int) - (1 : Int))) ∧ ((0 : Int) ≤ (↑out.length : Int) - (1 : Int)) ∧ (((↑out.length : Int) - (1 : Int)).toNat < (List.map c108 out).length) ∧ ((2 : Nat) = 2) ∧ (E.rowAt { ver := 0, ty := 108, k := BK.row (2) (List.map c108 out) : Blk } ((↑out.length : Int) - (1 : Int)).toNat (c108 out[((↑out.length : Int) - (1 : Int)).toNat]!)) ∧ (AV.i IntKind.i64 (IntKind.i64.wrap (out[((↑out.length : Int) - (1 : Int)).toNat]!.hi + (1 : Int))) = AV.i IntKind.i64 (out[((↑out.length : Int) - (1 : Int)).toNat]!.hi + (1 : Int))) ∧ (AV.b (decide (r.lo ≤ out[((↑out.length : Int) - (1 : Int)).toNat]!.hi + (1 : Int))) = AV.b (decide (r.lo ≤ out[((↑out.length : Int) - (1 : Int)).toNat]!.hi + (1 : Int)))) ∧ (AV.b (decide (r.lo ≤ out[((↑out.length : Int) - (1 : Int)).toNat]!.hi + (1 : Int))) = AV.b (decide ((0 : Int) < (↑out.length : Int) ∧ r.lo ≤ out[((↑out.length : Int) - (1 : Int)).toNat]!.hi + (1 : Int))))) cx [(1, { tell := some (.b (true)) }), (7, { tell := some (.i .i64 ((↑out.length : Int) - (1 : Int))) }), (10, { row := (c108 out[((↑out.length : Int) - (1 : Int)).toNat]!) }), (11, { tell := some (.i .i64 (out[((↑out.length : Int) - (1 : Int)).toNat]!.hi + (1 : Int))) }), (12, { tell := some (.b (decide (r.lo ≤ out[((↑out.length : Int) - (1 : Int)).toNat]!.hi + (1 : Int)))) }), (13, { tell := some (.b (decide ((0 : Int) < (↑out.length : Int) ∧ r.lo ≤ out[((↑out.length : Int) - (1 : Int)).toNat]!.hi + (1 : Int)))) })] [0, 3, 5, 21] [0, 3] ⟨(told_true h_1), (told_i64 (by omega) (by omega)), (by omega), (by (first | omega | (simp only [List.length_map]; omega))), (by kernel_rfl), ?g0, (told_i64 ?g1 ?g2), (by kernel_rfl), (by simp only [eq_true h_1, told_simp1, told_simp2, and_true, true_and, and_false, false_and, or_true, true_or, or_false, false_or, not_true_eq_false, not_false_eq_true, decide_true, decide_false, Bool.decide_eq_true])⟩ ?_; rotate_left 3
  exact ⟨rfl, by kernel_rfl⟩
  refine ra (A := _ ∧ (AV.b false = AV.b (decide ((0 : Int) < (↑out.length : Int) ∧ r.lo ≤ out[((↑out.length : Int) - (1 : Int)).toNat]!.hi + (1 : Int))))) cx [(1, { tell := some (.b (false)) }), (13, { tell := some (.b (decide ((0 : Int) < (↑out.length : Int) ∧ r.lo ≤ out[((↑out.length : Int) - (1 : Int)).toNat]!.hi + (1 : Int)))) })] [0, 3, 5, 21] [0, 3] ⟨(told_false h_1), (by simp only [eq_false h_1, told_simp1, told_simp2, and_true, true_and, and_false, false_and, or_true, true_or, or_false, false_or, not_true_eq_false, not_false_eq_true, decide_true, decide_false, Bool.decide_eq_true])⟩ ?_
  exact ⟨rfl, by kernel_rfl⟩
  refine sn ?_
  refine st_dec ((0 : Int) < (↑out.length : Int) ∧ r.lo ≤ out[((↑out.length : Int) - (1 : Int)).toNat]!.hi + (1 : Int)) (by kernel_rfl) (by kernel_rfl) (fun h_2 => ?_) (fun h_2 => ?_)
  refine sq ?_
  refine ra (A := (AV.i IntKind.i64 (IntKind.i64.wrap ((↑out.length : Int) - (1 : Int))) = AV.i IntKind.i64 ((↑out.length : Int) - (1 : Int))) ∧ (AV.i IntKind.i64 (IntKind.i64.wrap ((↑out.length : Int) - (1 : Int))) = AV.i IntKind.i64 ((↑out.length : Int) - (1 : Int))) ∧ ((0 : Int) ≤ (↑out.length : Int) - (1 : Int)) ∧ (((↑out.length : Int) - (1 : Int)).toNat < (List.map c108 out).length) ∧ ((2 : Nat) = 2) ∧ (E.rowAt { ver := 0, ty := 108, k := BK.row (2) (List.map c108 out) : Blk } ((↑out.length : Int) - (1 : Int)).toNat (c108 out[((↑out.length : Int) - (1 : Int)).toNat]!)) ∧ (AV.i IntKind.i64 (if r.hi > out[((↑out.length : Int) - (1 : Int)).toNat]!.hi then r.hi else out[((↑out.length : Int) - (1 : Int)).toNat]!.hi) = AV.i IntKind.i64 (max out[((↑out.length : Int) - (1 : Int)).toNat]!.hi r.hi)) ∧ ((0 : Int) ≤ (↑out.length : Int) - (1 : Int)) ∧ (((↑out.length : Int) - (1 : Int)).toNat < (List.map c108 out).length) ∧ ((2 : Nat) = 2) ∧ ((List.map c108 out)[((↑out.length : Int) - (1 : Int)).toNat]? = some (c108 out[((↑out.length : Int) - (1 : Int)).toNat]!)) ∧ ((cellsA (AV.i IntKind.i64 (max out[((↑out.length : Int) - (1 : Int)).toNat]!.hi r.hi))).length = (1 : Nat)) ∧ (1 + (1 : Nat) ≤ 2) ∧ ((List.map c108 out).set ((↑out.length : Int) - (1 : Int)).toNat (List.take (1) (c108 out[((↑out.length : Int) - (1 : Int)).toNat]!) ++ cellsA (AV.i IntKind.i64 (max out[((↑out.length : Int) - (1 : Int)).toNat]!.hi r.hi)) ++ List.drop (1 + (1 : Nat)) (c108 out[((↑out.length : Int) - (1 : Int)).toNat]!)) = List.map c108 (out.set ((↑out.length : Int) - (1 : Int)).toNat { lo := out[((↑out.length : Int) - (1 : Int)).toNat]!.lo, hi := max out[((↑out.length : Int) - (1 : Int)).toNat]!.hi r.hi : Run }))) cx [(2, { tell := some (.i .i64 ((↑out.length : Int) - (1 : Int))) }), (5, { tell := some (.i .i64 ((↑out.length : Int) - (1 : Int))) }), (8, { row := (c108 out[((↑out.length : Int) - (1 : Int)).toNat]!) }), (11, { tell := some (.i .i64 (max out[((↑out.length : Int) - (1 : Int)).toNat]!.hi r.hi)) }), (14, { row := (c108 out[((↑out.length : Int) - (1 : Int)).toNat]!), rows := some (List.map c108 (out.set ((↑out.length : Int) - (1 : Int)).toNat { lo := out[((↑out.length : Int) - (1 : Int)).toNat]!.lo, hi := max out[((↑out.length : Int) - (1 : Int)).toNat]!.hi r.hi : Run })) })] [0] [0] ⟨(told_i64 (by omega) (by omega)), (told_i64 (by omega) (by omega)), (by omega), (by (first | omega | (simp only [List.length_map]; omega))), (by kernel_rfl), ?g3, (told_max), (by omega), (by (first | omega | (simp only [List.length_map]; omega))), (by kernel_rfl), (by (with_reducible refine get_map ?_; omega)), (by kernel_rfl), (by (first | omega | (simp only [List.length_map]; omega))), (by (with_reducible refine set_map ?_; kernel_rfl))⟩ ?_; rotate_left 1
  refine sn ?_
  refine sq ?_
  refine rg (A := True) cx [] [4] [0] trivial ?_
  refine sn ?_
  refine st_ret (by kernel_rfl) ?_
  refine q_seq_ret ?_
  refine qb_own (rows' := (List.map c108 (out.set ((↑out.length : Int) - (1 : Int)).toNat { lo := out[((↑out.length : Int) - (1 : Int)).toNat]!.lo, hi := max out[((↑out.length : Int) - (1 : Int)).toNat]!.hi r.hi : Run }))) .ret (.inr rfl) 4 0 0 (by kernel_rfl) (by kernel_rfl) (by kernel_rfl) ?g4; rotate_left 1
  refine st_skip (by kernel_rfl) ?_
  refine sn ?_
  refine sq ?_
  refine rg (A := (108 = (108 : Nat)) ∧ ((2 : Nat) = 2) ∧ ([AV.i IntKind.i64 (0 : Int), AV.i IntKind.i64 (0 : Int)].length = (2 : Nat)) ∧ (∀ (r_1 : List AV), r_1 ∈ List.map c108 [r] → r_1.length = 2) ∧ ((List.map c108 out).length + (List.map c108 [r]).length ≤ maxLen) ∧ (((List.map c108 out).length + (List.map c108 [r]).length) * (16 : Nat) ≤ (140737488355328 : Nat)) ∧ (List.map c108 out ++ List.map c108 [r] = List.map c108 (out ++ [r]))) cx [(3, { rows := some (List.map c108 (out ++ [r])) })] [4] [0] ⟨(by kernel_rfl), (by kernel_rfl), (by kernel_rfl), (by (with_reducible refine len_map (fun _ => ?_) _; kernel_rfl)), (by (simp only [Go.maxLen, List.length_map, List.length_append, List.length_cons, List.length_nil]; omega)), (by (simp only [Go.maxLen, List.length_map, List.length_append, List.length_cons, List.length_nil]; omega)), (by (with_reducible refine app_map ?_; kernel_rfl))⟩ ?_
  refine sn ?_
  refine st_ret (by kernel_rfl) ?_
  refine qb_own (rows' := (List.map c108 (out ++ [r]))) .ret (.inr rfl) 4 0 0 (by kernel_rfl) (by kernel_rfl) (by kernel_rfl) ?g5; rotate_left 1
  revert h_1; rotate_left
  revert h_1; rotate_left
  revert h_1; rotate_left
  revert h_2; rotate_left
  revert h_2; rotate_left
  revert h_2; rotate_left
  case g0 => intro h; exact get_map (by omega)
  case g1 => intro h; have := hlast h; omega
  case g2 => intro h; have := hlast h; omega
  case g3 => intro h; exact get_map (by omega)
  case g4 => intro h; unfold addR lastR; rw [if_pos h]
  case g5 => intro h; unfold addR lastR; rw [if_neg h]
end Go.Proofs.Ytjngmlkaijpbgaa
namespace Go.Proofs.Ytjngmlkaijpbgaa
open Go.E
set_option maxRecDepth 100000
set_option maxHeartbeats 4000000
def c104 (l : List Run) : List AV := [.sl (l.map c108)]
def keepR (l : List Run) : List Run := (l.map clipR).filter (fun r => decide (r.lo ≤ r.hi))
def foldR (l : List Run) : List Run := l.foldl addR []
def unR (ss : List (List Run)) : List Run := foldR (pdqR (keepR ss.flatten))
def isKept (ss : List (List Run)) (i : Int) (all : List Run) : Prop := all = keepR (ss.take i.toNat).flatten
def isKept2 (ss : List (List Run)) (i j : Int) (all : List Run) : Prop := all = keepR ((ss.take i.toNat).flatten ++ (ss[i.toNat]!).take j.toNat)
def isFold (l : List Run) (i : Int) (out : List Run) : Prop := out = foldR (l.take i.toNat)
def inv133a (ss : List (List Run)) (i : Int) (all : List Run) : Prop := 0 ≤ i ∧ i ≤ ss.length ∧ isKept ss i all
def dec133a (ss : List (List Run)) (i : Int) (all : List Run) : Nat := (ss.length - i).toNat
def inv133b (ss : List (List Run)) (i : Int) (j : Int) (all : List Run) : Prop := 0 ≤ j ∧ j ≤ (ss[i.toNat]!).length ∧ isKept2 ss i j all
def dec133b (ss : List (List Run)) (i : Int) (j : Int) (all : List Run) : Nat := ((ss[i.toNat]!).length - j).toNat
def inv133c (s : List Run) (i : Int) (l out : List Run) : Prop := l = s ∧ 0 ≤ i ∧ i ≤ l.length ∧ (out.length : Int) ≤ i ∧ hiOk out ∧ isFold l i out
def dec133c (s : List Run) (i : Int) (l out : List Run) : Nat := (s.length - i).toNat
theorem keepR_app (a b : List Run) : keepR (a ++ b) = keepR a ++ keepR b := by simp [keepR]
theorem keepR_len (l : List Run) : (keepR l).length ≤ l.length := by
  unfold keepR
  exact Nat.le_trans (List.length_filter_le _ _) (by simp)
def good1 (r : Run) : Prop := okR r ∧ r.lo ≤ r.hi ∧ r.hi ≤ 1000000000
theorem keep_good {l : List Run} : ∀ r ∈ keepR l, good1 r := by
  intro r hr
  unfold keepR at hr
  obtain ⟨h1, h2⟩ := List.mem_filter.1 hr
  obtain ⟨x, _, rfl⟩ := List.mem_map.1 h1
  simp only [decide_eq_true_eq] at h2
  unfold good1 okR
  simp only [clipR] at *
  omega
theorem flatR_le {α : Type} (ss : List (List α)) (i : Nat) : (ss.take i).flatten.length ≤ ss.flatten.length := by
  have h : (ss.take i).flatten ++ (ss.drop i).flatten = ss.flatten := by rw [← List.flatten_append, List.take_append_drop]
  rw [← h, List.length_append]
  omega
theorem flatR_step {α : Type} {ss : List (List α)} {i : Int} (h0 : 0 ≤ i) (h : i < ss.length) : (ss.take (i + 1).toNat).flatten = (ss.take i.toNat).flatten ++ ss[i.toNat]! := by
  rw [← take_step h0 h, List.flatten_append]
  simp
theorem part_le {α : Type} {ss : List (List α)} {i : Int} (j : Nat) (h0 : 0 ≤ i) (h : i < ss.length) : ((ss.take i.toNat).flatten ++ (ss[i.toNat]!).take j).length ≤ ss.flatten.length := by
  have h1 := flatR_le ss (i + 1).toNat
  rw [flatR_step h0 h, List.length_append] at h1
  rw [List.length_append, List.length_take]
  omega
theorem kept2_len {ss : List (List Run)} {i j : Int} {all : List Run} (h0 : 0 ≤ i) (h : i < ss.length) (hk : isKept2 ss i j all) : all.length ≤ ((ss.take i.toNat).flatten ++ (ss[i.toNat]!).take j.toNat).length := by
  unfold isKept2 at hk
  rw [hk]
  exact keepR_len _
theorem keepR_one (r : Run) : keepR [r] = if (clipR r).lo ≤ (clipR r).hi then [clipR r] else [] := by
  unfold keepR
  by_cases h : (clipR r).lo ≤ (clipR r).hi <;> simp [List.filter_cons, h]
theorem kept2_next {ss : List (List Run)} {i j : Int} {all : List Run} (j0 : 0 ≤ j) (jl : j < (ss[i.toNat]!).length) (hk : isKept2 ss i j all) :
    isKept2 ss i (j + 1) (if (clipR (ss[i.toNat]!)[j.toNat]!).lo ≤ (clipR (ss[i.toNat]!)[j.toNat]!).hi then all ++ [clipR (ss[i.toNat]!)[j.toNat]!] else all) := by
  unfold isKept2 at *
  rw [← take_step j0 jl, ← List.append_assoc, keepR_app, ← hk]
  by_cases h : (clipR (ss[i.toNat]!)[j.toNat]!).lo ≤ (clipR (ss[i.toNat]!)[j.toNat]!).hi
  · rw [if_pos h, keepR_one, if_pos h]
  · rw [if_neg h, keepR_one, if_neg h, List.append_nil]
theorem kept2_room {ss : List (List Run)} {i j : Int} {all : List Run} (hb : ss.flatten.length * 16 ≤ 140737488351232) (h0 : 0 ≤ i) (h : i < ss.length) (j0 : 0 ≤ j) (jl : j < (ss[i.toNat]!).length) (hk : isKept2 ss i j all) : (all.length + 1) * 16 ≤ 140737488351232 ∧ j + 1 ≤ 9223372036854775807 := by
  have h1 := kept2_len h0 h hk
  have h2 := part_le (j + 1).toNat h0 h
  have h3 := part_le (ss[i.toNat]!).length h0 h
  rw [List.length_append, List.length_take] at h1 h2 h3
  omega
theorem kept_start {ss : List (List Run)} {i : Int} {all : List Run} (hk : isKept ss i all) : isKept2 ss i 0 all := by
  unfold isKept isKept2 at *
  simpa using hk
theorem kept_next {ss : List (List Run)} {i j : Int} {all : List Run} (h0 : 0 ≤ i) (h : i < ss.length) (jl : ¬ j < (ss[i.toNat]!).length) (hk : isKept2 ss i j all) : isKept ss (i + 1) all := by
  unfold isKept isKept2 at *
  rw [flatR_step h0 h, hk, List.take_of_length_le (l := ss[i.toNat]!) (by omega)]
theorem kept_end {ss : List (List Run)} {i : Int} {all : List Run} (h : ¬ i < ss.length) (hk : isKept ss i all) : all = keepR ss.flatten := by
  unfold isKept at hk
  rw [hk, List.take_of_length_le (by omega)]
theorem addR_len (out : List Run) (r : Run) : (addR out r).length ≤ out.length + 1 := by
  unfold addR
  split <;> simp
theorem addR_hi {out : List Run} {r : Run} (h : hiOk out) (h1 : r.hi ≤ 1000000000 ∧ 0 ≤ r.hi) : hiOk (addR out r) := by
  unfold addR
  split
  · rename_i hc
    intro x hx
    rcases List.mem_or_eq_of_mem_set hx with hx | rfl
    · exact h x hx
    · have := h _ (bang_in (l := out) (i := ((out.length : Int) - 1).toNat) (by omega))
      unfold lastR
      simp only
      omega
  · intro x hx
    rcases List.mem_append.1 hx with hx | hx
    · exact h x hx
    · have : x = r := by simpa using hx
      subst this
      exact h1
theorem fold_next {l out : List Run} {i : Int} (h0 : 0 ≤ i) (h : i < l.length) (hf : isFold l i out) : isFold l (i + 1) (addR out l[i.toNat]!) := by
  unfold isFold foldR at *
  rw [← take_step h0 h, List.foldl_append, ← hf]
  rfl
theorem sorted_good {l : List Run} (hl : ∀ r ∈ l, good1 r) : ∀ r ∈ pdqR l, good1 r := fun r hr => hl r ((pdqR_perm fun r hr => (hl r hr).1).subset hr)
theorem con133 (ss : List (List Run)) (hb : ss.flatten.length * 16 ≤ 140737488351232) : ConB Try.prog 133 [.sl (ss.map c104)] 108 (.row 2 ((unR ss).map c108)) :=
  by
  refine conB_lens 0 (c104) (ss) (by kernel_rfl) Go.Proofs.Try.func133 (by kernel_rfl) fun hl_0 => ?_
  refine st_conB tab_ok (by kernel_rfl) (.tmp 2) 50 Go.Proofs.Try.func133 (by kernel_rfl) (by kernel_rfl) ?_
  intro e0 cx
  refine sq ?_
  refine rg (A := True) cx [] [0] [] trivial ?_
  refine sn ?_
  refine sq ?_
  refine rg (A := True) cx [] [0, 3] [] trivial ?_
  refine sn ?_
  refine sq ?_
  refine sq ?_
  refine rg (A := _) cx [(1, { tell := some (.i .i64 ((↑ss.length : Int))) })] [3, 13, 14, 15] [] (told_len c104 ss) ?_
  refine sn ?_
  refine st_block 0 (by kernel_rfl) ?_
  refine awp_adopt 3 1003 108 2 (σ' := ⟨[(3, .own 1003 0), (13, .sl (List.map c104 ss)), (14, .i .i64 ((↑ss.length : Int))), (15, .i .i64 ((0 : Int)))], [(1003, ⟨0, 108, .row 2 (List.map c108 [])⟩)]⟩) (by kernel_rfl) ?_
  refine st_loop (X := Int × List Run) (fun x => ⟨[(3, .own 1003 0), (13, .sl (List.map c104 ss)), (14, .i .i64 ((↑ss.length : Int))), (15, .i .i64 (x.fst))], [(1003, ⟨0, 108, .row 2 (List.map c108 x.snd)⟩)]⟩) (fun x ↦ dec133a ss x.fst x.snd) (fun x ↦ inv133a ss x.fst x.snd) [3, 13, 14, 15] [1003] (((0 : Int), [])) (by kernel_rfl) (by kernel_rfl) (show inv133a ss (0 : Int) [] from ?g0) ?_; rotate_left 1
  rintro ⟨i_0, all_1⟩ h_2
  obtain ⟨h_3, h_4, h_5⟩ : (0 : Int) ≤ i_0 ∧ i_0 ≤ (↑ss.length : Int) ∧ isKept ss i_0 all_1 := h_2
  refine sq ?_
  refine rg (A := (AV.b (decide (i_0 < (↑ss.length : Int))) = AV.b (decide (i_0 < (↑ss.length : Int))))) cx [(0, { tell := some (.b (decide (i_0 < (↑ss.length : Int)))) })] [3, 13, 14, 15, 16] [1003] (by kernel_rfl) ?_
  refine sn ?_
  refine sq ?_
  refine st_dec (i_0 < (↑ss.length : Int)) (by kernel_rfl) (by kernel_rfl) (fun h_6 => ?_) (fun h_6 => ?_)
  refine st_skip (by kernel_rfl) ?_
  refine sn ?_
  refine sq ?_
  refine st_block 1 (by kernel_rfl) ?_
  refine sq ?_
  refine rg (A := ((0 : Int) ≤ i_0) ∧ ((List.map c104 ss)[i_0.toNat]? = some (c104 ss[i_0.toNat]!)) ∧ ((c104 ss[i_0.toNat]!).length = (1 : Nat))) cx [(0, { row := (c104 ss[i_0.toNat]!) })] [3, 13, 14, 15, 5] [1003] ⟨(by (with_reducible assumption)), (by (with_reducible refine get_map ?_; omega)), (by kernel_rfl)⟩ ?_
  refine sn ?_
  refine sq ?_
  refine rg (A := _) cx [(1, { tell := some (.i .i64 ((↑ss[i_0.toNat]!.length : Int))) })] [3, 13, 14, 15, 19, 20, 21] [1003] (told_len c108 ss[i_0.toNat]!) ?_
  refine sn ?_
  refine st_block 2 (by kernel_rfl) ?_
  refine st_loop (X := Int × List Run) (fun x => ⟨[(3, .own 1003 0), (13, .sl (List.map c104 ss)), (14, .i .i64 ((↑ss.length : Int))), (15, .i .i64 (i_0)), (19, .sl (List.map c108 ss[i_0.toNat]!)), (20, .i .i64 ((↑ss[i_0.toNat]!.length : Int))), (21, .i .i64 (x.fst))], [(1003, ⟨0, 108, .row 2 (List.map c108 x.snd)⟩)]⟩) (fun x ↦ dec133b ss i_0 x.fst x.snd) (fun x ↦ inv133b ss i_0 x.fst x.snd) [3, 13, 14, 15, 19, 20, 21] [1003] (((0 : Int), all_1)) (by kernel_rfl) (by kernel_rfl) (show inv133b ss i_0 (0 : Int) all_1 from ?g1) ?_; rotate_left 1
  rintro ⟨j_7, all_8⟩ h_9
  obtain ⟨h_10, h_11, h_12⟩ : (0 : Int) ≤ j_7 ∧ j_7 ≤ (↑ss[i_0.toNat]!.length : Int) ∧ isKept2 ss i_0 j_7 all_8 := h_9
  refine sq ?_
  refine rg (A := (AV.b (decide (j_7 < (↑ss[i_0.toNat]!.length : Int))) = AV.b (decide (j_7 < (↑ss[i_0.toNat]!.length : Int))))) cx [(0, { tell := some (.b (decide (j_7 < (↑ss[i_0.toNat]!.length : Int)))) })] [3, 13, 14, 15, 19, 20, 21, 22] [1003] (by kernel_rfl) ?_
  refine sn ?_
  refine sq ?_
  refine st_dec (j_7 < (↑ss[i_0.toNat]!.length : Int)) (by kernel_rfl) (by kernel_rfl) (fun h_13 => ?_) (fun h_13 => ?_)
  refine st_skip (by kernel_rfl) ?_
  refine sn ?_
  refine sq ?_
  refine st_block 3 (by kernel_rfl) ?_
  refine sq ?_
  refine rg (A := ((0 : Int) ≤ j_7) ∧ ((List.map c108 ss[i_0.toNat]!)[j_7.toNat]? = some (c108 ss[i_0.toNat]![j_7.toNat]!)) ∧ ((c108 ss[i_0.toNat]![j_7.toNat]!).length = (2 : Nat)) ∧ ((2 : Nat) ≤ [AV.i IntKind.i64 ss[i_0.toNat]![j_7.toNat]!.lo, AV.i IntKind.i64 ss[i_0.toNat]![j_7.toNat]!.hi].length)) cx [(0, { row := (c108 ss[i_0.toNat]![j_7.toNat]!) })] [3, 13, 14, 15, 19, 20, 21, 7] [1003, 7] ⟨(by (with_reducible assumption)), (by (with_reducible refine get_map ?_; omega)), (by kernel_rfl), (by (simp only [List.length_append, List.length_cons, List.length_nil]; omega))⟩ ?_
  refine sn ?_
  refine sq ?_
  refine rg (A := _) cx [(1, { val := some (resC (con135 (ss[i_0.toNat]![j_7.toNat]!))) })] [3, 13, 14, 15, 19, 20, 21, 8, 9] [1003, 8] (con135 (ss[i_0.toNat]![j_7.toNat]!)) ?_
  refine sn ?_
  refine sq ?_
  refine rg (A := True) cx [] [3, 13, 14, 15, 19, 20, 21, 8, 30] [1003, 8] trivial ?_
  refine sn ?_
  refine st_dec ((clipR ss[i_0.toNat]![j_7.toNat]!).lo ≤ (clipR ss[i_0.toNat]![j_7.toNat]!).hi) (by kernel_rfl) (by kernel_rfl) (fun h_14 => ?_) (fun h_14 => ?_)
  refine rg (A := (108 = (108 : Nat)) ∧ ((2 : Nat) = 2) ∧ ([AV.i IntKind.i64 (0 : Int), AV.i IntKind.i64 (0 : Int)].length = (2 : Nat)) ∧ (∀ (r : List AV), r ∈ List.map c108 [clipR ss[i_0.toNat]![j_7.toNat]!] → r.length = 2) ∧ ((List.map c108 all_8).length + (List.map c108 [clipR ss[i_0.toNat]![j_7.toNat]!]).length ≤ maxLen) ∧ (((List.map c108 all_8).length + (List.map c108 [clipR ss[i_0.toNat]![j_7.toNat]!]).length) * (16 : Nat) ≤ (140737488355328 : Nat)) ∧ (List.map c108 all_8 ++ List.map c108 [clipR ss[i_0.toNat]![j_7.toNat]!] = List.map c108 (all_8 ++ [clipR ss[i_0.toNat]![j_7.toNat]!]))) cx [(3, { rows := some (List.map c108 (all_8 ++ [clipR ss[i_0.toNat]![j_7.toNat]!])) })] [3, 13, 14, 15, 19, 20, 21] [1003] ⟨(by kernel_rfl), (by kernel_rfl), (by kernel_rfl), (by (with_reducible refine len_map (fun _ => ?_) _; kernel_rfl)), ?g2, ?g3, (by (with_reducible refine app_map ?_; kernel_rfl))⟩ ?_; rotate_left 2
  refine q_blk_normal ?_
  refine sn ?_
  refine rg (A := (AV.i IntKind.i64 (IntKind.i64.wrap (j_7 + (1 : Int))) = AV.i IntKind.i64 (j_7 + (1 : Int)))) cx [(0, { tell := some (.i .i64 (j_7 + (1 : Int))) })] [3, 13, 14, 15, 19, 20, 21] [1003] (told_i64 (by omega) ?g4) ?_; rotate_left 1
  refine sn ?_
  refine loop_next ((j_7 + (1 : Int), all_8 ++ [clipR ss[i_0.toNat]![j_7.toNat]!])) (by kernel_rfl) (show ((↑ss[i_0.toNat]!.length : Int) - (j_7 + (1 : Int))).toNat < ((↑ss[i_0.toNat]!.length : Int) - j_7).toNat from (by omega)) (show inv133b ss i_0 (j_7 + (1 : Int)) (all_8 ++ [clipR ss[i_0.toNat]![j_7.toNat]!]) from ?g5); rotate_left 1
  refine st_skip (by kernel_rfl) ?_
  refine q_blk_normal ?_
  refine sn ?_
  refine rg (A := (AV.i IntKind.i64 (IntKind.i64.wrap (j_7 + (1 : Int))) = AV.i IntKind.i64 (j_7 + (1 : Int)))) cx [(0, { tell := some (.i .i64 (j_7 + (1 : Int))) })] [3, 13, 14, 15, 19, 20, 21] [1003] (told_i64 (by omega) ?g6) ?_; rotate_left 1
  refine sn ?_
  refine loop_next ((j_7 + (1 : Int), all_8)) (by kernel_rfl) (show ((↑ss[i_0.toNat]!.length : Int) - (j_7 + (1 : Int))).toNat < ((↑ss[i_0.toNat]!.length : Int) - j_7).toNat from (by omega)) (show inv133b ss i_0 (j_7 + (1 : Int)) all_8 from ?g7); rotate_left 1
  refine st_exit 2 (by kernel_rfl) ?_
  refine q_seq_exit ?_
  refine q_seq_exit ?_
  refine q_blk_hit ?_
  refine q_blk_normal ?_
  refine sn ?_
  refine rg (A := (AV.i IntKind.i64 (IntKind.i64.wrap (i_0 + (1 : Int))) = AV.i IntKind.i64 (i_0 + (1 : Int)))) cx [(0, { tell := some (.i .i64 (i_0 + (1 : Int))) })] [3, 13, 14, 15] [1003] (told_i64 (by omega) (by omega)) ?_
  refine sn ?_
  refine loop_next ((i_0 + (1 : Int), all_8)) (by kernel_rfl) (show ((↑ss.length : Int) - (i_0 + (1 : Int))).toNat < ((↑ss.length : Int) - i_0).toNat from (by omega)) (show inv133a ss (i_0 + (1 : Int)) all_8 from ?g8); rotate_left 1
  refine st_exit 0 (by kernel_rfl) ?_
  refine q_seq_exit ?_
  refine q_seq_exit ?_
  refine q_blk_hit ?_
  refine sn ?_
  refine sq ?_
  refine rg (A := (IOConG Try.prog (136 : FuncId) (137 : FuncId) none false (108 : Nat) (2 : Nat) (List.map c108 all_1) (List.map c108 (pdqR all_1)))) cx [(1, { rows := some (List.map c108 (pdqR all_1)) })] [3] [1003] (io136 (all_1) ?g9 ?g10) ?_; rotate_left 2
  refine sn ?_
  refine sq ?_
  refine rg (A := True) cx [] [3, 10] [1003] trivial ?_
  refine sn ?_
  refine sq ?_
  refine sq ?_
  refine rg (A := _) cx [(1, { tell := some (.i .i64 ((↑(pdqR all_1).length : Int))) })] [10, 39, 40, 41] [1003] (told_len c108 (pdqR all_1)) ?_
  refine sn ?_
  refine st_block 4 (by kernel_rfl) ?_
  refine awp_adopt 10 1010 108 2 (σ' := ⟨[(10, .own 1010 0), (39, .own 1003 0), (40, .i .i64 ((↑(pdqR all_1).length : Int))), (41, .i .i64 ((0 : Int)))], [(1003, ⟨0, 108, .row 2 (List.map c108 (pdqR all_1))⟩), (1010, ⟨0, 108, .row 2 (List.map c108 [])⟩)]⟩) (by kernel_rfl) ?_
  refine st_loop (X := Int × List Run × List Run) (fun x => ⟨[(10, .own 1010 0), (39, .own 1003 0), (40, .i .i64 ((↑(pdqR all_1).length : Int))), (41, .i .i64 (x.fst))], [(1003, ⟨0, 108, .row 2 (List.map c108 x.snd.fst)⟩), (1010, ⟨0, 108, .row 2 (List.map c108 x.snd.snd)⟩)]⟩) (fun x ↦ dec133c (pdqR all_1) x.fst x.snd.fst x.snd.snd) (fun x ↦ inv133c (pdqR all_1) x.fst x.snd.fst x.snd.snd) [10, 39, 40, 41] [1003, 1010] (((0 : Int), pdqR all_1, [])) (by kernel_rfl) (by kernel_rfl) (show inv133c (pdqR all_1) (0 : Int) (pdqR all_1) [] from ?g11) ?_; rotate_left 1
  rintro ⟨i_15, l_16, out_17⟩ h_18
  obtain ⟨h_19, h_20, h_21, h_22, h_23, h_24⟩ : l_16 = pdqR all_1 ∧ (0 : Int) ≤ i_15 ∧ i_15 ≤ (↑l_16.length : Int) ∧ (↑out_17.length : Int) ≤ i_15 ∧ hiOk out_17 ∧ isFold l_16 i_15 out_17 := h_18
  refine sq ?_
  refine rg (A := (AV.b (decide (i_15 < (↑(pdqR all_1).length : Int))) = AV.b (decide (i_15 < (↑(pdqR all_1).length : Int))))) cx [(0, { tell := some (.b (decide (i_15 < (↑(pdqR all_1).length : Int)))) })] [10, 39, 40, 41, 42] [1003, 1010] (by kernel_rfl) ?_
  refine sn ?_
  refine sq ?_
  refine st_dec (i_15 < (↑(pdqR all_1).length : Int)) (by kernel_rfl) (by kernel_rfl) (fun h_25 => ?_) (fun h_25 => ?_)
  refine st_skip (by kernel_rfl) ?_
  refine sn ?_
  refine sq ?_
  refine st_block 5 (by kernel_rfl) ?_
  refine sq ?_
  refine rg (A := ((0 : Int) ≤ i_15) ∧ (i_15.toNat < (List.map c108 l_16).length) ∧ ((2 : Nat) = 2) ∧ (E.rowAt { ver := 0, ty := 108, k := BK.row (2) (List.map c108 l_16) : Blk } i_15.toNat (c108 l_16[i_15.toNat]!)) ∧ (0 + (2 : Nat) ≤ (c108 l_16[i_15.toNat]!).length)) cx [(1, { row := (c108 l_16[i_15.toNat]!) })] [10, 39, 40, 41, 12] [1003, 1010, 12] ⟨(by (with_reducible assumption)), ?g12, (by kernel_rfl), ?g13, ?g14⟩ ?_; rotate_left 3
  refine sn ?_
  refine rg (A := _) cx [(2, { val := some (.vw (0) (0) (0) (0)), rows := some (List.map c108 (addR out_17 l_16[i_15.toNat]!)) })] [10, 39, 40, 41] [1003, 1010] (con138 (out_17) (l_16[i_15.toNat]!) (by (with_reducible assumption)) ?g15) ?_; rotate_left 1
  refine q_blk_normal ?_
  refine sn ?_
  refine rg (A := (AV.i IntKind.i64 (IntKind.i64.wrap (i_15 + (1 : Int))) = AV.i IntKind.i64 (i_15 + (1 : Int)))) cx [(0, { tell := some (.i .i64 (i_15 + (1 : Int))) })] [10, 39, 40, 41] [1003, 1010] (told_i64 (by omega) ?g16) ?_; rotate_left 1
  refine sn ?_
  refine loop_next ((i_15 + (1 : Int), l_16, addR out_17 l_16[i_15.toNat]!)) (by kernel_rfl) (show ((↑(pdqR all_1).length : Int) - (i_15 + (1 : Int))).toNat < ((↑(pdqR all_1).length : Int) - i_15).toNat from (by omega)) (show inv133c (pdqR all_1) (i_15 + (1 : Int)) l_16 (addR out_17 l_16[i_15.toNat]!) from ?g17); rotate_left 1
  refine st_exit 4 (by kernel_rfl) ?_
  refine q_seq_exit ?_
  refine q_seq_exit ?_
  refine q_blk_hit ?_
  refine sn ?_
  refine sq ?_
  refine rg (A := True) cx [] [2] [1010] trivial ?_
  refine sn ?_
  refine st_ret (by kernel_rfl) ?_
  refine qb_own (rows' := (List.map c108 out_17)) .ret (.inr rfl) 2 1010 0 (by kernel_rfl) (by kernel_rfl) (by kernel_rfl) ?g18; rotate_left 1
  rotate_left
  revert i_0 all_1 h_3 h_4 h_5 h_6; rotate_left
  revert i_0 all_1 h_3 h_4 h_5 h_6 j_7 all_8 h_10 h_11 h_12 h_13 h_14; rotate_left
  revert i_0 all_1 h_3 h_4 h_5 h_6 j_7 all_8 h_10 h_11 h_12 h_13 h_14; rotate_left
  revert i_0 all_1 h_3 h_4 h_5 h_6 j_7 all_8 h_10 h_11 h_12 h_13 h_14; rotate_left
  revert i_0 all_1 h_3 h_4 h_5 h_6 j_7 all_8 h_10 h_11 h_12 h_13 h_14; rotate_left
  revert i_0 all_1 h_3 h_4 h_5 h_6 j_7 all_8 h_10 h_11 h_12 h_13 h_14; rotate_left
  revert i_0 all_1 h_3 h_4 h_5 h_6 j_7 all_8 h_10 h_11 h_12 h_13 h_14; rotate_left
  revert i_0 all_1 h_3 h_4 h_5 h_6 j_7 all_8 h_10 h_11 h_12 h_13; rotate_left
  revert i_0 all_1 h_3 h_4 h_5 h_6; rotate_left
  revert i_0 all_1 h_3 h_4 h_5 h_6; rotate_left
  revert i_0 all_1 h_3 h_4 h_5 h_6; rotate_left
  revert i_0 all_1 h_3 h_4 h_5 h_6 i_15 l_16 out_17 h_19 h_20 h_21 h_22 h_23 h_24 h_25; rotate_left
  revert i_0 all_1 h_3 h_4 h_5 h_6 i_15 l_16 out_17 h_19 h_20 h_21 h_22 h_23 h_24 h_25; rotate_left
  revert i_0 all_1 h_3 h_4 h_5 h_6 i_15 l_16 out_17 h_19 h_20 h_21 h_22 h_23 h_24 h_25; rotate_left
  revert i_0 all_1 h_3 h_4 h_5 h_6 i_15 l_16 out_17 h_19 h_20 h_21 h_22 h_23 h_24 h_25; rotate_left
  revert i_0 all_1 h_3 h_4 h_5 h_6 i_15 l_16 out_17 h_19 h_20 h_21 h_22 h_23 h_24 h_25; rotate_left
  revert i_0 all_1 h_3 h_4 h_5 h_6 i_15 l_16 out_17 h_19 h_20 h_21 h_22 h_23 h_24 h_25; rotate_left
  revert i_0 all_1 h_3 h_4 h_5 h_6 i_15 l_16 out_17 h_19 h_20 h_21 h_22 h_23 h_24 h_25; rotate_left
  case g0 => exact ⟨by omega, by omega, rfl⟩
  case g1 => intro i a h0 h1 h2 h3; exact ⟨by omega, by omega, kept_start h2⟩
  case g2 => intro i a h0 h1 h2 h3 j b k0 k1 k2 k3 k4; have := kept2_room hb h0 h3 k0 k3 k2; simp only [List.length_map, List.length_cons, List.length_nil, Go.maxLen]; omega
  case g3 => intro i a h0 h1 h2 h3 j b k0 k1 k2 k3 k4; have := kept2_room hb h0 h3 k0 k3 k2; simp only [List.length_map, List.length_cons, List.length_nil]; omega
  case g4 => intro i a h0 h1 h2 h3 j b k0 k1 k2 k3 k4; exact (kept2_room hb h0 h3 k0 k3 k2).2
  case g5 => intro i a h0 h1 h2 h3 j b k0 k1 k2 k3 k4; have := kept2_next k0 k3 k2; rw [if_pos k4] at this; exact ⟨by omega, by omega, this⟩
  case g6 => intro i a h0 h1 h2 h3 j b k0 k1 k2 k3 k4; exact (kept2_room hb h0 h3 k0 k3 k2).2
  case g7 => intro i a h0 h1 h2 h3 j b k0 k1 k2 k3 k4; have := kept2_next k0 k3 k2; rw [if_neg k4] at this; exact ⟨by omega, by omega, this⟩
  case g8 => intro i a h0 h1 h2 h3 j b k0 k1 k2 k3; exact ⟨by omega, by omega, kept_next h0 h3 k3 k2⟩
  case g9 => intro i a h0 h1 h2 h3 r hr; rw [kept_end h3 h2] at hr; exact (keep_good r hr).1
  case g10 => intro i a h0 h1 h2 h3; rw [kept_end h3 h2]; have := keepR_len ss.flatten; omega
  case g11 => intro i a h0 h1 h2 h3; exact ⟨rfl, by omega, by omega, by simp, fun x hx => by simp at hx, rfl⟩
  case g12 => intro i a h0 h1 h2 h3 j l o k0 k1 k2 k3 k4 k5 k6; subst k0; simp only [List.length_map]; omega
  case g13 => intro i a h0 h1 h2 h3 j l o k0 k1 k2 k3 k4 k5 k6; subst k0; exact get_map (by omega)
  case g14 => intros; exact Nat.le_of_ble_eq_true rfl
  case g15 =>
    intro i a h0 h1 h2 h3 j l o k0 k1 k2 k3 k4 k5 k6
    subst k0
    have e := kept_end h3 h2
    have hg : ∀ r ∈ a, okR r := fun r hr => by rw [e] at hr; exact (keep_good r hr).1
    have := (pdqR_perm hg).length_eq
    have h5 := keepR_len ss.flatten
    rw [← e] at h5
    omega
  case g16 =>
    intro i a h0 h1 h2 h3 j l o k0 k1 k2 k3 k4 k5 k6
    subst k0
    have e := kept_end h3 h2
    have hg : ∀ r ∈ a, okR r := fun r hr => by rw [e] at hr; exact (keep_good r hr).1
    have := (pdqR_perm hg).length_eq
    have h5 := keepR_len ss.flatten
    rw [← e] at h5
    omega
  case g17 =>
    intro i a h0 h1 h2 h3 j l o k0 k1 k2 k3 k4 k5 k6
    subst k0
    have e := kept_end h3 h2
    have hg : ∀ r ∈ a, good1 r := fun r hr => by rw [e] at hr; exact keep_good r hr
    have hr := sorted_good hg _ (bang_in (l := pdqR a) (i := j.toNat) (by omega))
    have hlo := addR_len o (pdqR a)[j.toNat]!
    unfold good1 okR at hr
    exact ⟨rfl, by omega, by omega, by omega, addR_hi k4 (by omega), fold_next k1 k6 k5⟩
  case g18 =>
    intro i a h0 h1 h2 h3 j l o k0 k1 k2 k3 k4 k5 k6
    subst k0
    unfold isFold at k5
    rw [k5, kept_end h3 h2, List.take_of_length_le (by rw [← kept_end h3 h2]; omega)]
    rfl
end Go.Proofs.Ytjngmlkaijpbgaa
namespace Go.E
open Go Go.Proofs Go.Shelf Go.RowKit Go.Lib
variable {P : Program} {ρ : Ren}
set_option maxHeartbeats 2000000 in
set_option maxRecDepth 100000 in
theorem clone_some (L : SlLaysE0.n41 P ρ) (i0 : TypeInfo) (z : Value) (size bytes : Nat) (hi : P.info? (ρ.t 23) = some i0) (hz0 : i0.zero = some z) (hz1 : i0.size = size) (hz2 : i0.bytes = bytes) (hzs : z.cells.size = size) (hsz : 0 < size) (z23 : ∀ w, (Go.sizeOf (ρ.t 23)).run P w = .ok size w)
    (ad : Addr) (n c : Nat) (news : List Value) (w : World) (hl : news.length = n * size) (hn : n ≤ maxLen) (hbig : n * bytes ≤ 140737488355328)
    (hc : ∀ j u, news[j]? = some u → w.cell? (ad.add j) = some u) (h1 : ∀ u ∈ news, u.oneCell' = true) :
    Calls P (ρ.f 41) #[.slice (some ad) n c] w fun e w' => ∃ v', e = .returned v' ∧ w'.ownsRow w.heap.size (ρ.t 23) size v' n news ∧ Below w.heap.size w w' := by
  have mixed := L.mixed; have t4 := L.t4; have a4 := L.a4; have z4 := L.z4; have v4 := L.v4; have t22 := L.t22; have a22 := L.a22; have z22 := L.z22; have v22 := L.v22
  have q22 : ∀ (w : World) (a : Option Addr) (n c n' c' : Nat), (binOp .eql (ρ.t 22) (.slice a n c) (.slice none n' c')).run P w = .ok (.bool a.isNone) w := fun w a n c n' c' => Lib.run_eql_slice_nil w _ _ a n c n' c' L.t22
  have u22 : ∀ w, Sem.run P (underlying (ρ.t 22)) w = .ok (TypeDesc.slice (ρ.t 23)) w := run_underlying t22
  have A : Aside (∀ j u, news[j]? = some u → w.cell? (ad.add j) = some u) := hc
  clear hc
  obtain ⟨_, _, FG⟩ := L.f41
  go_enter FG, SlBodyN.n41_ntmps ρ
  go_wp2_with (at_builtin; refine wpList_append_own _ rfl _ _ (ρ.t 22) rfl w.heap.size (ρ.t 23) i0 z size bytes t22 hi hz0 hz1 hz2 hzs hsz _ _ _ rfl (World.ownsRow_made w #[] 0 (Nat.le_refl _) (Nat.zero_le _) (by simp)) ad n c news rfl ?qc1 ?qc2 ?qc3 ?qc4 ?qc5 ?qc6 ?_)
  case qc1 => exact hl
  case qc2 =>
    intro j u hj
    exact Lib.cell?_alloc_some _ (A.out j u hj)
  case qc3 => exact h1
  case qc4 => rw [Nat.zero_add]; exact hn
  case qc5 => rw [Nat.zero_add]; exact hbig
  case qc6 => simp
  intro v' w1 hown hgrow hnil
  go_wp2
  go_ret
  refine ⟨v', rfl, by simpa using hown, ?_⟩
  exact ((Below.refl _ w).alloc (Nat.le_refl _) _).grown hgrow (by simp) (by intro k hk; simp [Value.ownBlock] at hk; omega)
set_option maxHeartbeats 1000000 in
theorem clone_none (L : SlLaysE0.n41 P ρ) (n c : Nat) (w : World) :
    Calls P (ρ.f 41) #[.slice none n c] w fun e w' => e = .returned (.slice none 0 0) ∧ w' = w := by
  have mixed := L.mixed; have t4 := L.t4; have a4 := L.a4; have z4 := L.z4; have v4 := L.v4; have t22 := L.t22; have a22 := L.a22; have z22 := L.z22; have v22 := L.v22
  have q22 : ∀ (w : World) (a : Option Addr) (n c n' c' : Nat), (binOp .eql (ρ.t 22) (.slice a n c) (.slice none n' c')).run P w = .ok (.bool a.isNone) w := fun w a n c n' c' => Lib.run_eql_slice_nil w _ _ a n c n' c' L.t22
  obtain ⟨_, _, FG⟩ := L.f41
  go_enter FG, SlBodyN.n41_ntmps ρ
  go_wp2
  go_ret
  exact ⟨rfl, rfl⟩
/-- slices.Clone: a row of the caller's own, of the same elements. -/
theorem conB_clone (L : SlLaysE0.n41 P ρ) {T : Tab} (hT : TabOk P T) {te : TI} (hte : look T (ρ.t 23) = some te) (hcl : Callable P (ρ.f 41)) (hz : te.zero.length = te.size) (h0 : 0 < te.size) {rows : List (List AV)} (hsz : ∀ r ∈ rows, r.length = te.size)
    (hbig : rows.length * te.bytes ≤ 140737488355328) : ConB P (ρ.f 41) [.sl rows] (ρ.t 23) (.row te.size rows) := by
  refine ⟨hcl, fun w S0 vs hS hl hv => ?_⟩
  obtain ⟨v, rfl⟩ : ∃ v, vs = [v] := by
    match vs, hl with
    | [v], _ => exact ⟨v, rfl⟩
  have hr := hv 0 _ v rfl rfl
  have hm : rows.length ≤ maxLen := by cases hr with | sl _ A cap sz u hc hm => exact hm
  obtain ⟨i, zv, i1, i2, i3, i4, i5⟩ := inf hT hte
  rcases (shows_sl hr).flat hsz with ⟨rfl, rfl⟩ | ⟨ad, cap, xs, rfl, x1, x2, x3, x4⟩
  · refine (clone_none L 0 0 w).mono ?_
    rintro e w' ⟨rfl, rfl⟩
    exact ⟨_, rfl, ⟨fun r hr => by simp at hr, [], World.ownsRow_nil _ _ _ _, fun u hu => by simp at hu, fun j b u hb => by simp at hb⟩, Below.refl _ _⟩
  · have hzl : zv.cells.size = te.size := by
      have := congrArg List.length i5
      simpa [hz] using this
    refine (clone_some L i zv te.size te.bytes i1 i4 i2 i3 hzl h0 (szOf hT hte) ad rows.length cap xs w x1 hm hbig x2 x3).mono ?_
    rintro e w' ⟨v', rfl, ho, hb⟩
    refine ⟨v', rfl, ⟨hsz, xs, ho, x3, fun j b u hb' hu => (x4 j b u hb' hu).mono (fun k hk => ⟨.inl hk, fun e => ?_⟩) (fun k hk => hb.block k (hS k hk))⟩, hb⟩
    have := hS k hk
    rcases ho.2 with ⟨rfl, _⟩ | ⟨g, cap', cur, rfl, g1, _⟩
    · simp [blkOf] at e
    · simp [blkOf] at e; omega
end Go.E
namespace Go.Proofs.Ytjngmlkaijpbgaa
open Go.E
set_option maxRecDepth 100000
set_option maxHeartbeats 4000000
open Go Go.Shelf Go.Proofs
def renClR : Go.Shelf.Ren := ⟨fun | 41 => 129 | n => n, fun | 4 => 4 | 22 => 104 | 23 => 108 | n => n, fun n => n⟩
theorem laysClR : Go.Proofs.SlLaysE0.n41 Try.prog renClR := { mixed := by kernel_rfl, f41 := ⟨Try.f129.name, by decide, Try.func129.trans (congrArg some (by kernel_rfl))⟩, t4 := Try.underlying4, a4 := Try.isAgg4, z4 := Try.sizeOf4, v4 := Try.zeroValue4, t22 := Try.underlying104, a22 := Try.isAgg104, z22 := Try.sizeOf104, v22 := Try.zeroValue104 }
theorem con129 (es : List Run) (hl : es.length * 16 ≤ 140737488355328) : ConB Try.prog 129 [.sl (es.map c108)] 108 (.row 2 (es.map c108)) :=
  conB_clone (T := tab) laysClR tab_ok (te := _) rfl ⟨_, Try.func129, by kernel_rfl, by kernel_rfl⟩ (by kernel_rfl) (by decide +kernel) (fun r hr => by obtain ⟨x, _, rfl⟩ := List.mem_map.1 hr; kernel_rfl) (by rw [List.length_map]; exact hl)
def renClI : Go.Shelf.Ren := ⟨fun | 41 => 114 | n => n, fun | 4 => 4 | 22 => 33 | 23 => 3 | n => n, fun n => n⟩
theorem laysClI : Go.Proofs.SlLaysE0.n41 Try.prog renClI := { mixed := by kernel_rfl, f41 := ⟨Try.f114.name, by decide, Try.func114.trans (congrArg some (by kernel_rfl))⟩, t4 := Try.underlying4, a4 := Try.isAgg4, z4 := Try.sizeOf4, v4 := Try.zeroValue4, t22 := Try.underlying33, a22 := Try.isAgg33, z22 := Try.sizeOf33, v22 := Try.zeroValue33 }
theorem con114 (es : List Int) (hl : es.length * 8 ≤ 140737488355328) : ConB Try.prog 114 [.sl (es.map c3)] 3 (.row 1 (es.map c3)) :=
  conB_clone (T := tab) laysClI tab_ok (te := _) rfl ⟨_, Try.func114, by kernel_rfl, by kernel_rfl⟩ (by kernel_rfl) (by decide +kernel) (fun r hr => by obtain ⟨x, _, rfl⟩ := List.mem_map.1 hr; kernel_rfl) (by rw [List.length_map]; exact hl)
def nrm (a : List Run) : List Run := unR [a]
def leadR (n : List Run) : Int × List Run := if n.length = 0 ∨ ¬ n[0]!.lo = 1 then (0, n) else (n[0]!.hi, n.drop 1)
theorem foldR_len (l : List Run) : (foldR l).length ≤ l.length := by
  have : ∀ (l out : List Run), (l.foldl addR out).length ≤ out.length + l.length := by
    intro l
    induction l with
    | nil => intro out; simp
    | cons r l ih =>
      intro out
      have h1 := ih (addR out r)
      have h2 := addR_len out r
      simp only [List.foldl_cons, List.length_cons]
      omega
  have h := this l []
  simpa [foldR] using h
theorem rng_nrm (a : List Run) : (nrm a).length ≤ a.length := by
  have h1 := foldR_len (pdqR (keepR [a].flatten))
  have h2 := (pdqR_perm (l := keepR [a].flatten) fun r hr => (keep_good r hr).1).length_eq
  have h3 := keepR_len [a].flatten
  unfold nrm unR
  simp only [List.flatten_cons, List.flatten_nil, List.append_nil] at *
  omega
theorem con128 (a : List Run) (hb : a.length * 16 ≤ 140737488351232) : Con Try.prog 128 [.sl (a.map c108)] (.sl ((nrm a).map c108)) :=
  by
  refine con_lens 0 (c108) (a) (by kernel_rfl) Go.Proofs.Try.func128 (by kernel_rfl) fun hl_0 => ?_
  refine st_con tab_ok (by kernel_rfl) [.tmp 2] 6 Go.Proofs.Try.func128 (by kernel_rfl) (by kernel_rfl) ?_
  intro e0 cx
  refine sq ?_
  refine rg (A := True) cx [] [0] [] trivial ?_
  refine sn ?_
  refine sq ?_
  refine rg (A := _) cx [(2, { val := some (.own (108 : Nat) (2 : Nat)), rows := some (List.map c108 (unR [a])) })] [2] [5] (con133 ([a]) ?g0) ?_; rotate_left 1
  refine sn ?_
  refine st_ret (by kernel_rfl) ?_
  refine q_ret (r := .sl (((E.look [(2, { val := some (AV.own (108 : Nat) (2 : Nat)), rows := some (List.map c108 (unR [a])) : Ov })] (2)).getD { : Ov }).rows.getD [])) (obl := []) (by kernel_rfl) trivial (AVle.eq (show AV.sl (((E.look [(2, { val := some (AV.own (108 : Nat) (2 : Nat)), rows := some (List.map c108 (unR [a])) : Ov })] (2)).getD { : Ov }).rows.getD []) = AV.sl (List.map c108 (nrm a)) from ?g1)); rotate_left 1
  case g0 => exact (by simpa using hb)
  case g1 => exact rfl
theorem con113 (a : List Run) (hb : a.length * 16 ≤ 140737488351232) : Con Try.prog 113 [.sl (a.map c108)] (.tup [.i .i64 (leadR (nrm a)).1, .sl ((leadR (nrm a)).2.map c108)]) :=
  by
  have hn := rng_nrm a
  refine con_lens 0 (c108) (a) (by kernel_rfl) Go.Proofs.Try.func113 (by kernel_rfl) fun hl_0 => ?_
  refine st_con tab_ok (by kernel_rfl) [.tmp 2, .tmp 3] 25 Go.Proofs.Try.func113 (by kernel_rfl) (by kernel_rfl) ?_
  intro e0 cx
  refine sq ?_
  refine rg (A := True) cx [] [0] [] trivial ?_
  refine sn ?_
  refine sq ?_
  have hl_0 := (rng_nrm a)
  refine rg (A := _) cx [(1, { val := some (.sl (List.map c108 (nrm a))) })] [4] [] (con128 (a) (by (with_reducible assumption))) ?_
  refine sn ?_
  refine sq ?_
  refine sq ?_
  refine st_join (σ' := ⟨[(4, .sl (List.map c108 (nrm a))), (16, .b (decide ((↑(nrm a).length : Int) = (0 : Int) ∨ ¬(nrm a)[(0 : Nat)]!.lo = (1 : Int))))], []⟩) ?_ ?_
  refine st_split ((↑(nrm a).length : Int) = (0 : Int)) (fun h_2 => ?_) (fun h_2 => ?_)
  refine rg (A := _ ∧ _ ∧ (AV.b true = AV.b (decide ((↑(nrm a).length : Int) = (0 : Int) ∨ ¬(nrm a)[(0 : Nat)]!.lo = (1 : Int))))) cx [(1, { tell := some (.i .i64 ((↑(nrm a).length : Int))) }), (2, { tell := some (.b (true)) }), (9, { tell := some (.b (decide ((↑(nrm a).length : Int) = (0 : Int) ∨ ¬(nrm a)[(0 : Nat)]!.lo = (1 : Int)))) })] [4, 16] [] ⟨(told_len c108 (nrm a)), (told_true h_2), (by simp only [eq_true h_2, told_simp1, told_simp2, and_true, true_and, and_false, false_and, or_true, true_or, or_false, false_or, not_true_eq_false, not_false_eq_true, decide_true, decide_false, Bool.decide_eq_true])⟩ ?_
  exact ⟨rfl, by kernel_rfl⟩
  refine rg (A := _ ∧ _ ∧ ((0 : Int) ≤ (0 : Int)) ∧ ((List.map c108 (nrm a))[Int.toNat (0 : Int)]? = some (c108 (nrm a)[(0 : Nat)]!)) ∧ ((c108 (nrm a)[(0 : Nat)]!).length = (2 : Nat)) ∧ (AV.b ((nrm a)[(0 : Nat)]!.lo != (1 : Int)) = AV.b (decide ¬(nrm a)[(0 : Nat)]!.lo = (1 : Int))) ∧ (AV.b (decide ¬(nrm a)[(0 : Nat)]!.lo = (1 : Int)) = AV.b (decide ((↑(nrm a).length : Int) = (0 : Int) ∨ ¬(nrm a)[(0 : Nat)]!.lo = (1 : Int))))) cx [(1, { tell := some (.i .i64 ((↑(nrm a).length : Int))) }), (2, { tell := some (.b (false)) }), (5, { row := (c108 (nrm a)[(0 : Nat)]!) }), (8, { tell := some (.b (decide ¬(nrm a)[(0 : Nat)]!.lo = (1 : Int))) }), (9, { tell := some (.b (decide ((↑(nrm a).length : Int) = (0 : Int) ∨ ¬(nrm a)[(0 : Nat)]!.lo = (1 : Int)))) })] [4, 16] [] ⟨(told_len c108 (nrm a)), (told_false h_2), (by omega), ?g0, (by kernel_rfl), (told_neq), (by simp only [eq_false h_2, told_simp1, told_simp2, and_true, true_and, and_false, false_and, or_true, true_or, or_false, false_or, not_true_eq_false, not_false_eq_true, decide_true, decide_false, Bool.decide_eq_true])⟩ ?_; rotate_left 1
  exact ⟨rfl, by kernel_rfl⟩
  refine sn ?_
  refine st_dec ((↑(nrm a).length : Int) = (0 : Int) ∨ ¬(nrm a)[(0 : Nat)]!.lo = (1 : Int)) (by kernel_rfl) (by kernel_rfl) (fun h_3 => ?_) (fun h_3 => ?_)
  refine sq ?_
  refine rg (A := True) cx [] [2, 3] [] trivial ?_
  refine sn ?_
  refine st_ret (by kernel_rfl) ?_
  refine q_seq_ret ?_
  refine q_ret (r := .tup [.i .i64 ((0 : Int)), .sl (List.map c108 (nrm a))]) (obl := []) (by kernel_rfl) trivial (AVle.tup (ZLe.cons (AVle.eq (show AV.i IntKind.i64 (0 : Int) = AV.i IntKind.i64 (leadR (nrm a)).fst from ?g2)) (ZLe.cons (AVle.eq (show AV.sl (List.map c108 (nrm a)) = AV.sl (List.map c108 (leadR (nrm a)).snd) from ?g1)) ZLe.nil))); rotate_left 2
  refine st_skip (by kernel_rfl) ?_
  refine sn ?_
  refine sq ?_
  refine ra (A := ((0 : Int) ≤ (0 : Int)) ∧ ((List.map c108 (nrm a))[Int.toNat (0 : Int)]? = some (c108 (nrm a)[(0 : Nat)]!)) ∧ ((c108 (nrm a)[(0 : Nat)]!).length = (2 : Nat)) ∧ (AV.sl (List.drop (Int.toNat (1 : Int)) (List.take (none.getD (↑(List.map c108 (nrm a)).length : Int)).toNat (List.map c108 (nrm a)))) = AV.sl (List.map c108 (List.drop (Int.toNat (1 : Int)) (nrm a)))) ∧ ((0 : Int) ≤ (1 : Int)) ∧ ((1 : Int) ≤ none.getD (↑(List.map c108 (nrm a)).length : Int)) ∧ (none.getD (↑(List.map c108 (nrm a)).length : Int) ≤ (↑(List.map c108 (nrm a)).length : Int)) ∧ (∀ (r : List AV), r ∈ List.map c108 (nrm a) → r.length = (2 : Nat)) ∧ _) cx [(1, { row := (c108 (nrm a)[(0 : Nat)]!) }), (5, { tell := some (.sl (List.map c108 (List.drop (Int.toNat (1 : Int)) (nrm a)))) }), (6, { val := some (.own (108 : Nat) (2 : Nat)), rows := some (List.map c108 (List.drop (Int.toNat (1 : Int)) (nrm a))) })] [2, 3] [24] ⟨(by omega), ?g3, (by kernel_rfl), (told_slN c108 (nrm a) (Int.toNat (1 : Int))), (by omega), ?g4, ?g5, (by (with_reducible refine len_map (fun _ => ?_) _; kernel_rfl)), (con129 (List.drop (Int.toNat (1 : Int)) (nrm a)) ?g6)⟩ ?_; rotate_left 4
  refine sn ?_
  refine st_ret (by kernel_rfl) ?_
  refine q_ret (r := .tup [.i .i64 ((nrm a)[(0 : Nat)]!.hi), .sl (((E.look [(6, { val := some (AV.own (108 : Nat) (2 : Nat)), rows := some (List.map c108 (List.drop (Int.toNat (1 : Int)) (nrm a))) : Ov })] (6)).getD { : Ov }).rows.getD [])]) (obl := []) (by kernel_rfl) trivial (AVle.tup (ZLe.cons (AVle.eq (show AV.i IntKind.i64 (nrm a)[(0 : Nat)]!.hi = AV.i IntKind.i64 (leadR (nrm a)).fst from ?g8)) (ZLe.cons (AVle.eq (show AV.sl (((E.look [(6, { val := some (AV.own (108 : Nat) (2 : Nat)), rows := some (List.map c108 (List.drop (Int.toNat (1 : Int)) (nrm a))) : Ov })] (6)).getD { : Ov }).rows.getD []) = AV.sl (List.map c108 (leadR (nrm a)).snd) from ?g7)) ZLe.nil))); rotate_left 2
  revert h_2; rotate_left
  revert h_3; rotate_left
  revert h_3; rotate_left
  revert h_3; rotate_left
  revert h_3; rotate_left
  revert h_3; rotate_left
  revert h_3; rotate_left
  revert h_3; rotate_left
  revert h_3; rotate_left
  case g0 => intro h; exact get_map (by omega)
  case g1 => intro h; unfold leadR; rw [if_pos (h.imp (fun k => by omega) id)]
  case g2 => intro h; unfold leadR; rw [if_pos (h.imp (fun k => by omega) id)]
  case g3 => intro h; exact get_map (by omega)
  case g4 => intro h; have : ¬ ((nrm a).length : Int) = 0 := fun k => h (.inl k); simp only [Option.getD_none, List.length_map]; omega
  case g5 => intro h; exact Int.le_refl _
  case g6 => intro h; rw [List.length_drop]; omega
  case g7 => intro h; show AV.sl (List.map c108 (List.drop 1 (nrm a))) = _; unfold leadR; rw [if_neg (fun k => h (k.imp (fun k => by omega) id))]
  case g8 => intro h; unfold leadR; rw [if_neg (fun k => h (k.imp (fun k => by omega) id))]
end Go.Proofs.Ytjngmlkaijpbgaa
namespace Go.Proofs.Ytjngmlkaijpbgaa
open Go.E
set_option maxRecDepth 100000
set_option maxHeartbeats 4000000
/-- Apart, rising, each run between 1 and 1000000000. -/
def sepR (l : List Run) : Prop := l.Pairwise (fun x y => x.hi + 1 < y.lo) ∧ ∀ r ∈ l, 1 ≤ r.lo ∧ r.lo ≤ r.hi ∧ r.hi ≤ 1000000000
def inR (l : List Run) (n : Int) : Prop := ∃ r ∈ l, r.lo ≤ n ∧ n ≤ r.hi
theorem snoc_of {α : Type} [Inhabited α] {l : List α} (h : 0 < (l.length : Int)) : ∃ p, l = p ++ [l[((l.length : Int) - 1).toNat]!] := by
  refine ⟨l.take (l.length - 1), ?_⟩
  have e : ((l.length : Int) - 1).toNat = l.length - 1 := by omega
  rw [e]
  have h1 := List.take_succ_eq_append_getElem (l := l) (i := l.length - 1) (by omega)
  rw [getElem!_pos l (l.length - 1) (by omega), ← h1, List.take_of_length_le (by omega)]
theorem addR_snoc (p : List Run) (x r : Run) : addR (p ++ [x]) r = if r.lo ≤ x.hi + 1 then p ++ [⟨x.lo, max x.hi r.hi⟩] else p ++ [x] ++ [r] := by
  have e : (((p ++ [x]).length : Int) - 1).toNat = p.length := by rw [List.length_append, List.length_singleton]; omega
  have hx : lastR (p ++ [x]) = x := by unfold lastR; rw [e]; simp
  unfold addR
  rw [hx, e]
  by_cases h : r.lo ≤ x.hi + 1
  · rw [if_pos ⟨by rw [List.length_append, List.length_singleton]; omega, h⟩, if_pos h]
    simp
  · rw [if_neg (fun k => h k.2), if_neg h]
theorem addR_nil (r : Run) : addR [] r = [r] := by simp [addR]
theorem sepR_nil : sepR [] := ⟨List.Pairwise.nil, fun r hr => by cases hr⟩
theorem addR_sep {out : List Run} {r : Run} (h : sepR out) (hr : good1 r) : sepR (addR out r) := by
  unfold good1 okR at hr
  by_cases h0 : out = []
  · subst h0
    rw [addR_nil]
    exact ⟨by simp, fun x hx => by have : x = r := by simpa using hx
                                   subst this; omega⟩
  · obtain ⟨p, hp⟩ := snoc_of (l := out) (by have := List.length_pos_iff.2 h0; omega)
    generalize out[((out.length : Int) - 1).toNat]! = x at hp
    subst hp
    obtain ⟨h1, h2⟩ := h
    rw [List.pairwise_append] at h1
    obtain ⟨q1, _, q3⟩ := h1
    have hx := h2 x (by simp)
    rw [addR_snoc]
    split
    · refine ⟨List.pairwise_append.2 ⟨q1, by simp, fun a ha b hb => ?_⟩, fun a ha => ?_⟩
      · have : b = ⟨x.lo, max x.hi r.hi⟩ := by simpa using hb
        subst this
        exact q3 a ha x (by simp)
      · rcases List.mem_append.1 ha with ha | ha
        · exact h2 a (by simp [ha])
        · have : a = ⟨x.lo, max x.hi r.hi⟩ := by simpa using ha
          subst this
          simp only
          omega
    · rename_i hn
      refine ⟨List.pairwise_append.2 ⟨List.pairwise_append.2 ⟨q1, by simp, q3⟩, by simp, fun a ha b hb => ?_⟩, fun a ha => ?_⟩
      · have : b = r := by simpa using hb
        subst this
        rcases List.mem_append.1 ha with ha | ha
        · have := q3 a ha x (by simp); omega
        · have : a = x := by simpa using ha
          subst this
          omega
      · rcases List.mem_append.1 ha with ha | ha
        · exact h2 a ha
        · have : a = r := by simpa using ha
          subst this
          omega
/-- A set with one run more, if it begins no sooner than the last. -/
theorem addR_in {out : List Run} {r : Run} (hl : ∀ x ∈ out, x.lo ≤ r.lo) (hs : sepR out) (n : Int) : inR (addR out r) n ↔ inR out n ∨ (r.lo ≤ n ∧ n ≤ r.hi) := by
  by_cases h0 : out = []
  · subst h0
    rw [addR_nil]
    simp [inR]
  · obtain ⟨p, hp⟩ := snoc_of (l := out) (by have := List.length_pos_iff.2 h0; omega)
    generalize out[((out.length : Int) - 1).toNat]! = x at hp
    subst hp
    have hx := hs.2 x (by simp)
    have hlx := hl x (by simp)
    rw [addR_snoc]
    have app : ∀ (a b : List Run), inR (a ++ b) n ↔ inR a n ∨ inR b n := by
      intro a b
      unfold inR
      constructor
      · rintro ⟨y, hy, h⟩
        rcases List.mem_append.1 hy with hy | hy
        · exact .inl ⟨y, hy, h⟩
        · exact .inr ⟨y, hy, h⟩
      · rintro (⟨y, hy, h⟩ | ⟨y, hy, h⟩)
        · exact ⟨y, List.mem_append.2 (.inl hy), h⟩
        · exact ⟨y, List.mem_append.2 (.inr hy), h⟩
    have one : ∀ y : Run, inR [y] n ↔ (y.lo ≤ n ∧ n ≤ y.hi) := by intro y; simp [inR]
    split
    · rw [app, app, one, one, or_assoc]
      refine or_congr_right ?_
      simp only
      omega
    · rw [app, one]
theorem fold_props (l : List Run) : ∀ (out : List Run), sepR out → (∀ r ∈ l, good1 r) → l.Pairwise (fun x y => x.lo ≤ y.lo) → (∀ x ∈ out, ∀ r ∈ l, x.lo ≤ r.lo) →
    sepR (l.foldl addR out) ∧ ∀ n, inR (l.foldl addR out) n ↔ inR out n ∨ inR l n := by
  induction l with
  | nil => intro out h _ _ _; exact ⟨h, fun n => by simp [inR]⟩
  | cons r l ih =>
    intro out h hg hp hl
    rw [List.pairwise_cons] at hp
    have hlo : ∀ x ∈ addR out r, ∀ y ∈ l, x.lo ≤ y.lo := by
      intro x hx y hy
      have hy1 := hp.1 y hy
      unfold addR at hx
      split at hx
      · rename_i hc
        rcases List.mem_or_eq_of_mem_set hx with hx | rfl
        · have := hl x hx r (by simp); omega
        · have := hl _ (bang_in (l := out) (i := ((out.length : Int) - 1).toNat) (by omega)) r (by simp)
          unfold lastR
          simp only
          omega
      · rcases List.mem_append.1 hx with hx | hx
        · have := hl x hx r (by simp); omega
        · have : x = r := by simpa using hx
          subst this
          exact hy1
    obtain ⟨g1, g2⟩ := ih (addR out r) (addR_sep h (hg r (by simp))) (fun y hy => hg y (by simp [hy])) hp.2 hlo
    refine ⟨g1, fun n => ?_⟩
    rw [List.foldl_cons, g2 n, addR_in (fun x hx => hl x hx r (by simp)) h n, or_assoc]
    refine or_congr_right ?_
    simp [inR]
/-- What Union answers: apart, rising; and just the numbers between 1 and 1000000000 that are in one of the sets. -/
theorem unR_sep (ss : List (List Run)) : sepR (unR ss) := by
  have hg : ∀ r ∈ keepR ss.flatten, good1 r := keep_good
  exact (fold_props _ [] sepR_nil (sorted_good hg) (pdqR_rises _) (fun x hx => by cases hx)).1
theorem unR_in (ss : List (List Run)) (n : Int) : inR (unR ss) n ↔ 1 ≤ n ∧ n ≤ 1000000000 ∧ inR ss.flatten n := by
  have hg : ∀ r ∈ keepR ss.flatten, good1 r := keep_good
  have h := (fold_props _ [] sepR_nil (sorted_good hg) (pdqR_rises _) (fun x hx => by cases hx)).2 n
  unfold unR foldR
  rw [h]
  have hp := pdqR_perm (l := keepR ss.flatten) fun r hr => (hg r hr).1
  constructor
  · rintro (⟨r, hr, _⟩ | ⟨r, hr, h1, h2⟩)
    · cases hr
    · have hr := hp.subset hr
      unfold keepR at hr
      obtain ⟨hr, _⟩ := List.mem_filter.1 hr
      obtain ⟨x, hx, rfl⟩ := List.mem_map.1 hr
      simp only [clipR] at h1 h2
      exact ⟨by omega, by omega, x, hx, by omega, by omega⟩
  · rintro ⟨h1, h2, x, hx, h3, h4⟩
    refine .inr ⟨clipR x, hp.symm.subset ?_, ?_, ?_⟩
    · unfold keepR
      refine List.mem_filter.2 ⟨List.mem_map.2 ⟨x, hx, rfl⟩, ?_⟩
      show decide ((clipR x).lo ≤ (clipR x).hi) = true
      rw [decide_eq_true_iff]
      show max x.lo 1 ≤ min x.hi 1000000000
      omega
    · simp only [clipR]; omega
    · simp only [clipR]; omega
/-- No more than half as many runs as numbers. -/
theorem sepR_lo {l : List Run} (h : sepR l) : ∀ i : Nat, i < l.length → 2 * (i : Int) + 1 ≤ l[i]!.lo
  | 0, hi => by have := h.2 _ (bang_in hi); omega
  | i + 1, hi => by
    have h1 := sepR_lo h i (by omega)
    have h2 := List.pairwise_iff_getElem.1 h.1 i (i + 1) (by omega) hi (by omega)
    rw [← getElem!_pos l i (by omega), ← getElem!_pos l (i + 1) hi] at h2
    have h3 := h.2 _ (bang_in (l := l) (i := i) (by omega))
    omega
theorem sepR_len {l : List Run} (h : sepR l) : l.length ≤ 500000000 := by
  by_cases h0 : l.length = 0
  · omega
  · have h1 := sepR_lo h (l.length - 1) (by omega)
    have h2 := h.2 _ (bang_in (l := l) (i := l.length - 1) (by omega))
    omega
theorem nrm_sep (a : List Run) : sepR (nrm a) := unR_sep [a]
theorem nrm_in (a : List Run) (n : Int) : inR (nrm a) n ↔ 1 ≤ n ∧ n ≤ 1000000000 ∧ inR a n := by
  have := unR_in [a] n
  simpa [nrm] using this
/-- Two lists that are apart, with the same numbers, are one. -/
theorem sep_unique : ∀ {a b : List Run}, sepR a → sepR b → (∀ n, inR a n ↔ inR b n) → a = b
  | [], [], _, _, _ => rfl
  | [], y :: b, _, hb, h => by
    have := hb.2 y (by simp)
    obtain ⟨r, hr, _⟩ := (h y.lo).2 ⟨y, by simp, by omega, by omega⟩
    cases hr
  | x :: a, [], ha, _, h => by
    have := ha.2 x (by simp)
    obtain ⟨r, hr, _⟩ := (h x.lo).1 ⟨x, by simp, by omega, by omega⟩
    cases hr
  | x :: a, y :: b, ha, hb, h => by
    have hx := ha.2 x (by simp)
    have hy := hb.2 y (by simp)
    have pa := List.pairwise_cons.1 ha.1
    have pb := List.pairwise_cons.1 hb.1
    have la : ∀ n, inR a n → x.hi + 1 < n := fun n ⟨r, hr, h1, _⟩ => by have := pa.1 r hr; omega
    have lb : ∀ n, inR b n → y.hi + 1 < n := fun n ⟨r, hr, h1, _⟩ => by have := pb.1 r hr; omega
    have ca : ∀ n, inR (x :: a) n ↔ (x.lo ≤ n ∧ n ≤ x.hi) ∨ inR a n := fun n => by simp [inR]
    have cb : ∀ n, inR (y :: b) n ↔ (y.lo ≤ n ∧ n ≤ y.hi) ∨ inR b n := fun n => by simp [inR]
    have e1 : x.lo = y.lo := by
      have h1 := (cb x.lo).1 ((h x.lo).1 ((ca x.lo).2 (.inl (by omega))))
      have h2 := (ca y.lo).1 ((h y.lo).2 ((cb y.lo).2 (.inl (by omega))))
      rcases h1 with h1 | h1
      · rcases h2 with h2 | h2
        · omega
        · have := la _ h2; omega
      · have := lb _ h1
        rcases h2 with h2 | h2
        · omega
        · have := la _ h2; omega
    have e2 : x.hi = y.hi := by
      have h1 := (cb x.hi).1 ((h x.hi).1 ((ca x.hi).2 (.inl (by omega))))
      have h2 := (ca y.hi).1 ((h y.hi).2 ((cb y.hi).2 (.inl (by omega))))
      have h3 : ¬ x.hi < y.hi := fun k => by
        have := (ca (x.hi + 1)).1 ((h (x.hi + 1)).2 ((cb (x.hi + 1)).2 (.inl (by omega))))
        rcases this with g | g
        · omega
        · have := la _ g; omega
      have h4 : ¬ y.hi < x.hi := fun k => by
        have := (cb (y.hi + 1)).1 ((h (y.hi + 1)).1 ((ca (y.hi + 1)).2 (.inl (by omega))))
        rcases this with g | g
        · omega
        · have := lb _ g; omega
      omega
    have e : x = y := by cases x; cases y; simp only at e1 e2; rw [e1, e2]
    subst e
    rw [sep_unique (a := a) (b := b) ⟨pa.2, fun r hr => ha.2 r (by simp [hr])⟩ ⟨pb.2, fun r hr => hb.2 r (by simp [hr])⟩ fun n => ?_]
    have := h n
    rw [ca, cb] at this
    constructor
    · intro g
      have g1 := la n g
      rcases this.1 (.inr g) with k | k
      · omega
      · exact k
    · intro g
      have g1 := lb n g
      rcases this.2 (.inr g) with k | k
      · omega
      · exact k
end Go.Proofs.Ytjngmlkaijpbgaa
