/- Ga: goods: is a text a SKU. Conditions: none. -/
import Derived.Test.YtjngmlkaijpbgaaBa
set_option linter.unusedVariables false
set_option linter.unusedSimpArgs false
namespace Go.Proofs.Ytjngmlkaijpbgaa
open Go.E
set_option maxRecDepth 100000
set_option maxHeartbeats 4000000
def isLet (c : Int) : Bool := decide (65 ≤ c ∧ c ≤ 90)
def isDig (c : Int) : Bool := decide (48 ≤ c ∧ c ≤ 57)
def isMrk (c : Int) : Bool := decide (c = 45 ∨ c = 46)
def standsB (s : ByteArray) (i : Nat) : Bool := isLet (byt s i) || isDig (byt s i) || (isMrk (byt s i) && decide (i ≠ 0 ∧ i + 1 ≠ s.size) && !isMrk (byt s (i - 1)))
def allUp (p : Nat → Bool) : Nat → Bool
  | 0 => true
  | n + 1 => allUp p n && p n
theorem allUp_iff (p : Nat → Bool) : ∀ n, allUp p n = true ↔ ∀ i, i < n → p i = true
  | 0 => by simp [allUp]
  | n + 1 => by
    rw [allUp, Bool.and_eq_true, allUp_iff p n]
    constructor
    · rintro ⟨h1, h2⟩ i hi
      by_cases e : i = n
      · rw [e]; exact h2
      · exact h1 i (by omega)
    · intro h; exact ⟨fun i hi => h i (by omega), h n (by omega)⟩
def chkE (s : ByteArray) : Int := if s.size = 0 then 20 else if 24 < s.size then 21 else if allUp (standsB s) s.size = true then 0 else 22
def good (s : ByteArray) : Bool := decide (chkE s = 0)
def invG (s : ByteArray) (i : Int) : Prop := 0 ≤ i ∧ i ≤ s.size ∧ ∀ j : Nat, (j : Int) < i → standsB s j = true
def decG (s : ByteArray) (i : Int) : Nat := (s.size - i).toNat
theorem chkE_bad {s : ByteArray} (h0 : ¬ s.size = 0) (h1 : ¬ 24 < s.size) {i : Nat} (hi : i < s.size) (h : standsB s i = false) : chkE s = 22 := by
  unfold chkE
  rw [if_neg h0, if_neg h1, if_neg]
  intro k
  have := (allUp_iff _ _).1 k i hi
  rw [h] at this; cases this
theorem chkE_ok {s : ByteArray} (h0 : ¬ s.size = 0) (h1 : ¬ 24 < s.size) (h : ∀ j : Nat, j < s.size → standsB s j = true) : chkE s = 0 := by
  unfold chkE
  rw [if_neg h0, if_neg h1, if_pos ((allUp_iff _ _).2 h)]
theorem size_zero (s : ByteArray) : s.size = 0 ↔ s = ⟨#[]⟩ := by
  constructor
  · intro h; exact ByteArray.ext (Array.eq_empty_of_size_eq_zero h)
  · rintro rfl; rfl
theorem stands_iff (s : ByteArray) (i : Nat) : standsB s i = true ↔ isLet (byt s i) = true ∨ isDig (byt s i) = true ∨ (isMrk (byt s i) = true ∧ i ≠ 0 ∧ i + 1 ≠ s.size ∧ ¬ isMrk (byt s (i - 1)) = true) := by
  unfold standsB
  cases isLet (byt s i) <;> cases isDig (byt s i) <;> cases isMrk (byt s i) <;> cases isMrk (byt s (i - 1)) <;> simp
theorem invG_step {s : ByteArray} {i : Int} (h0 : 0 ≤ i) (h1 : i < s.size) (h2 : ∀ j : Nat, (j : Int) < i → standsB s j = true) (h : standsB s i.toNat = true) : invG s (i + 1) :=
  ⟨by omega, by omega, fun j hj => by
    by_cases e : j = i.toNat
    · rw [e]; exact h
    · exact h2 j (by omega)⟩
theorem not_stands {s : ByteArray} {i : Nat} (h : ¬ standsB s i = true) : standsB s i = false := by simpa using h
theorem walk89 (c : Int)
    (g0 : AV.b (decide ((65 : Int) ≤ c ∧ c ≤ (90 : Int))) = AV.b (isLet c)) :
    Con Try.prog (89 : FuncId) [AV.i IntKind.u8 c] (AV.b (isLet c)) := by
  refine st_con tab_ok (by kernel_rfl) [.tmp 2] 9 Go.Proofs.Try.func89 (by kernel_rfl) (by kernel_rfl) ?_
  intro e0 cx
  refine st_seq (by kernel_rfl) ?_
  refine st_reg (A := True) (σ' := ⟨[(0, .i .u8 (c))], []⟩) cx [] [0] [] (by kernel_rfl) (by kernel_rfl) trivial ?_
  refine q_seq_normal ?_
  refine st_seq (by kernel_rfl) ?_
  refine st_join (σ' := ⟨[(2, .b (decide ((65 : Int) ≤ c ∧ c ≤ (90 : Int))))], []⟩) ?_ ?_
  ·
    refine st_split ((65 : Int) ≤ c) (fun h_1 => ?_) (fun h_1 => ?_)
    ·
      refine st_reg (A := (AV.b (decide ((65 : Int) ≤ c)) = AV.b true) ∧ (AV.b (decide (c ≤ (90 : Int))) = AV.b (decide (c ≤ (90 : Int)))) ∧ (AV.b (decide (c ≤ (90 : Int))) = AV.b (decide ((65 : Int) ≤ c ∧ c ≤ (90 : Int))))) (σ' := ⟨[(2, .b (decide ((65 : Int) ≤ c ∧ c ≤ (90 : Int))))], []⟩) cx [(1, { tell := some (.b (true)) }), (4, { tell := some (.b (decide (c ≤ (90 : Int)))) }), (6, { tell := some (.b (decide ((65 : Int) ≤ c ∧ c ≤ (90 : Int)))) })] [2] [] (by kernel_rfl) (by kernel_rfl) ⟨(told_true h_1), (by kernel_rfl), (by simp only [eq_true h_1, told_simp1, told_simp2, and_true, true_and, and_false, false_and, or_true, true_or, or_false, false_or, not_true_eq_false, not_false_eq_true, decide_true, decide_false, Bool.decide_eq_true])⟩ ?_
      exact ⟨rfl, rfl⟩
    ·
      refine st_reg (A := (AV.b (decide ((65 : Int) ≤ c)) = AV.b false) ∧ (AV.b false = AV.b (decide ((65 : Int) ≤ c ∧ c ≤ (90 : Int))))) (σ' := ⟨[(2, .b (decide ((65 : Int) ≤ c ∧ c ≤ (90 : Int))))], []⟩) cx [(1, { tell := some (.b (false)) }), (6, { tell := some (.b (decide ((65 : Int) ≤ c ∧ c ≤ (90 : Int)))) })] [2] [] (by kernel_rfl) (by kernel_rfl) ⟨(told_false h_1), (by simp only [eq_false h_1, told_simp1, told_simp2, and_true, true_and, and_false, false_and, or_true, true_or, or_false, false_or, not_true_eq_false, not_false_eq_true, decide_true, decide_false, Bool.decide_eq_true])⟩ ?_
      exact ⟨rfl, rfl⟩
  ·
    refine q_seq_normal ?_
    refine st_ret (by kernel_rfl) ?_
    exact q_ret (r := .b (decide ((65 : Int) ≤ c ∧ c ≤ (90 : Int)))) (obl := []) (by kernel_rfl) trivial (AVle.eq g0)
theorem con89 (c : Int) : Con Try.prog 89 [.i .u8 c] (.b (isLet c)) :=
  walk89 c rfl
theorem walk90 (c : Int)
    (g0 : AV.b (decide ((48 : Int) ≤ c ∧ c ≤ (57 : Int))) = AV.b (isDig c)) :
    Con Try.prog (90 : FuncId) [AV.i IntKind.u8 c] (AV.b (isDig c)) := by
  refine st_con tab_ok (by kernel_rfl) [.tmp 2] 9 Go.Proofs.Try.func90 (by kernel_rfl) (by kernel_rfl) ?_
  intro e0 cx
  refine st_seq (by kernel_rfl) ?_
  refine st_reg (A := True) (σ' := ⟨[(0, .i .u8 (c))], []⟩) cx [] [0] [] (by kernel_rfl) (by kernel_rfl) trivial ?_
  refine q_seq_normal ?_
  refine st_seq (by kernel_rfl) ?_
  refine st_join (σ' := ⟨[(2, .b (decide ((48 : Int) ≤ c ∧ c ≤ (57 : Int))))], []⟩) ?_ ?_
  ·
    refine st_split ((48 : Int) ≤ c) (fun h_1 => ?_) (fun h_1 => ?_)
    ·
      refine st_reg (A := (AV.b (decide ((48 : Int) ≤ c)) = AV.b true) ∧ (AV.b (decide (c ≤ (57 : Int))) = AV.b (decide (c ≤ (57 : Int)))) ∧ (AV.b (decide (c ≤ (57 : Int))) = AV.b (decide ((48 : Int) ≤ c ∧ c ≤ (57 : Int))))) (σ' := ⟨[(2, .b (decide ((48 : Int) ≤ c ∧ c ≤ (57 : Int))))], []⟩) cx [(1, { tell := some (.b (true)) }), (4, { tell := some (.b (decide (c ≤ (57 : Int)))) }), (6, { tell := some (.b (decide ((48 : Int) ≤ c ∧ c ≤ (57 : Int)))) })] [2] [] (by kernel_rfl) (by kernel_rfl) ⟨(told_true h_1), (by kernel_rfl), (by simp only [eq_true h_1, told_simp1, told_simp2, and_true, true_and, and_false, false_and, or_true, true_or, or_false, false_or, not_true_eq_false, not_false_eq_true, decide_true, decide_false, Bool.decide_eq_true])⟩ ?_
      exact ⟨rfl, rfl⟩
    ·
      refine st_reg (A := (AV.b (decide ((48 : Int) ≤ c)) = AV.b false) ∧ (AV.b false = AV.b (decide ((48 : Int) ≤ c ∧ c ≤ (57 : Int))))) (σ' := ⟨[(2, .b (decide ((48 : Int) ≤ c ∧ c ≤ (57 : Int))))], []⟩) cx [(1, { tell := some (.b (false)) }), (6, { tell := some (.b (decide ((48 : Int) ≤ c ∧ c ≤ (57 : Int)))) })] [2] [] (by kernel_rfl) (by kernel_rfl) ⟨(told_false h_1), (by simp only [eq_false h_1, told_simp1, told_simp2, and_true, true_and, and_false, false_and, or_true, true_or, or_false, false_or, not_true_eq_false, not_false_eq_true, decide_true, decide_false, Bool.decide_eq_true])⟩ ?_
      exact ⟨rfl, rfl⟩
  ·
    refine q_seq_normal ?_
    refine st_ret (by kernel_rfl) ?_
    exact q_ret (r := .b (decide ((48 : Int) ≤ c ∧ c ≤ (57 : Int)))) (obl := []) (by kernel_rfl) trivial (AVle.eq g0)
theorem con90 (c : Int) : Con Try.prog 90 [.i .u8 c] (.b (isDig c)) :=
  walk90 c rfl
theorem walk91 (c : Int)
    (g0 : AV.b (decide (c = (45 : Int) ∨ c = (46 : Int))) = AV.b (isMrk c)) :
    Con Try.prog (91 : FuncId) [AV.i IntKind.u8 c] (AV.b (isMrk c)) := by
  refine st_con tab_ok (by kernel_rfl) [.tmp 2] 9 Go.Proofs.Try.func91 (by kernel_rfl) (by kernel_rfl) ?_
  intro e0 cx
  refine st_seq (by kernel_rfl) ?_
  refine st_reg (A := True) (σ' := ⟨[(0, .i .u8 (c))], []⟩) cx [] [0] [] (by kernel_rfl) (by kernel_rfl) trivial ?_
  refine q_seq_normal ?_
  refine st_seq (by kernel_rfl) ?_
  refine st_join (σ' := ⟨[(2, .b (decide (c = (45 : Int) ∨ c = (46 : Int))))], []⟩) ?_ ?_
  ·
    refine st_split (c = (45 : Int)) (fun h_1 => ?_) (fun h_1 => ?_)
    ·
      refine st_reg (A := (AV.b (c == (45 : Int)) = AV.b true) ∧ (AV.b true = AV.b (decide (c = (45 : Int) ∨ c = (46 : Int))))) (σ' := ⟨[(2, .b (decide (c = (45 : Int) ∨ c = (46 : Int))))], []⟩) cx [(1, { tell := some (.b (true)) }), (6, { tell := some (.b (decide (c = (45 : Int) ∨ c = (46 : Int)))) })] [2] [] (by kernel_rfl) (by kernel_rfl) ⟨(told_true h_1), (by simp only [eq_true h_1, told_simp1, told_simp2, and_true, true_and, and_false, false_and, or_true, true_or, or_false, false_or, not_true_eq_false, not_false_eq_true, decide_true, decide_false, Bool.decide_eq_true])⟩ ?_
      exact ⟨rfl, rfl⟩
    ·
      refine st_reg (A := (AV.b (c == (45 : Int)) = AV.b false) ∧ (AV.b (c == (46 : Int)) = AV.b (decide (c = (46 : Int)))) ∧ (AV.b (decide (c = (46 : Int))) = AV.b (decide (c = (45 : Int) ∨ c = (46 : Int))))) (σ' := ⟨[(2, .b (decide (c = (45 : Int) ∨ c = (46 : Int))))], []⟩) cx [(1, { tell := some (.b (false)) }), (4, { tell := some (.b (decide (c = (46 : Int)))) }), (6, { tell := some (.b (decide (c = (45 : Int) ∨ c = (46 : Int)))) })] [2] [] (by kernel_rfl) (by kernel_rfl) ⟨(told_false h_1), (by kernel_rfl), (by simp only [eq_false h_1, told_simp1, told_simp2, and_true, true_and, and_false, false_and, or_true, true_or, or_false, false_or, not_true_eq_false, not_false_eq_true, decide_true, decide_false, Bool.decide_eq_true])⟩ ?_
      exact ⟨rfl, rfl⟩
  ·
    refine q_seq_normal ?_
    refine st_ret (by kernel_rfl) ?_
    exact q_ret (r := .b (decide (c = (45 : Int) ∨ c = (46 : Int)))) (obl := []) (by kernel_rfl) trivial (AVle.eq g0)
theorem con91 (c : Int) : Con Try.prog 91 [.i .u8 c] (.b (isMrk c)) :=
  walk91 c rfl
theorem walk119 (c : Int)
    (g0 : AV.b (decide ((65 : Int) ≤ c ∧ c ≤ (90 : Int))) = AV.b (isLet c)) :
    Con Try.prog (119 : FuncId) [AV.i IntKind.u8 c] (AV.b (isLet c)) := by
  refine st_con tab_ok (by kernel_rfl) [.tmp 2] 9 Go.Proofs.Try.func119 (by kernel_rfl) (by kernel_rfl) ?_
  intro e0 cx
  refine st_seq (by kernel_rfl) ?_
  refine st_reg (A := True) (σ' := ⟨[(0, .i .u8 (c))], []⟩) cx [] [0] [] (by kernel_rfl) (by kernel_rfl) trivial ?_
  refine q_seq_normal ?_
  refine st_seq (by kernel_rfl) ?_
  refine st_join (σ' := ⟨[(2, .b (decide ((65 : Int) ≤ c ∧ c ≤ (90 : Int))))], []⟩) ?_ ?_
  ·
    refine st_split ((65 : Int) ≤ c) (fun h_1 => ?_) (fun h_1 => ?_)
    ·
      refine st_reg (A := (AV.b (decide (c ≥ (65 : Int))) = AV.b true) ∧ (AV.b (decide (c ≤ (90 : Int))) = AV.b (decide (c ≤ (90 : Int)))) ∧ (AV.b (decide (c ≤ (90 : Int))) = AV.b (decide ((65 : Int) ≤ c ∧ c ≤ (90 : Int))))) (σ' := ⟨[(2, .b (decide ((65 : Int) ≤ c ∧ c ≤ (90 : Int))))], []⟩) cx [(1, { tell := some (.b (true)) }), (4, { tell := some (.b (decide (c ≤ (90 : Int)))) }), (6, { tell := some (.b (decide ((65 : Int) ≤ c ∧ c ≤ (90 : Int)))) })] [2] [] (by kernel_rfl) (by kernel_rfl) ⟨(told_true h_1), (by kernel_rfl), (by simp only [eq_true h_1, told_simp1, told_simp2, and_true, true_and, and_false, false_and, or_true, true_or, or_false, false_or, not_true_eq_false, not_false_eq_true, decide_true, decide_false, Bool.decide_eq_true])⟩ ?_
      exact ⟨rfl, rfl⟩
    ·
      refine st_reg (A := (AV.b (decide (c ≥ (65 : Int))) = AV.b false) ∧ (AV.b false = AV.b (decide ((65 : Int) ≤ c ∧ c ≤ (90 : Int))))) (σ' := ⟨[(2, .b (decide ((65 : Int) ≤ c ∧ c ≤ (90 : Int))))], []⟩) cx [(1, { tell := some (.b (false)) }), (6, { tell := some (.b (decide ((65 : Int) ≤ c ∧ c ≤ (90 : Int)))) })] [2] [] (by kernel_rfl) (by kernel_rfl) ⟨(told_false h_1), (by simp only [eq_false h_1, told_simp1, told_simp2, and_true, true_and, and_false, false_and, or_true, true_or, or_false, false_or, not_true_eq_false, not_false_eq_true, decide_true, decide_false, Bool.decide_eq_true])⟩ ?_
      exact ⟨rfl, rfl⟩
  ·
    refine q_seq_normal ?_
    refine st_ret (by kernel_rfl) ?_
    exact q_ret (r := .b (decide ((65 : Int) ≤ c ∧ c ≤ (90 : Int)))) (obl := []) (by kernel_rfl) trivial (AVle.eq g0)
theorem con119 (c : Int) : Con Try.prog 119 [.i .u8 c] (.b (isLet c)) :=
  walk119 c rfl
theorem walk120 (c : Int)
    (g0 : AV.b (decide ((48 : Int) ≤ c ∧ c ≤ (57 : Int))) = AV.b (isDig c)) :
    Con Try.prog (120 : FuncId) [AV.i IntKind.u8 c] (AV.b (isDig c)) := by
  refine st_con tab_ok (by kernel_rfl) [.tmp 2] 9 Go.Proofs.Try.func120 (by kernel_rfl) (by kernel_rfl) ?_
  intro e0 cx
  refine st_seq (by kernel_rfl) ?_
  refine st_reg (A := True) (σ' := ⟨[(0, .i .u8 (c))], []⟩) cx [] [0] [] (by kernel_rfl) (by kernel_rfl) trivial ?_
  refine q_seq_normal ?_
  refine st_seq (by kernel_rfl) ?_
  refine st_join (σ' := ⟨[(2, .b (decide ((48 : Int) ≤ c ∧ c ≤ (57 : Int))))], []⟩) ?_ ?_
  ·
    refine st_split ((48 : Int) ≤ c) (fun h_1 => ?_) (fun h_1 => ?_)
    ·
      refine st_reg (A := (AV.b (decide (c ≥ (48 : Int))) = AV.b true) ∧ (AV.b (decide (c ≤ (57 : Int))) = AV.b (decide (c ≤ (57 : Int)))) ∧ (AV.b (decide (c ≤ (57 : Int))) = AV.b (decide ((48 : Int) ≤ c ∧ c ≤ (57 : Int))))) (σ' := ⟨[(2, .b (decide ((48 : Int) ≤ c ∧ c ≤ (57 : Int))))], []⟩) cx [(1, { tell := some (.b (true)) }), (4, { tell := some (.b (decide (c ≤ (57 : Int)))) }), (6, { tell := some (.b (decide ((48 : Int) ≤ c ∧ c ≤ (57 : Int)))) })] [2] [] (by kernel_rfl) (by kernel_rfl) ⟨(told_true h_1), (by kernel_rfl), (by simp only [eq_true h_1, told_simp1, told_simp2, and_true, true_and, and_false, false_and, or_true, true_or, or_false, false_or, not_true_eq_false, not_false_eq_true, decide_true, decide_false, Bool.decide_eq_true])⟩ ?_
      exact ⟨rfl, rfl⟩
    ·
      refine st_reg (A := (AV.b (decide (c ≥ (48 : Int))) = AV.b false) ∧ (AV.b false = AV.b (decide ((48 : Int) ≤ c ∧ c ≤ (57 : Int))))) (σ' := ⟨[(2, .b (decide ((48 : Int) ≤ c ∧ c ≤ (57 : Int))))], []⟩) cx [(1, { tell := some (.b (false)) }), (6, { tell := some (.b (decide ((48 : Int) ≤ c ∧ c ≤ (57 : Int)))) })] [2] [] (by kernel_rfl) (by kernel_rfl) ⟨(told_false h_1), (by simp only [eq_false h_1, told_simp1, told_simp2, and_true, true_and, and_false, false_and, or_true, true_or, or_false, false_or, not_true_eq_false, not_false_eq_true, decide_true, decide_false, Bool.decide_eq_true])⟩ ?_
      exact ⟨rfl, rfl⟩
  ·
    refine q_seq_normal ?_
    refine st_ret (by kernel_rfl) ?_
    exact q_ret (r := .b (decide ((48 : Int) ≤ c ∧ c ≤ (57 : Int)))) (obl := []) (by kernel_rfl) trivial (AVle.eq g0)
theorem con120 (c : Int) : Con Try.prog 120 [.i .u8 c] (.b (isDig c)) :=
  walk120 c rfl
theorem walk121 (c : Int)
    (g0 : AV.b (decide (c = (45 : Int) ∨ c = (46 : Int))) = AV.b (isMrk c)) :
    Con Try.prog (121 : FuncId) [AV.i IntKind.u8 c] (AV.b (isMrk c)) := by
  refine st_con tab_ok (by kernel_rfl) [.tmp 2] 9 Go.Proofs.Try.func121 (by kernel_rfl) (by kernel_rfl) ?_
  intro e0 cx
  refine st_seq (by kernel_rfl) ?_
  refine st_reg (A := True) (σ' := ⟨[(0, .i .u8 (c))], []⟩) cx [] [0] [] (by kernel_rfl) (by kernel_rfl) trivial ?_
  refine q_seq_normal ?_
  refine st_seq (by kernel_rfl) ?_
  refine st_join (σ' := ⟨[(2, .b (decide (c = (45 : Int) ∨ c = (46 : Int))))], []⟩) ?_ ?_
  ·
    refine st_split (c = (45 : Int)) (fun h_1 => ?_) (fun h_1 => ?_)
    ·
      refine st_reg (A := (AV.b (c == (45 : Int)) = AV.b true) ∧ (AV.b true = AV.b (decide (c = (45 : Int) ∨ c = (46 : Int))))) (σ' := ⟨[(2, .b (decide (c = (45 : Int) ∨ c = (46 : Int))))], []⟩) cx [(1, { tell := some (.b (true)) }), (6, { tell := some (.b (decide (c = (45 : Int) ∨ c = (46 : Int)))) })] [2] [] (by kernel_rfl) (by kernel_rfl) ⟨(told_true h_1), (by simp only [eq_true h_1, told_simp1, told_simp2, and_true, true_and, and_false, false_and, or_true, true_or, or_false, false_or, not_true_eq_false, not_false_eq_true, decide_true, decide_false, Bool.decide_eq_true])⟩ ?_
      exact ⟨rfl, rfl⟩
    ·
      refine st_reg (A := (AV.b (c == (45 : Int)) = AV.b false) ∧ (AV.b (c == (46 : Int)) = AV.b (decide (c = (46 : Int)))) ∧ (AV.b (decide (c = (46 : Int))) = AV.b (decide (c = (45 : Int) ∨ c = (46 : Int))))) (σ' := ⟨[(2, .b (decide (c = (45 : Int) ∨ c = (46 : Int))))], []⟩) cx [(1, { tell := some (.b (false)) }), (4, { tell := some (.b (decide (c = (46 : Int)))) }), (6, { tell := some (.b (decide (c = (45 : Int) ∨ c = (46 : Int)))) })] [2] [] (by kernel_rfl) (by kernel_rfl) ⟨(told_false h_1), (by kernel_rfl), (by simp only [eq_false h_1, told_simp1, told_simp2, and_true, true_and, and_false, false_and, or_true, true_or, or_false, false_or, not_true_eq_false, not_false_eq_true, decide_true, decide_false, Bool.decide_eq_true])⟩ ?_
      exact ⟨rfl, rfl⟩
  ·
    refine q_seq_normal ?_
    refine st_ret (by kernel_rfl) ?_
    exact q_ret (r := .b (decide (c = (45 : Int) ∨ c = (46 : Int)))) (obl := []) (by kernel_rfl) trivial (AVle.eq g0)
theorem con121 (c : Int) : Con Try.prog 121 [.i .u8 c] (.b (isMrk c)) :=
  walk121 c rfl
theorem walk92 (s : ByteArray) (i : Int) (h0 : (0 : Int) ≤ i) (h1 : i < (↑s.size : Int)) (h2 : s.size ≤ (24 : Nat))
    (g0 : isLet (byt s i.toNat) = true ∨ isDig (byt s i.toNat) = true → AV.b true = AV.b (standsB s i.toNat))
    (g1 : ¬(isLet (byt s i.toNat) = true ∨ isDig (byt s i.toNat) = true) → ¬isMrk (byt s i.toNat) = true → AV.b false = AV.b (standsB s i.toNat))
    (g2 : ¬(isLet (byt s i.toNat) = true ∨ isDig (byt s i.toNat) = true) → ¬¬isMrk (byt s i.toNat) = true → i = (0 : Int) ∨ i = (↑s.size : Int) - (1 : Int) → AV.b false = AV.b (standsB s i.toNat))
    (g3 : ¬(isLet (byt s i.toNat) = true ∨ isDig (byt s i.toNat) = true) → ¬¬isMrk (byt s i.toNat) = true → ¬(i = (0 : Int) ∨ i = (↑s.size : Int) - (1 : Int)) → AV.b (decide ¬isMrk (byt s (i - (1 : Int)).toNat) = true) = AV.b (standsB s i.toNat)) :
    Con Try.prog (92 : FuncId) [AV.s s, AV.i IntKind.i64 i] (AV.b (standsB s i.toNat)) := by
  refine st_con tab_ok (by kernel_rfl) [.tmp 4] 33 Go.Proofs.Try.func92 (by kernel_rfl) (by kernel_rfl) ?_
  intro e0 cx
  refine st_seq (by kernel_rfl) ?_
  refine st_reg (A := True) (σ' := ⟨[(0, .s (s)), (1, .i .i64 (i))], []⟩) cx [] [0, 1] [] (by kernel_rfl) (by kernel_rfl) trivial ?_
  refine q_seq_normal ?_
  refine st_seq (by kernel_rfl) ?_
  have hl_0 := (rng_byt s)
  have hl_1 := (rng_byt s i.toNat)
  refine st_reg (A := ((0 : Int) ≤ i) ∧ (Option.map (fun b ↦ (↑b.toNat : Int)) s[i.toNat]? = some (byt s i.toNat))) (σ' := ⟨[(0, .s (s)), (1, .i .i64 (i)), (5, .i .u8 (byt s i.toNat))], []⟩) cx [(2, { val := some (.i .u8 (byt s i.toNat)) })] [0, 1, 5] [] (by kernel_rfl) (by kernel_rfl) ⟨(by (with_reducible assumption)), (by (with_reducible refine get_byt ?_; omega))⟩ ?_
  refine q_seq_normal ?_
  refine st_seq (by kernel_rfl) ?_
  refine st_seq (by kernel_rfl) ?_
  refine st_join (σ' := ⟨[(0, .s (s)), (1, .i .i64 (i)), (5, .i .u8 (byt s i.toNat)), (14, .b (decide (isLet (byt s i.toNat) = true ∨ isDig (byt s i.toNat) = true)))], []⟩) ?_ ?_
  ·
    refine st_split (isLet (byt s i.toNat) = true) (fun h_3 => ?_) (fun h_3 => ?_)
    ·
      refine st_reg (A := (AV.b (isLet (byt s i.toNat)) = AV.b true) ∧ (Con Try.prog (119 : FuncId) [AV.i IntKind.u8 (byt s i.toNat)] (AV.b (isLet (byt s i.toNat)))) ∧ (AV.b true = AV.b (decide (isLet (byt s i.toNat) = true ∨ isDig (byt s i.toNat) = true)))) (σ' := ⟨[(0, .s (s)), (1, .i .i64 (i)), (5, .i .u8 (byt s i.toNat)), (14, .b (decide (isLet (byt s i.toNat) = true ∨ isDig (byt s i.toNat) = true)))], []⟩) cx [(1, { val := some (.b (isLet (byt s i.toNat))), tell := some (.b (true)) }), (5, { tell := some (.b (decide (isLet (byt s i.toNat) = true ∨ isDig (byt s i.toNat) = true))) })] [0, 1, 5, 14] [] (by kernel_rfl) (by kernel_rfl) ⟨(told_eqt h_3), (con119 (byt s i.toNat)), (by simp only [eq_true h_3, told_simp1, told_simp2, and_true, true_and, and_false, false_and, or_true, true_or, or_false, false_or, not_true_eq_false, not_false_eq_true, decide_true, decide_false, Bool.decide_eq_true])⟩ ?_
      exact ⟨rfl, rfl⟩
    ·
      refine st_reg (A := (AV.b (isLet (byt s i.toNat)) = AV.b false) ∧ (Con Try.prog (119 : FuncId) [AV.i IntKind.u8 (byt s i.toNat)] (AV.b (isLet (byt s i.toNat)))) ∧ (Con Try.prog (120 : FuncId) [AV.i IntKind.u8 (byt s i.toNat)] (AV.b (isDig (byt s i.toNat)))) ∧ (AV.b (isDig (byt s i.toNat)) = AV.b (decide (isLet (byt s i.toNat) = true ∨ isDig (byt s i.toNat) = true)))) (σ' := ⟨[(0, .s (s)), (1, .i .i64 (i)), (5, .i .u8 (byt s i.toNat)), (14, .b (decide (isLet (byt s i.toNat) = true ∨ isDig (byt s i.toNat) = true)))], []⟩) cx [(1, { val := some (.b (isLet (byt s i.toNat))), tell := some (.b (false)) }), (4, { val := some (.b (isDig (byt s i.toNat))) }), (5, { tell := some (.b (decide (isLet (byt s i.toNat) = true ∨ isDig (byt s i.toNat) = true))) })] [0, 1, 5, 14] [] (by kernel_rfl) (by kernel_rfl) ⟨(told_eqn h_3), (con119 (byt s i.toNat)), (con120 (byt s i.toNat)), (by simp only [eq_false h_3, told_simp1, told_simp2, and_true, true_and, and_false, false_and, or_true, true_or, or_false, false_or, not_true_eq_false, not_false_eq_true, decide_true, decide_false, Bool.decide_eq_true])⟩ ?_
      exact ⟨rfl, rfl⟩
  ·
    refine q_seq_normal ?_
    refine st_dec (isLet (byt s i.toNat) = true ∨ isDig (byt s i.toNat) = true) (by kernel_rfl) (by kernel_rfl) (fun h_4 => ?_) (fun h_4 => ?_)
    ·
      refine st_seq (by kernel_rfl) ?_
      refine st_reg (A := True) (σ' := ⟨[(4, .b (true))], []⟩) cx [] [4] [] (by kernel_rfl) (by kernel_rfl) trivial ?_
      refine q_seq_normal ?_
      refine st_ret (by kernel_rfl) ?_
      refine q_seq_ret ?_
      exact q_ret (r := .b (true)) (obl := []) (by kernel_rfl) trivial (AVle.eq (g0 h_4))
    ·
      refine st_skip (by kernel_rfl) ?_
      refine q_seq_normal ?_
      refine st_seq (by kernel_rfl) ?_
      refine st_seq (by kernel_rfl) ?_
      refine st_reg (A := (Con Try.prog (121 : FuncId) [AV.i IntKind.u8 (byt s i.toNat)] (AV.b (isMrk (byt s i.toNat)))) ∧ ((AV.b !isMrk (byt s i.toNat)) = AV.b (decide ¬isMrk (byt s i.toNat) = true))) (σ' := ⟨[(0, .s (s)), (1, .i .i64 (i)), (17, .b (decide ¬isMrk (byt s i.toNat) = true))], []⟩) cx [(1, { val := some (.b (isMrk (byt s i.toNat))) }), (2, { tell := some (.b (decide ¬isMrk (byt s i.toNat) = true)) })] [0, 1, 17] [] (by kernel_rfl) (by kernel_rfl) ⟨(con121 (byt s i.toNat)), (told_not)⟩ ?_
      refine q_seq_normal ?_
      refine st_dec (¬isMrk (byt s i.toNat) = true) (by kernel_rfl) (by kernel_rfl) (fun h_5 => ?_) (fun h_5 => ?_)
      ·
        refine st_seq (by kernel_rfl) ?_
        refine st_reg (A := True) (σ' := ⟨[(4, .b (false))], []⟩) cx [] [4] [] (by kernel_rfl) (by kernel_rfl) trivial ?_
        refine q_seq_normal ?_
        refine st_ret (by kernel_rfl) ?_
        refine q_seq_ret ?_
        exact q_ret (r := .b (false)) (obl := []) (by kernel_rfl) trivial (AVle.eq (g1 h_4 h_5))
      ·
        refine st_skip (by kernel_rfl) ?_
        refine q_seq_normal ?_
        refine st_seq (by kernel_rfl) ?_
        refine st_seq (by kernel_rfl) ?_
        refine st_join (σ' := ⟨[(0, .s (s)), (1, .i .i64 (i)), (26, .b (decide (i = (0 : Int) ∨ i = (↑s.size : Int) - (1 : Int))))], []⟩) ?_ ?_
        ·
          refine st_split (i = (0 : Int)) (fun h_7 => ?_) (fun h_7 => ?_)
          ·
            refine st_reg (A := (AV.b (i == (0 : Int)) = AV.b true) ∧ (AV.b true = AV.b (decide (i = (0 : Int) ∨ i = (↑s.size : Int) - (1 : Int))))) (σ' := ⟨[(0, .s (s)), (1, .i .i64 (i)), (26, .b (decide (i = (0 : Int) ∨ i = (↑s.size : Int) - (1 : Int))))], []⟩) cx [(1, { tell := some (.b (true)) }), (8, { tell := some (.b (decide (i = (0 : Int) ∨ i = (↑s.size : Int) - (1 : Int)))) })] [0, 1, 26] [] (by kernel_rfl) (by kernel_rfl) ⟨(told_true h_7), (by simp only [eq_true h_7, told_simp1, told_simp2, and_true, true_and, and_false, false_and, or_true, true_or, or_false, false_or, not_true_eq_false, not_false_eq_true, decide_true, decide_false, Bool.decide_eq_true])⟩ ?_
            exact ⟨rfl, rfl⟩
          ·
            refine st_reg (A := (AV.b (i == (0 : Int)) = AV.b false) ∧ (AV.i IntKind.i64 (IntKind.i64.wrap ((↑s.size : Int) - (1 : Int))) = AV.i IntKind.i64 ((↑s.size : Int) - (1 : Int))) ∧ (AV.b (i == (↑s.size : Int) - (1 : Int)) = AV.b (decide (i = (↑s.size : Int) - (1 : Int)))) ∧ (AV.b (decide (i = (↑s.size : Int) - (1 : Int))) = AV.b (decide (i = (0 : Int) ∨ i = (↑s.size : Int) - (1 : Int))))) (σ' := ⟨[(0, .s (s)), (1, .i .i64 (i)), (26, .b (decide (i = (0 : Int) ∨ i = (↑s.size : Int) - (1 : Int))))], []⟩) cx [(1, { tell := some (.b (false)) }), (6, { tell := some (.i .i64 ((↑s.size : Int) - (1 : Int))) }), (7, { tell := some (.b (decide (i = (↑s.size : Int) - (1 : Int)))) }), (8, { tell := some (.b (decide (i = (0 : Int) ∨ i = (↑s.size : Int) - (1 : Int)))) })] [0, 1, 26] [] (by kernel_rfl) (by kernel_rfl) ⟨(told_false h_7), (told_i64 (by omega) (by omega)), (by kernel_rfl), (by simp only [eq_false h_7, told_simp1, told_simp2, and_true, true_and, and_false, false_and, or_true, true_or, or_false, false_or, not_true_eq_false, not_false_eq_true, decide_true, decide_false, Bool.decide_eq_true])⟩ ?_
            exact ⟨rfl, rfl⟩
        ·
          refine q_seq_normal ?_
          refine st_dec (i = (0 : Int) ∨ i = (↑s.size : Int) - (1 : Int)) (by kernel_rfl) (by kernel_rfl) (fun h_8 => ?_) (fun h_8 => ?_)
          ·
            refine st_seq (by kernel_rfl) ?_
            refine st_reg (A := True) (σ' := ⟨[(4, .b (false))], []⟩) cx [] [4] [] (by kernel_rfl) (by kernel_rfl) trivial ?_
            refine q_seq_normal ?_
            refine st_ret (by kernel_rfl) ?_
            refine q_seq_ret ?_
            exact q_ret (r := .b (false)) (obl := []) (by kernel_rfl) trivial (AVle.eq (g2 h_4 h_5 h_8))
          ·
            refine st_skip (by kernel_rfl) ?_
            refine q_seq_normal ?_
            refine st_seq (by kernel_rfl) ?_
            have hl_9 := (rng_byt s (i - (1 : Int)).toNat)
            refine st_reg (A := (AV.i IntKind.i64 (IntKind.i64.wrap (i - (1 : Int))) = AV.i IntKind.i64 (i - (1 : Int))) ∧ ((0 : Int) ≤ i - (1 : Int)) ∧ (Option.map (fun b ↦ (↑b.toNat : Int)) s[(i - (1 : Int)).toNat]? = some (byt s (i - (1 : Int)).toNat)) ∧ (Con Try.prog (121 : FuncId) [AV.i IntKind.u8 (byt s (i - (1 : Int)).toNat)] (AV.b (isMrk (byt s (i - (1 : Int)).toNat)))) ∧ ((AV.b !isMrk (byt s (i - (1 : Int)).toNat)) = AV.b (decide ¬isMrk (byt s (i - (1 : Int)).toNat) = true))) (σ' := ⟨[(4, .b (decide ¬isMrk (byt s (i - (1 : Int)).toNat) = true))], []⟩) cx [(2, { tell := some (.i .i64 (i - (1 : Int))) }), (3, { val := some (.i .u8 (byt s (i - (1 : Int)).toNat)) }), (4, { val := some (.b (isMrk (byt s (i - (1 : Int)).toNat))) }), (5, { tell := some (.b (decide ¬isMrk (byt s (i - (1 : Int)).toNat) = true)) })] [4] [] (by kernel_rfl) (by kernel_rfl) ⟨(told_i64 (by omega) (by omega)), (by omega), (by (with_reducible refine get_byt ?_; omega)), (con121 (byt s (i - (1 : Int)).toNat)), (told_not)⟩ ?_
            refine q_seq_normal ?_
            refine st_ret (by kernel_rfl) ?_
            exact q_ret (r := .b (decide ¬isMrk (byt s (i - (1 : Int)).toNat) = true)) (obl := []) (by kernel_rfl) trivial (AVle.eq (g3 h_4 h_5 h_8))
theorem con92 (s : ByteArray) (i : Int) (h0 : 0 ≤ i) (h1 : i < s.size) (h2 : s.size ≤ 24) : Con Try.prog 92 [.s s, .i .i64 i] (.b (standsB s i.toNat)) :=
  by
  refine walk92 s i h0 h1 h2 (fun h => ?_) (fun h k => ?_) (fun h k l => ?_) (fun h k l => ?_)
  · rw [(stands_iff s i.toNat).2 (h.elim .inl fun h => .inr (.inl h))]
  · rw [not_stands]; rw [stands_iff]; rintro (a | a | a)
    · exact h (.inl a)
    · exact h (.inr a)
    · exact k a.1
  · rw [not_stands]; rw [stands_iff]; rintro (a | a | a)
    · exact h (.inl a)
    · exact h (.inr a)
    · omega
  · have e : (i - 1).toNat = i.toNat - 1 := by omega
    rw [e]
    by_cases m : isMrk (byt s (i.toNat - 1)) = true
    · rw [not_stands]
      · rw [m]; rfl
      · rw [stands_iff]; rintro (a | a | a)
        · exact h (.inl a)
        · exact h (.inr a)
        · exact a.2.2.2 m
    · rw [(stands_iff s i.toNat).2 (.inr (.inr ⟨Classical.not_not.1 k, by omega, by omega, m⟩)), decide_eq_true m]
theorem walk70 (s : ByteArray)
    (g0 : s = { data := #[] : ByteArray } → AV.i IntKind.i64 (20 : Int) = AV.i IntKind.i64 (chkE s))
    (g1 : ¬s = { data := #[] : ByteArray } → (24 : Int) < (↑s.size : Int) → AV.i IntKind.i64 (21 : Int) = AV.i IntKind.i64 (chkE s))
    (g2 : ¬s = { data := #[] : ByteArray } → ¬(24 : Int) < (↑s.size : Int) → invG s (0 : Int))
    (g3 : ¬s = { data := #[] : ByteArray } → ¬(24 : Int) < (↑s.size : Int) → ∀ (i_2 : Int), (0 : Int) ≤ i_2 → i_2 ≤ (↑s.size : Int) → (∀ (j : Nat), (↑j : Int) < i_2 → standsB s j = true) → i_2 < (↑s.size : Int) → isLet (byt s i_2.toNat) = true ∨ isDig (byt s i_2.toNat) = true → invG s (i_2 + (1 : Int)))
    (g4 : ¬s = { data := #[] : ByteArray } → ¬(24 : Int) < (↑s.size : Int) → ∀ (i_2 : Int), (0 : Int) ≤ i_2 → i_2 ≤ (↑s.size : Int) → (∀ (j : Nat), (↑j : Int) < i_2 → standsB s j = true) → i_2 < (↑s.size : Int) → ¬(isLet (byt s i_2.toNat) = true ∨ isDig (byt s i_2.toNat) = true) → ¬isMrk (byt s i_2.toNat) = true ∨ i_2 = (0 : Int) ∨ i_2 = (↑s.size : Int) - (1 : Int) ∨ isMrk (byt s (i_2 - (1 : Int)).toNat) = true → AV.i IntKind.i64 (22 : Int) = AV.i IntKind.i64 (chkE s))
    (g5 : ¬s = { data := #[] : ByteArray } → ¬(24 : Int) < (↑s.size : Int) → ∀ (i_2 : Int), (0 : Int) ≤ i_2 → i_2 ≤ (↑s.size : Int) → (∀ (j : Nat), (↑j : Int) < i_2 → standsB s j = true) → i_2 < (↑s.size : Int) → ¬(isLet (byt s i_2.toNat) = true ∨ isDig (byt s i_2.toNat) = true) → ¬(¬isMrk (byt s i_2.toNat) = true ∨ i_2 = (0 : Int) ∨ i_2 = (↑s.size : Int) - (1 : Int) ∨ isMrk (byt s (i_2 - (1 : Int)).toNat) = true) → invG s (i_2 + (1 : Int)))
    (g6 : ¬s = { data := #[] : ByteArray } → ¬(24 : Int) < (↑s.size : Int) → ∀ (i_2 : Int), (0 : Int) ≤ i_2 → i_2 ≤ (↑s.size : Int) → (∀ (j : Nat), (↑j : Int) < i_2 → standsB s j = true) → ¬i_2 < (↑s.size : Int) → AV.i IntKind.i64 (0 : Int) = AV.i IntKind.i64 (chkE s)) :
    Con Try.prog (70 : FuncId) [AV.s s] (AV.tup [AV.dead, AV.i IntKind.i64 (chkE s)]) := by
  refine st_con tab_ok (by kernel_rfl) [.tmp 2, .tmp 3] 48 Go.Proofs.Try.func70 (by kernel_rfl) (by kernel_rfl) ?_
  intro e0 cx
  refine st_seq (by kernel_rfl) ?_
  refine st_reg (A := True) (σ' := ⟨[(0, .s (s))], []⟩) cx [] [0] [] (by kernel_rfl) (by kernel_rfl) trivial ?_
  refine q_seq_normal ?_
  refine st_seq (by kernel_rfl) ?_
  refine st_seq (by kernel_rfl) ?_
  refine st_reg (A := (AV.b (s.toList == { data := #[] : ByteArray }.toList) = AV.b (decide (s = { data := #[] : ByteArray })))) (σ' := ⟨[(0, .s (s)), (7, .b (decide (s = { data := #[] : ByteArray })))], []⟩) cx [(1, { tell := some (.b (decide (s = { data := #[] : ByteArray }))) })] [0, 7] [] (by kernel_rfl) (by kernel_rfl) (told_seq) ?_
  refine q_seq_normal ?_
  refine st_dec (s = { data := #[] : ByteArray }) (by kernel_rfl) (by kernel_rfl) (fun h_0 => ?_) (fun h_0 => ?_)
  ·
    refine st_seq (by kernel_rfl) ?_
    refine st_reg (A := True) (σ' := ⟨[(2, .i .i64 ((0 : Int))), (3, .i .i64 ((20 : Int)))], []⟩) cx [] [2, 3] [] (by kernel_rfl) (by kernel_rfl) trivial ?_
    refine q_seq_normal ?_
    refine st_ret (by kernel_rfl) ?_
    refine q_seq_ret ?_
    exact q_ret (r := .tup [.i .i64 ((0 : Int)), .i .i64 ((20 : Int))]) (obl := []) (by kernel_rfl) trivial (AVle.tup (ZLe.cons AVle.dead (ZLe.cons (AVle.eq (g0 h_0)) ZLe.nil)))
  ·
    refine st_skip (by kernel_rfl) ?_
    refine q_seq_normal ?_
    refine st_seq (by kernel_rfl) ?_
    refine st_seq (by kernel_rfl) ?_
    refine st_reg (A := (AV.b (decide ((↑s.size : Int) > (24 : Int))) = AV.b (decide ((24 : Int) < (↑s.size : Int))))) (σ' := ⟨[(0, .s (s)), (10, .b (decide ((24 : Int) < (↑s.size : Int))))], []⟩) cx [(2, { tell := some (.b (decide ((24 : Int) < (↑s.size : Int)))) })] [0, 10] [] (by kernel_rfl) (by kernel_rfl) (by kernel_rfl) ?_
    refine q_seq_normal ?_
    refine st_dec ((24 : Int) < (↑s.size : Int)) (by kernel_rfl) (by kernel_rfl) (fun h_1 => ?_) (fun h_1 => ?_)
    ·
      refine st_seq (by kernel_rfl) ?_
      refine st_reg (A := True) (σ' := ⟨[(2, .i .i64 ((0 : Int))), (3, .i .i64 ((21 : Int)))], []⟩) cx [] [2, 3] [] (by kernel_rfl) (by kernel_rfl) trivial ?_
      refine q_seq_normal ?_
      refine st_ret (by kernel_rfl) ?_
      refine q_seq_ret ?_
      exact q_ret (r := .tup [.i .i64 ((0 : Int)), .i .i64 ((21 : Int))]) (obl := []) (by kernel_rfl) trivial (AVle.tup (ZLe.cons AVle.dead (ZLe.cons (AVle.eq (g1 h_0 h_1)) ZLe.nil)))
    ·
      refine st_skip (by kernel_rfl) ?_
      refine q_seq_normal ?_
      refine st_seq (by kernel_rfl) ?_
      refine st_seq (by kernel_rfl) ?_
      refine st_reg (A := True) (σ' := ⟨[(0, .s (s)), (12, .i .i64 ((↑s.size : Int))), (13, .i .i64 ((0 : Int)))], []⟩) cx [] [0, 12, 13] [] (by kernel_rfl) (by kernel_rfl) trivial ?_
      refine q_seq_normal ?_
      refine st_block 0 (by kernel_rfl) ?_
      refine st_loop (X := Int) (fun x => ⟨[(0, .s (s)), (12, .i .i64 ((↑s.size : Int))), (13, .i .i64 (x))], []⟩) (fun x ↦ decG s x) (fun x ↦ invG s x) [0, 12, 13] [] ((0 : Int)) (by kernel_rfl) (by kernel_rfl) (g2 h_0 h_1) ?_
      intro i_2 h_3
      obtain ⟨h_4, h_5, h_6⟩ : (0 : Int) ≤ i_2 ∧ i_2 ≤ (↑s.size : Int) ∧ ∀ (j : Nat), (↑j : Int) < i_2 → standsB s j = true := h_3
      refine st_seq (by kernel_rfl) ?_
      refine st_reg (A := (AV.b (decide (i_2 < (↑s.size : Int))) = AV.b (decide (i_2 < (↑s.size : Int))))) (σ' := ⟨[(0, .s (s)), (12, .i .i64 ((↑s.size : Int))), (13, .i .i64 (i_2)), (14, .b (decide (i_2 < (↑s.size : Int))))], []⟩) cx [(0, { tell := some (.b (decide (i_2 < (↑s.size : Int)))) })] [0, 12, 13, 14] [] (by kernel_rfl) (by kernel_rfl) (by kernel_rfl) ?_
      refine q_seq_normal ?_
      refine st_seq (by kernel_rfl) ?_
      refine st_dec (i_2 < (↑s.size : Int)) (by kernel_rfl) (by kernel_rfl) (fun h_7 => ?_) (fun h_7 => ?_)
      ·
        refine st_skip (by kernel_rfl) ?_
        refine q_seq_normal ?_
        refine st_seq (by kernel_rfl) ?_
        refine st_block 1 (by kernel_rfl) ?_
        refine st_seq (by kernel_rfl) ?_
        refine st_reg (A := True) (σ' := ⟨[(0, .s (s)), (12, .i .i64 ((↑s.size : Int))), (13, .i .i64 (i_2)), (4, .i .i64 (i_2))], []⟩) cx [] [0, 12, 13, 4] [] (by kernel_rfl) (by kernel_rfl) trivial ?_
        refine q_seq_normal ?_
        refine st_seq (by kernel_rfl) ?_
        have hl_8 := (rng_byt s)
        have hl_9 := (rng_byt s i_2.toNat)
        refine st_reg (A := ((0 : Int) ≤ i_2) ∧ (Option.map (fun b ↦ (↑b.toNat : Int)) s[i_2.toNat]? = some (byt s i_2.toNat))) (σ' := ⟨[(0, .s (s)), (12, .i .i64 ((↑s.size : Int))), (13, .i .i64 (i_2)), (4, .i .i64 (i_2)), (5, .i .u8 (byt s i_2.toNat))], []⟩) cx [(2, { val := some (.i .u8 (byt s i_2.toNat)) })] [0, 12, 13, 4, 5] [] (by kernel_rfl) (by kernel_rfl) ⟨(by (with_reducible assumption)), (by (with_reducible refine get_byt ?_; omega))⟩ ?_
        refine q_seq_normal ?_
        refine st_seq (by kernel_rfl) ?_
        refine st_seq (by kernel_rfl) ?_
        refine st_join (σ' := ⟨[(0, .s (s)), (12, .i .i64 ((↑s.size : Int))), (13, .i .i64 (i_2)), (4, .i .i64 (i_2)), (5, .i .u8 (byt s i_2.toNat)), (24, .b (decide (isLet (byt s i_2.toNat) = true ∨ isDig (byt s i_2.toNat) = true)))], []⟩) ?_ ?_
        ·
          refine st_split (isLet (byt s i_2.toNat) = true) (fun h_11 => ?_) (fun h_11 => ?_)
          ·
            refine st_reg (A := (AV.b (isLet (byt s i_2.toNat)) = AV.b true) ∧ (Con Try.prog (89 : FuncId) [AV.i IntKind.u8 (byt s i_2.toNat)] (AV.b (isLet (byt s i_2.toNat)))) ∧ (AV.b true = AV.b (decide (isLet (byt s i_2.toNat) = true ∨ isDig (byt s i_2.toNat) = true)))) (σ' := ⟨[(0, .s (s)), (12, .i .i64 ((↑s.size : Int))), (13, .i .i64 (i_2)), (4, .i .i64 (i_2)), (5, .i .u8 (byt s i_2.toNat)), (24, .b (decide (isLet (byt s i_2.toNat) = true ∨ isDig (byt s i_2.toNat) = true)))], []⟩) cx [(1, { val := some (.b (isLet (byt s i_2.toNat))), tell := some (.b (true)) }), (5, { tell := some (.b (decide (isLet (byt s i_2.toNat) = true ∨ isDig (byt s i_2.toNat) = true))) })] [0, 12, 13, 4, 5, 24] [] (by kernel_rfl) (by kernel_rfl) ⟨(told_eqt h_11), (con89 (byt s i_2.toNat)), (by simp only [eq_true h_11, told_simp1, told_simp2, and_true, true_and, and_false, false_and, or_true, true_or, or_false, false_or, not_true_eq_false, not_false_eq_true, decide_true, decide_false, Bool.decide_eq_true])⟩ ?_
            exact ⟨rfl, rfl⟩
          ·
            refine st_reg (A := (AV.b (isLet (byt s i_2.toNat)) = AV.b false) ∧ (Con Try.prog (89 : FuncId) [AV.i IntKind.u8 (byt s i_2.toNat)] (AV.b (isLet (byt s i_2.toNat)))) ∧ (Con Try.prog (90 : FuncId) [AV.i IntKind.u8 (byt s i_2.toNat)] (AV.b (isDig (byt s i_2.toNat)))) ∧ (AV.b (isDig (byt s i_2.toNat)) = AV.b (decide (isLet (byt s i_2.toNat) = true ∨ isDig (byt s i_2.toNat) = true)))) (σ' := ⟨[(0, .s (s)), (12, .i .i64 ((↑s.size : Int))), (13, .i .i64 (i_2)), (4, .i .i64 (i_2)), (5, .i .u8 (byt s i_2.toNat)), (24, .b (decide (isLet (byt s i_2.toNat) = true ∨ isDig (byt s i_2.toNat) = true)))], []⟩) cx [(1, { val := some (.b (isLet (byt s i_2.toNat))), tell := some (.b (false)) }), (4, { val := some (.b (isDig (byt s i_2.toNat))) }), (5, { tell := some (.b (decide (isLet (byt s i_2.toNat) = true ∨ isDig (byt s i_2.toNat) = true))) })] [0, 12, 13, 4, 5, 24] [] (by kernel_rfl) (by kernel_rfl) ⟨(told_eqn h_11), (con89 (byt s i_2.toNat)), (con90 (byt s i_2.toNat)), (by simp only [eq_false h_11, told_simp1, told_simp2, and_true, true_and, and_false, false_and, or_true, true_or, or_false, false_or, not_true_eq_false, not_false_eq_true, decide_true, decide_false, Bool.decide_eq_true])⟩ ?_
            exact ⟨rfl, rfl⟩
        ·
          refine q_seq_normal ?_
          refine st_dec (isLet (byt s i_2.toNat) = true ∨ isDig (byt s i_2.toNat) = true) (by kernel_rfl) (by kernel_rfl) (fun h_12 => ?_) (fun h_12 => ?_)
          ·
            refine st_exit 1 (by kernel_rfl) ?_
            refine q_seq_exit ?_
            refine q_blk_hit ?_
            refine q_seq_normal ?_
            refine st_reg (A := (AV.i IntKind.i64 (IntKind.i64.wrap (i_2 + (1 : Int))) = AV.i IntKind.i64 (i_2 + (1 : Int)))) (σ' := ⟨[(0, .s (s)), (12, .i .i64 ((↑s.size : Int))), (13, .i .i64 (i_2 + (1 : Int)))], []⟩) cx [(0, { tell := some (.i .i64 (i_2 + (1 : Int))) })] [0, 12, 13] [] (by kernel_rfl) (by kernel_rfl) (told_i64 (by omega) (by omega)) ?_
            refine q_seq_normal ?_
            exact loop_next (i_2 + (1 : Int)) (by kernel_rfl) (show ((↑s.size : Int) - (i_2 + (1 : Int))).toNat < ((↑s.size : Int) - i_2).toNat from (by omega)) (g3 h_0 h_1 i_2 h_4 h_5 h_6 h_7 h_12)
          ·
            refine st_skip (by kernel_rfl) ?_
            refine q_seq_normal ?_
            refine st_seq (by kernel_rfl) ?_
            refine st_join (σ' := ⟨[(0, .s (s)), (12, .i .i64 ((↑s.size : Int))), (13, .i .i64 (i_2)), (4, .i .i64 (i_2)), (45, .b (decide (¬isMrk (byt s i_2.toNat) = true ∨ i_2 = (0 : Int) ∨ i_2 = (↑s.size : Int) - (1 : Int) ∨ isMrk (byt s (i_2 - (1 : Int)).toNat) = true)))], []⟩) ?_ ?_
            ·
              refine st_split (¬isMrk (byt s i_2.toNat) = true) (fun h_14 => ?_) (fun h_14 => ?_)
              ·
                have hl_15 := (rng_byt s (i_2 - (1 : Int)).toNat)
                refine st_reg (A := (AV.b (isMrk (byt s i_2.toNat)) = AV.b false) ∧ (Con Try.prog (91 : FuncId) [AV.i IntKind.u8 (byt s i_2.toNat)] (AV.b (isMrk (byt s i_2.toNat)))) ∧ (AV.b true = AV.b (decide (¬isMrk (byt s i_2.toNat) = true ∨ i_2 = (0 : Int) ∨ i_2 = (↑s.size : Int) - (1 : Int) ∨ isMrk (byt s (i_2 - (1 : Int)).toNat) = true)))) (σ' := ⟨[(0, .s (s)), (12, .i .i64 ((↑s.size : Int))), (13, .i .i64 (i_2)), (4, .i .i64 (i_2)), (45, .b (decide (¬isMrk (byt s i_2.toNat) = true ∨ i_2 = (0 : Int) ∨ i_2 = (↑s.size : Int) - (1 : Int) ∨ isMrk (byt s (i_2 - (1 : Int)).toNat) = true)))], []⟩) cx [(1, { val := some (.b (isMrk (byt s i_2.toNat))), tell := some (.b (false)) }), (20, { tell := some (.b (decide (¬isMrk (byt s i_2.toNat) = true ∨ i_2 = (0 : Int) ∨ i_2 = (↑s.size : Int) - (1 : Int) ∨ isMrk (byt s (i_2 - (1 : Int)).toNat) = true))) })] [0, 12, 13, 4, 45] [] (by kernel_rfl) (by kernel_rfl) ⟨(told_eqn h_14), (con91 (byt s i_2.toNat)), (by simp only [eq_false h_14, told_simp1, told_simp2, and_true, true_and, and_false, false_and, or_true, true_or, or_false, false_or, not_true_eq_false, not_false_eq_true, decide_true, decide_false, Bool.decide_eq_true])⟩ ?_
                exact ⟨rfl, rfl⟩
              ·
                refine st_split (i_2 = (0 : Int)) (fun h_16 => ?_) (fun h_16 => ?_)
                ·
                  have hl_17 := (rng_byt s (i_2 - (1 : Int)).toNat)
                  refine st_reg (A := (Con Try.prog (91 : FuncId) [AV.i IntKind.u8 (byt s i_2.toNat)] (AV.b (isMrk (byt s i_2.toNat)))) ∧ ((AV.b !isMrk (byt s i_2.toNat)) = AV.b (decide ¬isMrk (byt s i_2.toNat) = true)) ∧ (AV.b (decide ¬isMrk (byt s i_2.toNat) = true) = AV.b false) ∧ (AV.b (i_2 == (0 : Int)) = AV.b true) ∧ (AV.b true = AV.b (decide (¬isMrk (byt s i_2.toNat) = true ∨ i_2 = (0 : Int) ∨ i_2 = (↑s.size : Int) - (1 : Int) ∨ isMrk (byt s (i_2 - (1 : Int)).toNat) = true)))) (σ' := ⟨[(0, .s (s)), (12, .i .i64 ((↑s.size : Int))), (13, .i .i64 (i_2)), (4, .i .i64 (i_2)), (45, .b (decide (¬isMrk (byt s i_2.toNat) = true ∨ i_2 = (0 : Int) ∨ i_2 = (↑s.size : Int) - (1 : Int) ∨ isMrk (byt s (i_2 - (1 : Int)).toNat) = true)))], []⟩) cx [(1, { val := some (.b (isMrk (byt s i_2.toNat))) }), (2, { tell := some (.b (decide ¬isMrk (byt s i_2.toNat) = true)) }), (3, { tell := some (.b (false)) }), (5, { tell := some (.b (true)) }), (20, { tell := some (.b (decide (¬isMrk (byt s i_2.toNat) = true ∨ i_2 = (0 : Int) ∨ i_2 = (↑s.size : Int) - (1 : Int) ∨ isMrk (byt s (i_2 - (1 : Int)).toNat) = true))) })] [0, 12, 13, 4, 45] [] (by kernel_rfl) (by kernel_rfl) ⟨(con91 (byt s i_2.toNat)), (told_not), (told_false h_14), (told_true h_16), (by simp only [eq_false h_14, eq_true h_16, told_simp1, told_simp2, and_true, true_and, and_false, false_and, or_true, true_or, or_false, false_or, not_true_eq_false, not_false_eq_true, decide_true, decide_false, Bool.decide_eq_true])⟩ ?_
                  exact ⟨rfl, rfl⟩
                ·
                  refine st_split (i_2 = (↑s.size : Int) - (1 : Int)) (fun h_18 => ?_) (fun h_18 => ?_)
                  ·
                    have hl_19 := (rng_byt s (i_2 - (1 : Int)).toNat)
                    refine st_reg (A := (Con Try.prog (91 : FuncId) [AV.i IntKind.u8 (byt s i_2.toNat)] (AV.b (isMrk (byt s i_2.toNat)))) ∧ ((AV.b !isMrk (byt s i_2.toNat)) = AV.b (decide ¬isMrk (byt s i_2.toNat) = true)) ∧ (AV.b (decide ¬isMrk (byt s i_2.toNat) = true) = AV.b false) ∧ (AV.b (i_2 == (0 : Int)) = AV.b false) ∧ (AV.i IntKind.i64 (IntKind.i64.wrap ((↑s.size : Int) - (1 : Int))) = AV.i IntKind.i64 ((↑s.size : Int) - (1 : Int))) ∧ (AV.b (i_2 == (↑s.size : Int) - (1 : Int)) = AV.b true) ∧ (AV.b true = AV.b (decide (¬isMrk (byt s i_2.toNat) = true ∨ i_2 = (0 : Int) ∨ i_2 = (↑s.size : Int) - (1 : Int) ∨ isMrk (byt s (i_2 - (1 : Int)).toNat) = true)))) (σ' := ⟨[(0, .s (s)), (12, .i .i64 ((↑s.size : Int))), (13, .i .i64 (i_2)), (4, .i .i64 (i_2)), (45, .b (decide (¬isMrk (byt s i_2.toNat) = true ∨ i_2 = (0 : Int) ∨ i_2 = (↑s.size : Int) - (1 : Int) ∨ isMrk (byt s (i_2 - (1 : Int)).toNat) = true)))], []⟩) cx [(1, { val := some (.b (isMrk (byt s i_2.toNat))) }), (2, { tell := some (.b (decide ¬isMrk (byt s i_2.toNat) = true)) }), (3, { tell := some (.b (false)) }), (5, { tell := some (.b (false)) }), (11, { tell := some (.i .i64 ((↑s.size : Int) - (1 : Int))) }), (12, { tell := some (.b (true)) }), (20, { tell := some (.b (decide (¬isMrk (byt s i_2.toNat) = true ∨ i_2 = (0 : Int) ∨ i_2 = (↑s.size : Int) - (1 : Int) ∨ isMrk (byt s (i_2 - (1 : Int)).toNat) = true))) })] [0, 12, 13, 4, 45] [] (by kernel_rfl) (by kernel_rfl) ⟨(con91 (byt s i_2.toNat)), (told_not), (told_false h_14), (told_false h_16), (told_i64 (by omega) (by omega)), (told_true h_18), (by simp only [eq_false h_14, eq_false h_16, eq_true h_18, told_simp1, told_simp2, and_true, true_and, and_false, false_and, or_true, true_or, or_false, false_or, not_true_eq_false, not_false_eq_true, decide_true, decide_false, Bool.decide_eq_true])⟩ ?_
                    exact ⟨rfl, rfl⟩
                  ·
                    have hl_20 := (rng_byt s (i_2 - (1 : Int)).toNat)
                    refine st_reg (A := (Con Try.prog (91 : FuncId) [AV.i IntKind.u8 (byt s i_2.toNat)] (AV.b (isMrk (byt s i_2.toNat)))) ∧ ((AV.b !isMrk (byt s i_2.toNat)) = AV.b (decide ¬isMrk (byt s i_2.toNat) = true)) ∧ (AV.b (decide ¬isMrk (byt s i_2.toNat) = true) = AV.b false) ∧ (AV.b (i_2 == (0 : Int)) = AV.b false) ∧ (AV.i IntKind.i64 (IntKind.i64.wrap ((↑s.size : Int) - (1 : Int))) = AV.i IntKind.i64 ((↑s.size : Int) - (1 : Int))) ∧ (AV.b (i_2 == (↑s.size : Int) - (1 : Int)) = AV.b false) ∧ (AV.i IntKind.i64 (IntKind.i64.wrap (i_2 - (1 : Int))) = AV.i IntKind.i64 (i_2 - (1 : Int))) ∧ ((0 : Int) ≤ i_2 - (1 : Int)) ∧ (Option.map (fun b ↦ (↑b.toNat : Int)) s[(i_2 - (1 : Int)).toNat]? = some (byt s (i_2 - (1 : Int)).toNat)) ∧ (Con Try.prog (91 : FuncId) [AV.i IntKind.u8 (byt s (i_2 - (1 : Int)).toNat)] (AV.b (isMrk (byt s (i_2 - (1 : Int)).toNat)))) ∧ (AV.b (isMrk (byt s (i_2 - (1 : Int)).toNat)) = AV.b (decide (¬isMrk (byt s i_2.toNat) = true ∨ i_2 = (0 : Int) ∨ i_2 = (↑s.size : Int) - (1 : Int) ∨ isMrk (byt s (i_2 - (1 : Int)).toNat) = true)))) (σ' := ⟨[(0, .s (s)), (12, .i .i64 ((↑s.size : Int))), (13, .i .i64 (i_2)), (4, .i .i64 (i_2)), (45, .b (decide (¬isMrk (byt s i_2.toNat) = true ∨ i_2 = (0 : Int) ∨ i_2 = (↑s.size : Int) - (1 : Int) ∨ isMrk (byt s (i_2 - (1 : Int)).toNat) = true)))], []⟩) cx [(1, { val := some (.b (isMrk (byt s i_2.toNat))) }), (2, { tell := some (.b (decide ¬isMrk (byt s i_2.toNat) = true)) }), (3, { tell := some (.b (false)) }), (5, { tell := some (.b (false)) }), (11, { tell := some (.i .i64 ((↑s.size : Int) - (1 : Int))) }), (12, { tell := some (.b (false)) }), (17, { tell := some (.i .i64 (i_2 - (1 : Int))) }), (18, { val := some (.i .u8 (byt s (i_2 - (1 : Int)).toNat)) }), (19, { val := some (.b (isMrk (byt s (i_2 - (1 : Int)).toNat))) }), (20, { tell := some (.b (decide (¬isMrk (byt s i_2.toNat) = true ∨ i_2 = (0 : Int) ∨ i_2 = (↑s.size : Int) - (1 : Int) ∨ isMrk (byt s (i_2 - (1 : Int)).toNat) = true))) })] [0, 12, 13, 4, 45] [] (by kernel_rfl) (by kernel_rfl) ⟨(con91 (byt s i_2.toNat)), (told_not), (told_false h_14), (told_false h_16), (told_i64 (by omega) (by omega)), (told_false h_18), (told_i64 (by omega) (by omega)), (by omega), (by (with_reducible refine get_byt ?_; omega)), (con91 (byt s (i_2 - (1 : Int)).toNat)), (by simp only [eq_false h_14, eq_false h_16, eq_false h_18, told_simp1, told_simp2, and_true, true_and, and_false, false_and, or_true, true_or, or_false, false_or, not_true_eq_false, not_false_eq_true, decide_true, decide_false, Bool.decide_eq_true])⟩ ?_
                    exact ⟨rfl, rfl⟩
            ·
              refine q_seq_normal ?_
              refine st_dec (¬isMrk (byt s i_2.toNat) = true ∨ i_2 = (0 : Int) ∨ i_2 = (↑s.size : Int) - (1 : Int) ∨ isMrk (byt s (i_2 - (1 : Int)).toNat) = true) (by kernel_rfl) (by kernel_rfl) (fun h_21 => ?_) (fun h_21 => ?_)
              ·
                refine st_seq (by kernel_rfl) ?_
                refine st_reg (A := True) (σ' := ⟨[(2, .i .i64 (i_2)), (3, .i .i64 ((22 : Int)))], []⟩) cx [] [2, 3] [] (by kernel_rfl) (by kernel_rfl) trivial ?_
                refine q_seq_normal ?_
                refine st_ret (by kernel_rfl) ?_
                refine q_blk_ret ?_
                refine q_seq_ret ?_
                refine q_seq_ret ?_
                refine q_blk_ret ?_
                refine q_seq_ret ?_
                exact q_ret (r := .tup [.i .i64 (i_2), .i .i64 ((22 : Int))]) (obl := []) (by kernel_rfl) trivial (AVle.tup (ZLe.cons AVle.dead (ZLe.cons (AVle.eq (g4 h_0 h_1 i_2 h_4 h_5 h_6 h_7 h_12 h_21)) ZLe.nil)))
              ·
                refine st_skip (by kernel_rfl) ?_
                refine q_blk_normal ?_
                refine q_seq_normal ?_
                refine st_reg (A := (AV.i IntKind.i64 (IntKind.i64.wrap (i_2 + (1 : Int))) = AV.i IntKind.i64 (i_2 + (1 : Int)))) (σ' := ⟨[(0, .s (s)), (12, .i .i64 ((↑s.size : Int))), (13, .i .i64 (i_2 + (1 : Int)))], []⟩) cx [(0, { tell := some (.i .i64 (i_2 + (1 : Int))) })] [0, 12, 13] [] (by kernel_rfl) (by kernel_rfl) (told_i64 (by omega) (by omega)) ?_
                refine q_seq_normal ?_
                exact loop_next (i_2 + (1 : Int)) (by kernel_rfl) (show ((↑s.size : Int) - (i_2 + (1 : Int))).toNat < ((↑s.size : Int) - i_2).toNat from (by omega)) (g5 h_0 h_1 i_2 h_4 h_5 h_6 h_7 h_12 h_21)
      ·
        refine st_exit 0 (by kernel_rfl) ?_
        refine q_seq_exit ?_
        refine q_seq_exit ?_
        refine q_blk_hit ?_
        refine q_seq_normal ?_
        refine st_seq (by kernel_rfl) ?_
        refine st_reg (A := True) (σ' := ⟨[(2, .i .i64 ((0 : Int))), (3, .i .i64 ((0 : Int)))], []⟩) cx [] [2, 3] [] (by kernel_rfl) (by kernel_rfl) trivial ?_
        refine q_seq_normal ?_
        refine st_ret (by kernel_rfl) ?_
        exact q_ret (r := .tup [.i .i64 ((0 : Int)), .i .i64 ((0 : Int))]) (obl := []) (by kernel_rfl) trivial (AVle.tup (ZLe.cons AVle.dead (ZLe.cons (AVle.eq (g6 h_0 h_1 i_2 h_4 h_5 h_6 h_7)) ZLe.nil)))
theorem con70 (s : ByteArray) : Con Try.prog 70 [.s s] (.tup [.dead, .i .i64 (chkE s)]) :=
  by
  refine walk70 s (fun h => ?_) (fun h k => ?_) (fun h k => ⟨by omega, by omega, fun j hj => by omega⟩) (fun h k i h0 h1 h2 h3 h4 => ?_) (fun h k i h0 h1 h2 h3 h4 h5 => ?_) (fun h k i h0 h1 h2 h3 h4 h5 => ?_) (fun h k i h0 h1 h2 h3 => ?_)
  · rw [chkE, if_pos ((size_zero s).2 h)]
  · rw [chkE, if_neg (fun e => h ((size_zero s).1 e)), if_pos (by omega)]
  · exact invG_step h0 h3 h2 ((stands_iff _ _).2 (h4.elim .inl fun h => .inr (.inl h)))
  · rw [chkE_bad (fun e => h ((size_zero s).1 e)) (by omega) (i := i.toNat) (by omega) (not_stands _)]
    have e : (i - 1).toNat = i.toNat - 1 := by omega
    rw [e] at h5
    rw [stands_iff]; rintro (a | a | a)
    · exact h4 (.inl a)
    · exact h4 (.inr a)
    · rcases h5 with h5 | h5 | h5 | h5
      · exact h5 a.1
      · omega
      · omega
      · exact a.2.2.2 h5
  · have e : (i - 1).toNat = i.toNat - 1 := by omega
    rw [e] at h5
    refine invG_step h0 h3 h2 ((stands_iff _ _).2 (.inr (.inr ⟨Classical.byContradiction fun a => h5 (.inl a), ?_, ?_, fun a => h5 (.inr (.inr (.inr a)))⟩)))
    · intro a; exact h5 (.inr (.inl (by omega)))
    · intro a; exact h5 (.inr (.inr (.inl (by omega))))
  · rw [chkE_ok (fun e => h ((size_zero s).1 e)) (by omega) fun j hj => h2 j (by omega)]
theorem walk71 (s : ByteArray)
    (g0 : (↑s.size : Int) = (0 : Int) → AV.i IntKind.i64 (20 : Int) = AV.i IntKind.i64 (chkE s))
    (g1 : ¬(↑s.size : Int) = (0 : Int) → (24 : Int) < (↑s.size : Int) → AV.i IntKind.i64 (21 : Int) = AV.i IntKind.i64 (chkE s))
    (g2 : ¬(↑s.size : Int) = (0 : Int) → ¬(24 : Int) < (↑s.size : Int) → invG s (0 : Int))
    (g3 : ¬(↑s.size : Int) = (0 : Int) → ¬(24 : Int) < (↑s.size : Int) → ∀ (i_2 : Int), (0 : Int) ≤ i_2 → i_2 ≤ (↑s.size : Int) → (∀ (j : Nat), (↑j : Int) < i_2 → standsB s j = true) → i_2 < (↑s.size : Int) → ¬standsB s i_2.toNat = true → AV.i IntKind.i64 (22 : Int) = AV.i IntKind.i64 (chkE s))
    (g4 : ¬(↑s.size : Int) = (0 : Int) → ¬(24 : Int) < (↑s.size : Int) → ∀ (i_2 : Int), (0 : Int) ≤ i_2 → i_2 ≤ (↑s.size : Int) → (∀ (j : Nat), (↑j : Int) < i_2 → standsB s j = true) → i_2 < (↑s.size : Int) → ¬¬standsB s i_2.toNat = true → invG s (i_2 + (1 : Int)))
    (g5 : ¬(↑s.size : Int) = (0 : Int) → ¬(24 : Int) < (↑s.size : Int) → ∀ (i_2 : Int), (0 : Int) ≤ i_2 → i_2 ≤ (↑s.size : Int) → (∀ (j : Nat), (↑j : Int) < i_2 → standsB s j = true) → ¬i_2 < (↑s.size : Int) → AV.i IntKind.i64 (0 : Int) = AV.i IntKind.i64 (chkE s)) :
    Con Try.prog (71 : FuncId) [AV.s s] (AV.tup [AV.dead, AV.i IntKind.i64 (chkE s)]) := by
  refine st_con tab_ok (by kernel_rfl) [.tmp 2, .tmp 3] 22 Go.Proofs.Try.func71 (by kernel_rfl) (by kernel_rfl) ?_
  intro e0 cx
  refine st_seq (by kernel_rfl) ?_
  refine st_reg (A := True) (σ' := ⟨[(0, .s (s))], []⟩) cx [] [0] [] (by kernel_rfl) (by kernel_rfl) trivial ?_
  refine q_seq_normal ?_
  refine st_seq (by kernel_rfl) ?_
  refine st_seq (by kernel_rfl) ?_
  refine st_reg (A := (AV.b ((↑s.size : Int) == (0 : Int)) = AV.b (decide ((↑s.size : Int) = (0 : Int))))) (σ' := ⟨[(0, .s (s)), (7, .b (decide ((↑s.size : Int) = (0 : Int))))], []⟩) cx [(2, { tell := some (.b (decide ((↑s.size : Int) = (0 : Int)))) })] [0, 7] [] (by kernel_rfl) (by kernel_rfl) (by kernel_rfl) ?_
  refine q_seq_normal ?_
  refine st_dec ((↑s.size : Int) = (0 : Int)) (by kernel_rfl) (by kernel_rfl) (fun h_0 => ?_) (fun h_0 => ?_)
  ·
    refine st_seq (by kernel_rfl) ?_
    refine st_reg (A := True) (σ' := ⟨[(2, .i .i64 ((0 : Int))), (3, .i .i64 ((20 : Int)))], []⟩) cx [] [2, 3] [] (by kernel_rfl) (by kernel_rfl) trivial ?_
    refine q_seq_normal ?_
    refine st_ret (by kernel_rfl) ?_
    refine q_seq_ret ?_
    exact q_ret (r := .tup [.i .i64 ((0 : Int)), .i .i64 ((20 : Int))]) (obl := []) (by kernel_rfl) trivial (AVle.tup (ZLe.cons AVle.dead (ZLe.cons (AVle.eq (g0 h_0)) ZLe.nil)))
  ·
    refine st_skip (by kernel_rfl) ?_
    refine q_seq_normal ?_
    refine st_seq (by kernel_rfl) ?_
    refine st_seq (by kernel_rfl) ?_
    refine st_reg (A := (AV.b (decide ((↑s.size : Int) > (24 : Int))) = AV.b (decide ((24 : Int) < (↑s.size : Int))))) (σ' := ⟨[(0, .s (s)), (10, .b (decide ((24 : Int) < (↑s.size : Int))))], []⟩) cx [(2, { tell := some (.b (decide ((24 : Int) < (↑s.size : Int)))) })] [0, 10] [] (by kernel_rfl) (by kernel_rfl) (by kernel_rfl) ?_
    refine q_seq_normal ?_
    refine st_dec ((24 : Int) < (↑s.size : Int)) (by kernel_rfl) (by kernel_rfl) (fun h_1 => ?_) (fun h_1 => ?_)
    ·
      refine st_seq (by kernel_rfl) ?_
      refine st_reg (A := True) (σ' := ⟨[(2, .i .i64 ((0 : Int))), (3, .i .i64 ((21 : Int)))], []⟩) cx [] [2, 3] [] (by kernel_rfl) (by kernel_rfl) trivial ?_
      refine q_seq_normal ?_
      refine st_ret (by kernel_rfl) ?_
      refine q_seq_ret ?_
      exact q_ret (r := .tup [.i .i64 ((0 : Int)), .i .i64 ((21 : Int))]) (obl := []) (by kernel_rfl) trivial (AVle.tup (ZLe.cons AVle.dead (ZLe.cons (AVle.eq (g1 h_0 h_1)) ZLe.nil)))
    ·
      refine st_skip (by kernel_rfl) ?_
      refine q_seq_normal ?_
      refine st_seq (by kernel_rfl) ?_
      refine st_seq (by kernel_rfl) ?_
      refine st_reg (A := True) (σ' := ⟨[(0, .s (s)), (4, .i .i64 ((0 : Int)))], []⟩) cx [] [0, 4] [] (by kernel_rfl) (by kernel_rfl) trivial ?_
      refine q_seq_normal ?_
      refine st_block 0 (by kernel_rfl) ?_
      refine st_loop (X := Int) (fun x => ⟨[(0, .s (s)), (4, .i .i64 (x))], []⟩) (fun x ↦ decG s x) (fun x ↦ invG s x) [0, 4] [] ((0 : Int)) (by kernel_rfl) (by kernel_rfl) (g2 h_0 h_1) ?_
      intro i_2 h_3
      obtain ⟨h_4, h_5, h_6⟩ : (0 : Int) ≤ i_2 ∧ i_2 ≤ (↑s.size : Int) ∧ ∀ (j : Nat), (↑j : Int) < i_2 → standsB s j = true := h_3
      refine st_seq (by kernel_rfl) ?_
      refine st_seq (by kernel_rfl) ?_
      refine st_reg (A := (AV.b (decide (i_2 < (↑s.size : Int))) = AV.b (decide (i_2 < (↑s.size : Int))))) (σ' := ⟨[(0, .s (s)), (4, .i .i64 (i_2)), (14, .b (decide (i_2 < (↑s.size : Int))))], []⟩) cx [(3, { tell := some (.b (decide (i_2 < (↑s.size : Int)))) })] [0, 4, 14] [] (by kernel_rfl) (by kernel_rfl) (by kernel_rfl) ?_
      refine q_seq_normal ?_
      refine st_dec (i_2 < (↑s.size : Int)) (by kernel_rfl) (by kernel_rfl) (fun h_7 => ?_) (fun h_7 => ?_)
      ·
        refine st_skip (by kernel_rfl) ?_
        refine q_seq_normal ?_
        refine st_seq (by kernel_rfl) ?_
        refine st_block 1 (by kernel_rfl) ?_
        refine st_seq (by kernel_rfl) ?_
        refine st_reg (A := (Con Try.prog (92 : FuncId) [AV.s s, AV.i IntKind.i64 i_2] (AV.b (standsB s i_2.toNat))) ∧ ((AV.b !standsB s i_2.toNat) = AV.b (decide ¬standsB s i_2.toNat = true))) (σ' := ⟨[(0, .s (s)), (4, .i .i64 (i_2)), (20, .b (decide ¬standsB s i_2.toNat = true))], []⟩) cx [(2, { val := some (.b (standsB s i_2.toNat)) }), (3, { tell := some (.b (decide ¬standsB s i_2.toNat = true)) })] [0, 4, 20] [] (by kernel_rfl) (by kernel_rfl) ⟨(con92 (s) (i_2) (by (with_reducible assumption)) (by (with_reducible assumption)) (by omega)), (told_not)⟩ ?_
        refine q_seq_normal ?_
        refine st_dec (¬standsB s i_2.toNat = true) (by kernel_rfl) (by kernel_rfl) (fun h_8 => ?_) (fun h_8 => ?_)
        ·
          refine st_seq (by kernel_rfl) ?_
          refine st_reg (A := True) (σ' := ⟨[(2, .i .i64 (i_2)), (3, .i .i64 ((22 : Int)))], []⟩) cx [] [2, 3] [] (by kernel_rfl) (by kernel_rfl) trivial ?_
          refine q_seq_normal ?_
          refine st_ret (by kernel_rfl) ?_
          refine q_blk_ret ?_
          refine q_seq_ret ?_
          refine q_seq_ret ?_
          refine q_blk_ret ?_
          refine q_seq_ret ?_
          exact q_ret (r := .tup [.i .i64 (i_2), .i .i64 ((22 : Int))]) (obl := []) (by kernel_rfl) trivial (AVle.tup (ZLe.cons AVle.dead (ZLe.cons (AVle.eq (g3 h_0 h_1 i_2 h_4 h_5 h_6 h_7 h_8)) ZLe.nil)))
        ·
          refine st_skip (by kernel_rfl) ?_
          refine q_blk_normal ?_
          refine q_seq_normal ?_
          refine st_reg (A := (AV.i IntKind.i64 (IntKind.i64.wrap (i_2 + (1 : Int))) = AV.i IntKind.i64 (i_2 + (1 : Int)))) (σ' := ⟨[(0, .s (s)), (4, .i .i64 (i_2 + (1 : Int)))], []⟩) cx [(1, { tell := some (.i .i64 (i_2 + (1 : Int))) })] [0, 4] [] (by kernel_rfl) (by kernel_rfl) (told_i64 (by omega) (by omega)) ?_
          refine q_seq_normal ?_
          exact loop_next (i_2 + (1 : Int)) (by kernel_rfl) (show ((↑s.size : Int) - (i_2 + (1 : Int))).toNat < ((↑s.size : Int) - i_2).toNat from (by omega)) (g4 h_0 h_1 i_2 h_4 h_5 h_6 h_7 h_8)
      ·
        refine st_exit 0 (by kernel_rfl) ?_
        refine q_seq_exit ?_
        refine q_seq_exit ?_
        refine q_blk_hit ?_
        refine q_seq_normal ?_
        refine st_seq (by kernel_rfl) ?_
        refine st_reg (A := True) (σ' := ⟨[(2, .i .i64 ((0 : Int))), (3, .i .i64 ((0 : Int)))], []⟩) cx [] [2, 3] [] (by kernel_rfl) (by kernel_rfl) trivial ?_
        refine q_seq_normal ?_
        refine st_ret (by kernel_rfl) ?_
        exact q_ret (r := .tup [.i .i64 ((0 : Int)), .i .i64 ((0 : Int))]) (obl := []) (by kernel_rfl) trivial (AVle.tup (ZLe.cons AVle.dead (ZLe.cons (AVle.eq (g5 h_0 h_1 i_2 h_4 h_5 h_6 h_7)) ZLe.nil)))
theorem con71 (s : ByteArray) : Con Try.prog 71 [.s s] (.tup [.dead, .i .i64 (chkE s)]) :=
  by
  refine walk71 s (fun h => ?_) (fun h k => ?_) (fun h k => ⟨by omega, by omega, fun j hj => by omega⟩) (fun h k i h0 h1 h2 h3 h4 => ?_) (fun h k i h0 h1 h2 h3 h4 => ?_) (fun h k i h0 h1 h2 h3 => ?_)
  · rw [chkE, if_pos (by omega)]
  · rw [chkE, if_neg (by omega), if_pos (by omega)]
  · rw [chkE_bad (by omega) (by omega) (i := i.toNat) (by omega) (not_stands h4)]
  · exact invG_step h0 h3 h2 (Classical.not_not.1 h4)
  · rw [chkE_ok (by omega) (by omega) fun j hj => h2 j (by omega)]
theorem walk47 (s : ByteArray)
    (g0 : AV.b (decide (chkE s = (0 : Int))) = AV.b (good s)) :
    Con Try.prog (47 : FuncId) [AV.s s] (AV.b (good s)) := by
  refine st_con tab_ok (by kernel_rfl) [.tmp 2] 12 Go.Proofs.Try.func47 (by kernel_rfl) (by kernel_rfl) ?_
  intro e0 cx
  refine st_seq (by kernel_rfl) ?_
  refine st_reg (A := True) (σ' := ⟨[(0, .s (s))], []⟩) cx [] [0] [] (by kernel_rfl) (by kernel_rfl) trivial ?_
  refine q_seq_normal ?_
  refine st_seq (by kernel_rfl) ?_
  refine st_reg (A := (Con Try.prog (70 : FuncId) [AV.s s] (AV.tup [AV.dead, AV.i IntKind.i64 (chkE s)]))) (σ' := ⟨[(4, .i .i64 (chkE s))], []⟩) cx [(1, { val := some (.tup [.dead, .i .i64 (chkE s)]) })] [4] [] (by kernel_rfl) (by kernel_rfl) (con70 (s)) ?_
  refine q_seq_normal ?_
  refine st_seq (by kernel_rfl) ?_
  refine st_reg (A := (AV.b (chkE s == (0 : Int)) = AV.b (decide (chkE s = (0 : Int))))) (σ' := ⟨[(2, .b (decide (chkE s = (0 : Int))))], []⟩) cx [(1, { tell := some (.b (decide (chkE s = (0 : Int)))) })] [2] [] (by kernel_rfl) (by kernel_rfl) (by kernel_rfl) ?_
  refine q_seq_normal ?_
  refine st_ret (by kernel_rfl) ?_
  exact q_ret (r := .b (decide (chkE s = (0 : Int)))) (obl := []) (by kernel_rfl) trivial (AVle.eq g0)
theorem con47 (s : ByteArray) : Con Try.prog 47 [.s s] (.b (good s)) :=
  walk47 s rfl
theorem walk50 (s : ByteArray)
    (g0 : AV.b (decide (chkE s = (0 : Int))) = AV.b (good s)) :
    Con Try.prog (50 : FuncId) [AV.s s] (AV.b (good s)) := by
  refine st_con tab_ok (by kernel_rfl) [.tmp 2] 12 Go.Proofs.Try.func50 (by kernel_rfl) (by kernel_rfl) ?_
  intro e0 cx
  refine st_seq (by kernel_rfl) ?_
  refine st_reg (A := True) (σ' := ⟨[(0, .s (s))], []⟩) cx [] [0] [] (by kernel_rfl) (by kernel_rfl) trivial ?_
  refine q_seq_normal ?_
  refine st_seq (by kernel_rfl) ?_
  refine st_reg (A := (Con Try.prog (71 : FuncId) [AV.s s] (AV.tup [AV.dead, AV.i IntKind.i64 (chkE s)]))) (σ' := ⟨[(4, .i .i64 (chkE s))], []⟩) cx [(1, { val := some (.tup [.dead, .i .i64 (chkE s)]) })] [4] [] (by kernel_rfl) (by kernel_rfl) (con71 (s)) ?_
  refine q_seq_normal ?_
  refine st_seq (by kernel_rfl) ?_
  refine st_reg (A := (AV.b (chkE s == (0 : Int)) = AV.b (decide (chkE s = (0 : Int))))) (σ' := ⟨[(2, .b (decide (chkE s = (0 : Int))))], []⟩) cx [(1, { tell := some (.b (decide (chkE s = (0 : Int)))) })] [2] [] (by kernel_rfl) (by kernel_rfl) (by kernel_rfl) ?_
  refine q_seq_normal ?_
  refine st_ret (by kernel_rfl) ?_
  exact q_ret (r := .b (decide (chkE s = (0 : Int)))) (obl := []) (by kernel_rfl) trivial (AVle.eq g0)
theorem con50 (s : ByteArray) : Con Try.prog 50 [.s s] (.b (good s)) :=
  walk50 s rfl
end Go.Proofs.Ytjngmlkaijpbgaa
