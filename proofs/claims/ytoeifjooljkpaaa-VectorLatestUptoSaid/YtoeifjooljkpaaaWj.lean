/- Wj: walks, written by a program of this claim's own, and what each function hands back. Conditions: none. -/
import Derived.Test.YtoeifjooljkpaaaWf
import Derived.Test.YtoeifjooljkpaaaEP
set_option linter.unusedVariables false
set_option linter.unusedSimpArgs false
namespace Go.Proofs.Ytoeifjooljkpaaa
open Go.E
set_option maxRecDepth 100000
set_option maxHeartbeats 4000000
theorem walk23 (v : List Int) (rep : Int) (n : Int)
    (g0 : rep < (0 : Int) ∨ (16 : Int) ≤ rep → AV.i IntKind.i64 (3 : Int) = AV.i IntKind.i64 (putV v rep n).snd)
    (g1 : rep < (0 : Int) ∨ (16 : Int) ≤ rep → List.map c3 (putV v rep n).fst = [])
    (g2 : ¬(rep < (0 : Int) ∨ (16 : Int) ≤ rep) → n < (0 : Int) ∨ (1000000000 : Int) < n → AV.i IntKind.i64 (2 : Int) = AV.i IntKind.i64 (putV v rep n).snd)
    (g3 : ¬(rep < (0 : Int) ∨ (16 : Int) ≤ rep) → n < (0 : Int) ∨ (1000000000 : Int) < n → List.map c3 (putV v rep n).fst = [])
    (g4 : ¬(rep < (0 : Int) ∨ (16 : Int) ≤ rep) → ¬(n < (0 : Int) ∨ (1000000000 : Int) < n) → AV.i IntKind.i64 (0 : Int) = AV.i IntKind.i64 (putV v rep n).snd)
    (g5 : ¬(rep < (0 : Int) ∨ (16 : Int) ≤ rep) → ¬(n < (0 : Int) ∨ (1000000000 : Int) < n) → AV.sl (List.map c3 (short ((of v).setIfInBounds rep.toNat n))) = AV.sl (List.map c3 (putV v rep n).fst)) :
    Con Try.prog (23 : FuncId) [AV.sl (List.map c3 v), AV.i IntKind.i64 rep, AV.i IntKind.i64 n] (AV.tup [AV.sl (List.map c3 (putV v rep n).fst), AV.i IntKind.i64 (putV v rep n).snd]) := by
  refine con_lens 0 (c3) (v) (by kernel_rfl) Go.Proofs.Try.func23 (by kernel_rfl) fun hl_0 => ?_
  refine st_con tab_ok (by kernel_rfl) [.tmp 6, .tmp 7] 28 Go.Proofs.Try.func23 (by kernel_rfl) (by kernel_rfl) ?_
  intro e0 cx
  refine st_seq (by kernel_rfl) ?_
  refine st_reg (A := True) (σ' := ⟨[(0, .sl (List.map c3 v)), (1, .i .i64 (rep)), (2, .i .i64 (n))], []⟩) cx [] [0, 1, 2] [] (by kernel_rfl) (by kernel_rfl) trivial ?_
  refine q_seq_normal ?_
  refine st_seq (by kernel_rfl) ?_
  refine st_seq (by kernel_rfl) ?_
  refine st_join (σ' := ⟨[(0, .sl (List.map c3 v)), (1, .i .i64 (rep)), (2, .i .i64 (n)), (14, .b (decide (rep < (0 : Int) ∨ (16 : Int) ≤ rep)))], []⟩) ?_ ?_
  ·
    refine st_split (rep < (0 : Int)) (fun h_1 => ?_) (fun h_1 => ?_)
    ·
      refine st_reg (A := (AV.b (decide (rep < (0 : Int))) = AV.b true) ∧ (AV.b true = AV.b (decide (rep < (0 : Int) ∨ (16 : Int) ≤ rep)))) (σ' := ⟨[(0, .sl (List.map c3 v)), (1, .i .i64 (rep)), (2, .i .i64 (n)), (14, .b (decide (rep < (0 : Int) ∨ (16 : Int) ≤ rep)))], []⟩) cx [(1, { tell := some (.b (true)) }), (5, { tell := some (.b (decide (rep < (0 : Int) ∨ (16 : Int) ≤ rep))) })] [0, 1, 2, 14] [] (by kernel_rfl) (by kernel_rfl) ⟨(told_true h_1), (by simp only [eq_true h_1, told_simp1, told_simp2, and_true, true_and, and_false, false_and, or_true, true_or, or_false, false_or, not_true_eq_false, not_false_eq_true, decide_true, decide_false, Bool.decide_eq_true])⟩ ?_
      exact ⟨rfl, rfl⟩
    ·
      refine st_reg (A := (AV.b (decide (rep < (0 : Int))) = AV.b false) ∧ (AV.b (decide (rep ≥ (16 : Int))) = AV.b (decide ((16 : Int) ≤ rep))) ∧ (AV.b (decide ((16 : Int) ≤ rep)) = AV.b (decide (rep < (0 : Int) ∨ (16 : Int) ≤ rep)))) (σ' := ⟨[(0, .sl (List.map c3 v)), (1, .i .i64 (rep)), (2, .i .i64 (n)), (14, .b (decide (rep < (0 : Int) ∨ (16 : Int) ≤ rep)))], []⟩) cx [(1, { tell := some (.b (false)) }), (4, { tell := some (.b (decide ((16 : Int) ≤ rep))) }), (5, { tell := some (.b (decide (rep < (0 : Int) ∨ (16 : Int) ≤ rep))) })] [0, 1, 2, 14] [] (by kernel_rfl) (by kernel_rfl) ⟨(told_false h_1), (by kernel_rfl), (by simp only [eq_false h_1, told_simp1, told_simp2, and_true, true_and, and_false, false_and, or_true, true_or, or_false, false_or, not_true_eq_false, not_false_eq_true, decide_true, decide_false, Bool.decide_eq_true])⟩ ?_
      exact ⟨rfl, rfl⟩
  ·
    refine q_seq_normal ?_
    refine st_dec (rep < (0 : Int) ∨ (16 : Int) ≤ rep) (by kernel_rfl) (by kernel_rfl) (fun h_2 => ?_) (fun h_2 => ?_)
    ·
      refine st_seq (by kernel_rfl) ?_
      refine st_reg (A := True) (σ' := ⟨[(6, .nl), (7, .i .i64 ((3 : Int)))], []⟩) cx [] [6, 7] [] (by kernel_rfl) (by kernel_rfl) trivial ?_
      refine q_seq_normal ?_
      refine st_ret (by kernel_rfl) ?_
      refine q_seq_ret ?_
      exact q_ret (r := .tup [.nl, .i .i64 ((3 : Int))]) (obl := []) (by kernel_rfl) trivial (AVle.tup (ZLe.cons (AVle.nl' (g1 h_2)) (ZLe.cons (AVle.eq (g0 h_2)) ZLe.nil)))
    ·
      refine st_skip (by kernel_rfl) ?_
      refine q_seq_normal ?_
      refine st_seq (by kernel_rfl) ?_
      refine st_seq (by kernel_rfl) ?_
      refine st_join (σ' := ⟨[(0, .sl (List.map c3 v)), (1, .i .i64 (rep)), (2, .i .i64 (n)), (20, .b (decide (n < (0 : Int) ∨ (1000000000 : Int) < n)))], []⟩) ?_ ?_
      ·
        refine st_split (n < (0 : Int)) (fun h_4 => ?_) (fun h_4 => ?_)
        ·
          refine st_reg (A := (AV.b (decide (n < (0 : Int))) = AV.b true) ∧ (AV.b true = AV.b (decide (n < (0 : Int) ∨ (1000000000 : Int) < n)))) (σ' := ⟨[(0, .sl (List.map c3 v)), (1, .i .i64 (rep)), (2, .i .i64 (n)), (20, .b (decide (n < (0 : Int) ∨ (1000000000 : Int) < n)))], []⟩) cx [(1, { tell := some (.b (true)) }), (5, { tell := some (.b (decide (n < (0 : Int) ∨ (1000000000 : Int) < n))) })] [0, 1, 2, 20] [] (by kernel_rfl) (by kernel_rfl) ⟨(told_true h_4), (by simp only [eq_true h_4, told_simp1, told_simp2, and_true, true_and, and_false, false_and, or_true, true_or, or_false, false_or, not_true_eq_false, not_false_eq_true, decide_true, decide_false, Bool.decide_eq_true])⟩ ?_
          exact ⟨rfl, rfl⟩
        ·
          refine st_reg (A := (AV.b (decide (n < (0 : Int))) = AV.b false) ∧ (AV.b (decide (n > (1000000000 : Int))) = AV.b (decide ((1000000000 : Int) < n))) ∧ (AV.b (decide ((1000000000 : Int) < n)) = AV.b (decide (n < (0 : Int) ∨ (1000000000 : Int) < n)))) (σ' := ⟨[(0, .sl (List.map c3 v)), (1, .i .i64 (rep)), (2, .i .i64 (n)), (20, .b (decide (n < (0 : Int) ∨ (1000000000 : Int) < n)))], []⟩) cx [(1, { tell := some (.b (false)) }), (4, { tell := some (.b (decide ((1000000000 : Int) < n))) }), (5, { tell := some (.b (decide (n < (0 : Int) ∨ (1000000000 : Int) < n))) })] [0, 1, 2, 20] [] (by kernel_rfl) (by kernel_rfl) ⟨(told_false h_4), (by kernel_rfl), (by simp only [eq_false h_4, told_simp1, told_simp2, and_true, true_and, and_false, false_and, or_true, true_or, or_false, false_or, not_true_eq_false, not_false_eq_true, decide_true, decide_false, Bool.decide_eq_true])⟩ ?_
          exact ⟨rfl, rfl⟩
      ·
        refine q_seq_normal ?_
        refine st_dec (n < (0 : Int) ∨ (1000000000 : Int) < n) (by kernel_rfl) (by kernel_rfl) (fun h_5 => ?_) (fun h_5 => ?_)
        ·
          refine st_seq (by kernel_rfl) ?_
          refine st_reg (A := True) (σ' := ⟨[(6, .nl), (7, .i .i64 ((2 : Int)))], []⟩) cx [] [6, 7] [] (by kernel_rfl) (by kernel_rfl) trivial ?_
          refine q_seq_normal ?_
          refine st_ret (by kernel_rfl) ?_
          refine q_seq_ret ?_
          exact q_ret (r := .tup [.nl, .i .i64 ((2 : Int))]) (obl := []) (by kernel_rfl) trivial (AVle.tup (ZLe.cons (AVle.nl' (g3 h_2 h_5)) (ZLe.cons (AVle.eq (g2 h_2 h_5)) ZLe.nil)))
        ·
          refine st_skip (by kernel_rfl) ?_
          refine q_seq_normal ?_
          refine st_seq (by kernel_rfl) ?_
          refine st_reg (A := (Con Try.prog (49 : FuncId) [AV.sl (List.map c3 v)] (AV.agg (c62 (of v)))) ∧ ((cA (AV.i IntKind.i64) (of v)).length = (cA (AV.i IntKind.i64) (Vector.replicate (16 : Nat) (0 : Int))).length) ∧ ((cA (AV.i IntKind.i64) (of v)).length = (16 : Nat))) (σ' := ⟨[(1, .i .i64 (rep)), (2, .i .i64 (n)), (8, .ptr (8) (0) (0) (0))], [(8, ⟨0, 62, .arr (cA (AV.i IntKind.i64) (of v))⟩)]⟩) cx [(1, { val := some (.agg (cA (AV.i IntKind.i64) (of v))) })] [1, 2, 8] [8] (by kernel_rfl) (by kernel_rfl) ⟨(con49 (v)), (by kernel_rfl), (by kernel_rfl)⟩ ?_
          refine q_seq_normal ?_
          refine st_seq (by kernel_rfl) ?_
          refine st_reg (A := ((0 : Int) ≤ rep) ∧ (rep < (↑(16 : Nat) : Int)) ∧ (rep.toNat * (1 : Nat) + 0 < (cA (AV.i IntKind.i64) (of v)).length) ∧ (cellsA (AV.i IntKind.i64 n) = [(cellsA (AV.i IntKind.i64 n)).headD AV.dead]) ∧ ((cA (AV.i IntKind.i64) (of v)).set (rep.toNat * (1 : Nat) + 0) ((cellsA (AV.i IntKind.i64 n)).headD AV.dead) = cA (AV.i IntKind.i64) ((of v).setIfInBounds rep.toNat n))) (σ' := ⟨[(8, .ptr (8) (0) (0) (0))], [(8, ⟨0, 62, .arr (cA (AV.i IntKind.i64) ((of v).setIfInBounds rep.toNat n))⟩)]⟩) cx [(3, { rows := some [(cA (AV.i IntKind.i64) ((of v).setIfInBounds rep.toNat n))] })] [8] [8] (by kernel_rfl) (by kernel_rfl) ⟨(by omega), (by omega), (by (simp only [List.length_set, List.length_map, List.length_append, List.length_replicate, List.length_cons, List.length_nil, Go.maxLen, Nat.mul_one, Nat.add_zero, Nat.zero_add, Nat.one_mul, len_cA]; omega)), (by kernel_rfl), (by (simp only [Nat.mul_one, Nat.add_zero, Nat.zero_add]; with_reducible refine set_cA ?_; kernel_rfl))⟩ ?_
          refine q_seq_normal ?_
          refine st_seq (by kernel_rfl) ?_
          refine st_reg (A := ((cA (AV.i IntKind.i64) ((of v).setIfInBounds rep.toNat n)).length = (16 : Nat)) ∧ (Con Try.prog (51 : FuncId) [AV.agg (c62 ((of v).setIfInBounds rep.toNat n))] (AV.sl (List.map c3 (short ((of v).setIfInBounds rep.toNat n)))))) (σ' := ⟨[(6, .sl (List.map c3 (short ((of v).setIfInBounds rep.toNat n)))), (7, .i .i64 ((0 : Int)))], []⟩) cx [(1, { val := some (.sl (List.map c3 (short ((of v).setIfInBounds rep.toNat n)))) })] [6, 7] [] (by kernel_rfl) (by kernel_rfl) ⟨(by (simp only [len_cA]; done)), (con51 ((of v).setIfInBounds rep.toNat n))⟩ ?_
          refine q_seq_normal ?_
          refine st_ret (by kernel_rfl) ?_
          exact q_ret (r := .tup [.sl (List.map c3 (short ((of v).setIfInBounds rep.toNat n))), .i .i64 ((0 : Int))]) (obl := []) (by kernel_rfl) trivial (AVle.tup (ZLe.cons (AVle.eq (g5 h_2 h_5)) (ZLe.cons (AVle.eq (g4 h_2 h_5)) ZLe.nil)))
theorem con23 (v : List Int) (rep n : Int) : Con Try.prog 23 [.sl (v.map c3), .i .i64 rep, .i .i64 n] (.tup [.sl ((putV v rep n).1.map c3), .i .i64 (putV v rep n).2]) :=
  by apply walk23 v rep n <;> intros <;> unfold putV <;> (repeat' split) <;> first | (exfalso; omega) | (simp only [List.map_nil]; done) | (dsimp only; done)
theorem walk22 (v : List Int) (rep : Int) (n : Int)
    (g0 : rep < (0 : Int) ∨ (16 : Int) ≤ rep → AV.i IntKind.i64 (3 : Int) = AV.i IntKind.i64 (putV v rep n).snd)
    (g1 : rep < (0 : Int) ∨ (16 : Int) ≤ rep → List.map c3 (putV v rep n).fst = [])
    (g2 : ¬(rep < (0 : Int) ∨ (16 : Int) ≤ rep) → n < (0 : Int) ∨ (1000000000 : Int) < n → AV.i IntKind.i64 (2 : Int) = AV.i IntKind.i64 (putV v rep n).snd)
    (g3 : ¬(rep < (0 : Int) ∨ (16 : Int) ≤ rep) → n < (0 : Int) ∨ (1000000000 : Int) < n → List.map c3 (putV v rep n).fst = [])
    (g4 : ¬(rep < (0 : Int) ∨ (16 : Int) ≤ rep) → ¬(n < (0 : Int) ∨ (1000000000 : Int) < n) → AV.i IntKind.i64 (0 : Int) = AV.i IntKind.i64 (putV v rep n).snd)
    (g5 : ¬(rep < (0 : Int) ∨ (16 : Int) ≤ rep) → ¬(n < (0 : Int) ∨ (1000000000 : Int) < n) → AV.sl (List.map c3 (short ((of v).setIfInBounds rep.toNat n))) = AV.sl (List.map c3 (putV v rep n).fst)) :
    Con Try.prog (22 : FuncId) [AV.sl (List.map c3 v), AV.i IntKind.i64 rep, AV.i IntKind.i64 n] (AV.tup [AV.sl (List.map c3 (putV v rep n).fst), AV.i IntKind.i64 (putV v rep n).snd]) := by
  refine con_lens 0 (c3) (v) (by kernel_rfl) Go.Proofs.Try.func22 (by kernel_rfl) fun hl_0 => ?_
  refine st_con tab_ok (by kernel_rfl) [.tmp 6, .tmp 7] 28 Go.Proofs.Try.func22 (by kernel_rfl) (by kernel_rfl) ?_
  intro e0 cx
  refine st_seq (by kernel_rfl) ?_
  refine st_reg (A := True) (σ' := ⟨[(0, .sl (List.map c3 v)), (1, .i .i64 (rep)), (2, .i .i64 (n))], []⟩) cx [] [0, 1, 2] [] (by kernel_rfl) (by kernel_rfl) trivial ?_
  refine q_seq_normal ?_
  refine st_seq (by kernel_rfl) ?_
  refine st_seq (by kernel_rfl) ?_
  refine st_join (σ' := ⟨[(0, .sl (List.map c3 v)), (1, .i .i64 (rep)), (2, .i .i64 (n)), (14, .b (decide (rep < (0 : Int) ∨ (16 : Int) ≤ rep)))], []⟩) ?_ ?_
  ·
    refine st_split (rep < (0 : Int)) (fun h_1 => ?_) (fun h_1 => ?_)
    ·
      refine st_reg (A := (AV.b (decide (rep < (0 : Int))) = AV.b true) ∧ (AV.b true = AV.b (decide (rep < (0 : Int) ∨ (16 : Int) ≤ rep)))) (σ' := ⟨[(0, .sl (List.map c3 v)), (1, .i .i64 (rep)), (2, .i .i64 (n)), (14, .b (decide (rep < (0 : Int) ∨ (16 : Int) ≤ rep)))], []⟩) cx [(1, { tell := some (.b (true)) }), (5, { tell := some (.b (decide (rep < (0 : Int) ∨ (16 : Int) ≤ rep))) })] [0, 1, 2, 14] [] (by kernel_rfl) (by kernel_rfl) ⟨(told_true h_1), (by simp only [eq_true h_1, told_simp1, told_simp2, and_true, true_and, and_false, false_and, or_true, true_or, or_false, false_or, not_true_eq_false, not_false_eq_true, decide_true, decide_false, Bool.decide_eq_true])⟩ ?_
      exact ⟨rfl, rfl⟩
    ·
      refine st_reg (A := (AV.b (decide (rep < (0 : Int))) = AV.b false) ∧ (AV.b (decide (rep ≥ (16 : Int))) = AV.b (decide ((16 : Int) ≤ rep))) ∧ (AV.b (decide ((16 : Int) ≤ rep)) = AV.b (decide (rep < (0 : Int) ∨ (16 : Int) ≤ rep)))) (σ' := ⟨[(0, .sl (List.map c3 v)), (1, .i .i64 (rep)), (2, .i .i64 (n)), (14, .b (decide (rep < (0 : Int) ∨ (16 : Int) ≤ rep)))], []⟩) cx [(1, { tell := some (.b (false)) }), (4, { tell := some (.b (decide ((16 : Int) ≤ rep))) }), (5, { tell := some (.b (decide (rep < (0 : Int) ∨ (16 : Int) ≤ rep))) })] [0, 1, 2, 14] [] (by kernel_rfl) (by kernel_rfl) ⟨(told_false h_1), (by kernel_rfl), (by simp only [eq_false h_1, told_simp1, told_simp2, and_true, true_and, and_false, false_and, or_true, true_or, or_false, false_or, not_true_eq_false, not_false_eq_true, decide_true, decide_false, Bool.decide_eq_true])⟩ ?_
      exact ⟨rfl, rfl⟩
  ·
    refine q_seq_normal ?_
    refine st_dec (rep < (0 : Int) ∨ (16 : Int) ≤ rep) (by kernel_rfl) (by kernel_rfl) (fun h_2 => ?_) (fun h_2 => ?_)
    ·
      refine st_seq (by kernel_rfl) ?_
      refine st_reg (A := True) (σ' := ⟨[(6, .nl), (7, .i .i64 ((3 : Int)))], []⟩) cx [] [6, 7] [] (by kernel_rfl) (by kernel_rfl) trivial ?_
      refine q_seq_normal ?_
      refine st_ret (by kernel_rfl) ?_
      refine q_seq_ret ?_
      exact q_ret (r := .tup [.nl, .i .i64 ((3 : Int))]) (obl := []) (by kernel_rfl) trivial (AVle.tup (ZLe.cons (AVle.nl' (g1 h_2)) (ZLe.cons (AVle.eq (g0 h_2)) ZLe.nil)))
    ·
      refine st_skip (by kernel_rfl) ?_
      refine q_seq_normal ?_
      refine st_seq (by kernel_rfl) ?_
      refine st_seq (by kernel_rfl) ?_
      refine st_join (σ' := ⟨[(0, .sl (List.map c3 v)), (1, .i .i64 (rep)), (2, .i .i64 (n)), (20, .b (decide (n < (0 : Int) ∨ (1000000000 : Int) < n)))], []⟩) ?_ ?_
      ·
        refine st_split (n < (0 : Int)) (fun h_4 => ?_) (fun h_4 => ?_)
        ·
          refine st_reg (A := (AV.b (decide (n < (0 : Int))) = AV.b true) ∧ (AV.b true = AV.b (decide (n < (0 : Int) ∨ (1000000000 : Int) < n)))) (σ' := ⟨[(0, .sl (List.map c3 v)), (1, .i .i64 (rep)), (2, .i .i64 (n)), (20, .b (decide (n < (0 : Int) ∨ (1000000000 : Int) < n)))], []⟩) cx [(1, { tell := some (.b (true)) }), (5, { tell := some (.b (decide (n < (0 : Int) ∨ (1000000000 : Int) < n))) })] [0, 1, 2, 20] [] (by kernel_rfl) (by kernel_rfl) ⟨(told_true h_4), (by simp only [eq_true h_4, told_simp1, told_simp2, and_true, true_and, and_false, false_and, or_true, true_or, or_false, false_or, not_true_eq_false, not_false_eq_true, decide_true, decide_false, Bool.decide_eq_true])⟩ ?_
          exact ⟨rfl, rfl⟩
        ·
          refine st_reg (A := (AV.b (decide (n < (0 : Int))) = AV.b false) ∧ (AV.b (decide (n > (1000000000 : Int))) = AV.b (decide ((1000000000 : Int) < n))) ∧ (AV.b (decide ((1000000000 : Int) < n)) = AV.b (decide (n < (0 : Int) ∨ (1000000000 : Int) < n)))) (σ' := ⟨[(0, .sl (List.map c3 v)), (1, .i .i64 (rep)), (2, .i .i64 (n)), (20, .b (decide (n < (0 : Int) ∨ (1000000000 : Int) < n)))], []⟩) cx [(1, { tell := some (.b (false)) }), (4, { tell := some (.b (decide ((1000000000 : Int) < n))) }), (5, { tell := some (.b (decide (n < (0 : Int) ∨ (1000000000 : Int) < n))) })] [0, 1, 2, 20] [] (by kernel_rfl) (by kernel_rfl) ⟨(told_false h_4), (by kernel_rfl), (by simp only [eq_false h_4, told_simp1, told_simp2, and_true, true_and, and_false, false_and, or_true, true_or, or_false, false_or, not_true_eq_false, not_false_eq_true, decide_true, decide_false, Bool.decide_eq_true])⟩ ?_
          exact ⟨rfl, rfl⟩
      ·
        refine q_seq_normal ?_
        refine st_dec (n < (0 : Int) ∨ (1000000000 : Int) < n) (by kernel_rfl) (by kernel_rfl) (fun h_5 => ?_) (fun h_5 => ?_)
        ·
          refine st_seq (by kernel_rfl) ?_
          refine st_reg (A := True) (σ' := ⟨[(6, .nl), (7, .i .i64 ((2 : Int)))], []⟩) cx [] [6, 7] [] (by kernel_rfl) (by kernel_rfl) trivial ?_
          refine q_seq_normal ?_
          refine st_ret (by kernel_rfl) ?_
          refine q_seq_ret ?_
          exact q_ret (r := .tup [.nl, .i .i64 ((2 : Int))]) (obl := []) (by kernel_rfl) trivial (AVle.tup (ZLe.cons (AVle.nl' (g3 h_2 h_5)) (ZLe.cons (AVle.eq (g2 h_2 h_5)) ZLe.nil)))
        ·
          refine st_skip (by kernel_rfl) ?_
          refine q_seq_normal ?_
          refine st_seq (by kernel_rfl) ?_
          refine st_reg (A := (Con Try.prog (50 : FuncId) [AV.sl (List.map c3 v)] (AV.agg (c61 (of v)))) ∧ ((cA (AV.i IntKind.i64) (of v)).length = (cA (AV.i IntKind.i64) (Vector.replicate (16 : Nat) (0 : Int))).length) ∧ ((cA (AV.i IntKind.i64) (of v)).length = (16 : Nat))) (σ' := ⟨[(1, .i .i64 (rep)), (2, .i .i64 (n)), (8, .ptr (8) (0) (0) (0))], [(8, ⟨0, 61, .arr (cA (AV.i IntKind.i64) (of v))⟩)]⟩) cx [(1, { val := some (.agg (cA (AV.i IntKind.i64) (of v))) })] [1, 2, 8] [8] (by kernel_rfl) (by kernel_rfl) ⟨(con50 (v)), (by kernel_rfl), (by kernel_rfl)⟩ ?_
          refine q_seq_normal ?_
          refine st_seq (by kernel_rfl) ?_
          refine st_reg (A := ((0 : Int) ≤ rep) ∧ (rep < (↑(16 : Nat) : Int)) ∧ (rep.toNat * (1 : Nat) + 0 < (cA (AV.i IntKind.i64) (of v)).length) ∧ (cellsA (AV.i IntKind.i64 n) = [(cellsA (AV.i IntKind.i64 n)).headD AV.dead]) ∧ ((cA (AV.i IntKind.i64) (of v)).set (rep.toNat * (1 : Nat) + 0) ((cellsA (AV.i IntKind.i64 n)).headD AV.dead) = cA (AV.i IntKind.i64) ((of v).setIfInBounds rep.toNat n))) (σ' := ⟨[(8, .ptr (8) (0) (0) (0))], [(8, ⟨0, 61, .arr (cA (AV.i IntKind.i64) ((of v).setIfInBounds rep.toNat n))⟩)]⟩) cx [(3, { rows := some [(cA (AV.i IntKind.i64) ((of v).setIfInBounds rep.toNat n))] })] [8] [8] (by kernel_rfl) (by kernel_rfl) ⟨(by omega), (by omega), (by (simp only [List.length_set, List.length_map, List.length_append, List.length_replicate, List.length_cons, List.length_nil, Go.maxLen, Nat.mul_one, Nat.add_zero, Nat.zero_add, Nat.one_mul, len_cA]; omega)), (by kernel_rfl), (by (simp only [Nat.mul_one, Nat.add_zero, Nat.zero_add]; with_reducible refine set_cA ?_; kernel_rfl))⟩ ?_
          refine q_seq_normal ?_
          refine st_seq (by kernel_rfl) ?_
          refine st_reg (A := ((cA (AV.i IntKind.i64) ((of v).setIfInBounds rep.toNat n)).length = (16 : Nat)) ∧ (Con Try.prog (52 : FuncId) [AV.agg (c61 ((of v).setIfInBounds rep.toNat n))] (AV.sl (List.map c3 (short ((of v).setIfInBounds rep.toNat n)))))) (σ' := ⟨[(6, .sl (List.map c3 (short ((of v).setIfInBounds rep.toNat n)))), (7, .i .i64 ((0 : Int)))], []⟩) cx [(1, { val := some (.sl (List.map c3 (short ((of v).setIfInBounds rep.toNat n)))) })] [6, 7] [] (by kernel_rfl) (by kernel_rfl) ⟨(by (simp only [len_cA]; done)), (con52 ((of v).setIfInBounds rep.toNat n))⟩ ?_
          refine q_seq_normal ?_
          refine st_ret (by kernel_rfl) ?_
          exact q_ret (r := .tup [.sl (List.map c3 (short ((of v).setIfInBounds rep.toNat n))), .i .i64 ((0 : Int))]) (obl := []) (by kernel_rfl) trivial (AVle.tup (ZLe.cons (AVle.eq (g5 h_2 h_5)) (ZLe.cons (AVle.eq (g4 h_2 h_5)) ZLe.nil)))
theorem con22 (v : List Int) (rep n : Int) : Con Try.prog 22 [.sl (v.map c3), .i .i64 rep, .i .i64 n] (.tup [.sl ((putV v rep n).1.map c3), .i .i64 (putV v rep n).2]) :=
  by apply walk22 v rep n <;> intros <;> unfold putV <;> (repeat' split) <;> first | (exfalso; omega) | (simp only [List.map_nil]; done) | (dsimp only; done)
theorem walk19 (v : List Int) (rep : Int) (n : Int)
    (g0 : rep < (0 : Int) ∨ (16 : Int) ≤ rep → AV.i IntKind.i64 (3 : Int) = AV.i IntKind.i64 (bumpV v rep n).snd.snd)
    (g1 : rep < (0 : Int) ∨ (16 : Int) ≤ rep → AV.agg [AV.i IntKind.i64 (0 : Int), AV.i IntKind.i64 (0 : Int)] = AV.agg [AV.i IntKind.i64 (bumpV v rep n).snd.fst.rep, AV.i IntKind.i64 (bumpV v rep n).snd.fst.num])
    (g2 : rep < (0 : Int) ∨ (16 : Int) ≤ rep → List.map c3 (bumpV v rep n).fst = [])
    (g3 : ¬(rep < (0 : Int) ∨ (16 : Int) ≤ rep) → min n (1000000000 : Int) ≤ (of v)[rep.toNat]! → AV.i IntKind.i64 (9 : Int) = AV.i IntKind.i64 (bumpV v rep n).snd.snd)
    (g4 : ¬(rep < (0 : Int) ∨ (16 : Int) ≤ rep) → min n (1000000000 : Int) ≤ (of v)[rep.toNat]! → AV.agg [AV.i IntKind.i64 (0 : Int), AV.i IntKind.i64 (0 : Int)] = AV.agg [AV.i IntKind.i64 (bumpV v rep n).snd.fst.rep, AV.i IntKind.i64 (bumpV v rep n).snd.fst.num])
    (g5 : ¬(rep < (0 : Int) ∨ (16 : Int) ≤ rep) → min n (1000000000 : Int) ≤ (of v)[rep.toNat]! → List.map c3 (bumpV v rep n).fst = [])
    (g6 : ¬(rep < (0 : Int) ∨ (16 : Int) ≤ rep) → ¬min n (1000000000 : Int) ≤ (of v)[rep.toNat]! → (-9223372036854775808 : Int) ≤ (of v)[rep.toNat]! + (1 : Int))
    (g7 : ¬(rep < (0 : Int) ∨ (16 : Int) ≤ rep) → ¬min n (1000000000 : Int) ≤ (of v)[rep.toNat]! → AV.i IntKind.i64 (0 : Int) = AV.i IntKind.i64 (bumpV v rep n).snd.snd)
    (g8 : ¬(rep < (0 : Int) ∨ (16 : Int) ≤ rep) → ¬min n (1000000000 : Int) ≤ (of v)[rep.toNat]! → AV.agg [AV.i IntKind.i64 rep, AV.i IntKind.i64 ((of v).setIfInBounds rep.toNat ((of v)[rep.toNat]! + (1 : Int)))[rep.toNat]!] = AV.agg [AV.i IntKind.i64 (bumpV v rep n).snd.fst.rep, AV.i IntKind.i64 (bumpV v rep n).snd.fst.num])
    (g9 : ¬(rep < (0 : Int) ∨ (16 : Int) ≤ rep) → ¬min n (1000000000 : Int) ≤ (of v)[rep.toNat]! → AV.sl (List.map c3 (short ((of v).setIfInBounds rep.toNat ((of v)[rep.toNat]! + (1 : Int))))) = AV.sl (List.map c3 (bumpV v rep n).fst)) :
    Con Try.prog (19 : FuncId) [AV.sl (List.map c3 v), AV.i IntKind.i64 rep, AV.i IntKind.i64 n] (AV.tup [AV.sl (List.map c3 (bumpV v rep n).fst), AV.agg (c24 (bumpV v rep n).snd.fst), AV.i IntKind.i64 (bumpV v rep n).snd.snd]) := by
  refine con_lens 0 (c3) (v) (by kernel_rfl) Go.Proofs.Try.func19 (by kernel_rfl) fun hl_0 => ?_
  refine st_con tab_ok (by kernel_rfl) [.tmp 6, .cell 7 24, .tmp 8] 38 Go.Proofs.Try.func19 (by kernel_rfl) (by kernel_rfl) ?_
  intro e0 cx
  refine st_seq (by kernel_rfl) ?_
  refine st_reg (A := True) (σ' := ⟨[(0, .sl (List.map c3 v)), (1, .i .i64 (rep)), (2, .i .i64 (n)), (7, .ptr (7) (0) (0) (0))], [(7, ⟨0, 24, .var [.i .i64 ((0 : Int)), .i .i64 ((0 : Int))]⟩)]⟩) cx [] [0, 1, 2, 7] [7] (by kernel_rfl) (by kernel_rfl) trivial ?_
  refine q_seq_normal ?_
  refine st_seq (by kernel_rfl) ?_
  refine st_seq (by kernel_rfl) ?_
  refine st_join (σ' := ⟨[(0, .sl (List.map c3 v)), (1, .i .i64 (rep)), (2, .i .i64 (n)), (7, .ptr (7) (0) (0) (0)), (15, .b (decide (rep < (0 : Int) ∨ (16 : Int) ≤ rep)))], [(7, ⟨0, 24, .var [.i .i64 ((0 : Int)), .i .i64 ((0 : Int))]⟩)]⟩) ?_ ?_
  ·
    refine st_split (rep < (0 : Int)) (fun h_1 => ?_) (fun h_1 => ?_)
    ·
      refine st_reg (A := (AV.b (decide (rep < (0 : Int))) = AV.b true) ∧ (AV.b true = AV.b (decide (rep < (0 : Int) ∨ (16 : Int) ≤ rep)))) (σ' := ⟨[(0, .sl (List.map c3 v)), (1, .i .i64 (rep)), (2, .i .i64 (n)), (7, .ptr (7) (0) (0) (0)), (15, .b (decide (rep < (0 : Int) ∨ (16 : Int) ≤ rep)))], [(7, ⟨0, 24, .var [.i .i64 ((0 : Int)), .i .i64 ((0 : Int))]⟩)]⟩) cx [(1, { tell := some (.b (true)) }), (5, { tell := some (.b (decide (rep < (0 : Int) ∨ (16 : Int) ≤ rep))) })] [0, 1, 2, 7, 15] [7] (by kernel_rfl) (by kernel_rfl) ⟨(told_true h_1), (by simp only [eq_true h_1, told_simp1, told_simp2, and_true, true_and, and_false, false_and, or_true, true_or, or_false, false_or, not_true_eq_false, not_false_eq_true, decide_true, decide_false, Bool.decide_eq_true])⟩ ?_
      exact ⟨rfl, rfl⟩
    ·
      refine st_reg (A := (AV.b (decide (rep < (0 : Int))) = AV.b false) ∧ (AV.b (decide (rep ≥ (16 : Int))) = AV.b (decide ((16 : Int) ≤ rep))) ∧ (AV.b (decide ((16 : Int) ≤ rep)) = AV.b (decide (rep < (0 : Int) ∨ (16 : Int) ≤ rep)))) (σ' := ⟨[(0, .sl (List.map c3 v)), (1, .i .i64 (rep)), (2, .i .i64 (n)), (7, .ptr (7) (0) (0) (0)), (15, .b (decide (rep < (0 : Int) ∨ (16 : Int) ≤ rep)))], [(7, ⟨0, 24, .var [.i .i64 ((0 : Int)), .i .i64 ((0 : Int))]⟩)]⟩) cx [(1, { tell := some (.b (false)) }), (4, { tell := some (.b (decide ((16 : Int) ≤ rep))) }), (5, { tell := some (.b (decide (rep < (0 : Int) ∨ (16 : Int) ≤ rep))) })] [0, 1, 2, 7, 15] [7] (by kernel_rfl) (by kernel_rfl) ⟨(told_false h_1), (by kernel_rfl), (by simp only [eq_false h_1, told_simp1, told_simp2, and_true, true_and, and_false, false_and, or_true, true_or, or_false, false_or, not_true_eq_false, not_false_eq_true, decide_true, decide_false, Bool.decide_eq_true])⟩ ?_
      exact ⟨rfl, rfl⟩
  ·
    refine q_seq_normal ?_
    refine st_dec (rep < (0 : Int) ∨ (16 : Int) ≤ rep) (by kernel_rfl) (by kernel_rfl) (fun h_2 => ?_) (fun h_2 => ?_)
    ·
      refine st_seq (by kernel_rfl) ?_
      refine st_reg (A := True) (σ' := ⟨[(7, .ptr (7) (0) (0) (0)), (6, .nl), (8, .i .i64 ((3 : Int)))], [(7, ⟨0, 24, .var [.i .i64 ((0 : Int)), .i .i64 ((0 : Int))]⟩)]⟩) cx [] [7, 6, 8] [7] (by kernel_rfl) (by kernel_rfl) trivial ?_
      refine q_seq_normal ?_
      refine st_ret (by kernel_rfl) ?_
      refine q_seq_ret ?_
      exact q_ret (r := .tup [.nl, .agg [.i .i64 ((0 : Int)), .i .i64 ((0 : Int))], .i .i64 ((3 : Int))]) (obl := []) (by kernel_rfl) trivial (AVle.tup (ZLe.cons (AVle.nl' (g2 h_2)) (ZLe.cons (AVle.eq (g1 h_2)) (ZLe.cons (AVle.eq (g0 h_2)) ZLe.nil))))
    ·
      refine st_skip (by kernel_rfl) ?_
      refine q_seq_normal ?_
      refine st_seq (by kernel_rfl) ?_
      refine st_reg (A := (Con Try.prog (49 : FuncId) [AV.sl (List.map c3 v)] (AV.agg (c62 (of v)))) ∧ ((cA (AV.i IntKind.i64) (of v)).length = (cA (AV.i IntKind.i64) (Vector.replicate (16 : Nat) (0 : Int))).length) ∧ ((cA (AV.i IntKind.i64) (of v)).length = (16 : Nat))) (σ' := ⟨[(1, .i .i64 (rep)), (2, .i .i64 (n)), (7, .ptr (7) (0) (0) (0)), (9, .ptr (9) (0) (0) (0))], [(7, ⟨0, 24, .var [.i .i64 ((0 : Int)), .i .i64 ((0 : Int))]⟩), (9, ⟨0, 62, .arr (cA (AV.i IntKind.i64) (of v))⟩)]⟩) cx [(1, { val := some (.agg (cA (AV.i IntKind.i64) (of v))) })] [1, 2, 7, 9] [7, 9] (by kernel_rfl) (by kernel_rfl) ⟨(con49 (v)), (by kernel_rfl), (by kernel_rfl)⟩ ?_
      refine q_seq_normal ?_
      refine st_seq (by kernel_rfl) ?_
      refine st_seq (by kernel_rfl) ?_
      refine st_reg (A := ((0 : Int) ≤ rep) ∧ (rep < (↑(16 : Nat) : Int)) ∧ ((cA (AV.i IntKind.i64) (of v))[rep.toNat * (1 : Nat) + 0]? = some (AV.i IntKind.i64 (of v)[rep.toNat]!)) ∧ (AV.i IntKind.i64 (if (1000000000 : Int) < n then (1000000000 : Int) else n) = AV.i IntKind.i64 (min n (1000000000 : Int))) ∧ (AV.b (decide ((of v)[rep.toNat]! ≥ min n (1000000000 : Int))) = AV.b (decide (min n (1000000000 : Int) ≤ (of v)[rep.toNat]!)))) (σ' := ⟨[(1, .i .i64 (rep)), (7, .ptr (7) (0) (0) (0)), (9, .ptr (9) (0) (0) (0)), (24, .b (decide (min n (1000000000 : Int) ≤ (of v)[rep.toNat]!)))], [(7, ⟨0, 24, .var [.i .i64 ((0 : Int)), .i .i64 ((0 : Int))]⟩), (9, ⟨0, 62, .arr (cA (AV.i IntKind.i64) (of v))⟩)]⟩) cx [(2, { row := [.i .i64 ((of v)[rep.toNat]!)] }), (4, { tell := some (.i .i64 (min n (1000000000 : Int))) }), (5, { tell := some (.b (decide (min n (1000000000 : Int) ≤ (of v)[rep.toNat]!))) })] [1, 7, 9, 24] [7, 9] (by kernel_rfl) (by kernel_rfl) ⟨(by omega), (by omega), (by (simp only [Nat.mul_one, Nat.add_zero, Nat.zero_add]; with_reducible refine get_cA ?_; omega)), (told_min), (by kernel_rfl)⟩ ?_
      refine q_seq_normal ?_
      refine st_dec (min n (1000000000 : Int) ≤ (of v)[rep.toNat]!) (by kernel_rfl) (by kernel_rfl) (fun h_3 => ?_) (fun h_3 => ?_)
      ·
        refine st_seq (by kernel_rfl) ?_
        refine st_reg (A := True) (σ' := ⟨[(7, .ptr (7) (0) (0) (0)), (6, .nl), (8, .i .i64 ((9 : Int)))], [(7, ⟨0, 24, .var [.i .i64 ((0 : Int)), .i .i64 ((0 : Int))]⟩)]⟩) cx [] [7, 6, 8] [7] (by kernel_rfl) (by kernel_rfl) trivial ?_
        refine q_seq_normal ?_
        refine st_ret (by kernel_rfl) ?_
        refine q_seq_ret ?_
        exact q_ret (r := .tup [.nl, .agg [.i .i64 ((0 : Int)), .i .i64 ((0 : Int))], .i .i64 ((9 : Int))]) (obl := []) (by kernel_rfl) trivial (AVle.tup (ZLe.cons (AVle.nl' (g5 h_2 h_3)) (ZLe.cons (AVle.eq (g4 h_2 h_3)) (ZLe.cons (AVle.eq (g3 h_2 h_3)) ZLe.nil))))
      ·
        refine st_skip (by kernel_rfl) ?_
        refine q_seq_normal ?_
        refine st_seq (by kernel_rfl) ?_
        refine st_reg (A := ((0 : Int) ≤ rep) ∧ (rep < (↑(16 : Nat) : Int)) ∧ ((cA (AV.i IntKind.i64) (of v))[rep.toNat * (1 : Nat) + 0]? = some (AV.i IntKind.i64 (of v)[rep.toNat]!)) ∧ (AV.i IntKind.i64 (IntKind.i64.wrap ((of v)[rep.toNat]! + (1 : Int))) = AV.i IntKind.i64 ((of v)[rep.toNat]! + (1 : Int))) ∧ ((0 : Int) ≤ rep) ∧ (rep < (↑(16 : Nat) : Int)) ∧ (rep.toNat * (1 : Nat) + 0 < (cA (AV.i IntKind.i64) (of v)).length) ∧ (cellsA (AV.i IntKind.i64 ((of v)[rep.toNat]! + (1 : Int))) = [(cellsA (AV.i IntKind.i64 ((of v)[rep.toNat]! + (1 : Int)))).headD AV.dead]) ∧ ((cA (AV.i IntKind.i64) (of v)).set (rep.toNat * (1 : Nat) + 0) ((cellsA (AV.i IntKind.i64 ((of v)[rep.toNat]! + (1 : Int)))).headD AV.dead) = cA (AV.i IntKind.i64) ((of v).setIfInBounds rep.toNat ((of v)[rep.toNat]! + (1 : Int))))) (σ' := ⟨[(1, .i .i64 (rep)), (7, .ptr (7) (0) (0) (0)), (9, .ptr (9) (0) (0) (0))], [(7, ⟨0, 24, .var [.i .i64 ((0 : Int)), .i .i64 ((0 : Int))]⟩), (9, ⟨0, 62, .arr (cA (AV.i IntKind.i64) ((of v).setIfInBounds rep.toNat ((of v)[rep.toNat]! + (1 : Int))))⟩)]⟩) cx [(2, { row := [.i .i64 ((of v)[rep.toNat]!)] }), (3, { tell := some (.i .i64 ((of v)[rep.toNat]! + (1 : Int))) }), (5, { rows := some [(cA (AV.i IntKind.i64) ((of v).setIfInBounds rep.toNat ((of v)[rep.toNat]! + (1 : Int))))] })] [1, 7, 9] [7, 9] (by kernel_rfl) (by kernel_rfl) ⟨(by omega), (by omega), (by (simp only [Nat.mul_one, Nat.add_zero, Nat.zero_add]; with_reducible refine get_cA ?_; omega)), (told_i64 (g6 h_2 h_3) (by omega)), (by omega), (by omega), (by (simp only [List.length_set, List.length_map, List.length_append, List.length_replicate, List.length_cons, List.length_nil, Go.maxLen, Nat.mul_one, Nat.add_zero, Nat.zero_add, Nat.one_mul, len_cA]; omega)), (by kernel_rfl), (by (simp only [Nat.mul_one, Nat.add_zero, Nat.zero_add]; with_reducible refine set_cA ?_; kernel_rfl))⟩ ?_
        refine q_seq_normal ?_
        refine st_seq (by kernel_rfl) ?_
        refine st_any (A := ((cA (AV.i IntKind.i64) ((of v).setIfInBounds rep.toNat ((of v)[rep.toNat]! + (1 : Int)))).length = (16 : Nat)) ∧ (Con Try.prog (51 : FuncId) [AV.agg (c62 ((of v).setIfInBounds rep.toNat ((of v)[rep.toNat]! + (1 : Int))))] (AV.sl (List.map c3 (short ((of v).setIfInBounds rep.toNat ((of v)[rep.toNat]! + (1 : Int))))))) ∧ ((0 : Int) ≤ rep) ∧ (rep < (↑(16 : Nat) : Int)) ∧ ((cA (AV.i IntKind.i64) ((of v).setIfInBounds rep.toNat ((of v)[rep.toNat]! + (1 : Int))))[rep.toNat * (1 : Nat) + 0]? = some (AV.i IntKind.i64 ((of v).setIfInBounds rep.toNat ((of v)[rep.toNat]! + (1 : Int)))[rep.toNat]!))) (σ' := ⟨[(7, .ptr (7) (0) (0) (0)), (6, .sl (List.map c3 (short ((of v).setIfInBounds rep.toNat ((of v)[rep.toNat]! + (1 : Int)))))), (8, .i .i64 ((0 : Int)))], [(7, ⟨0, 24, .var [.i .i64 (rep), .i .i64 (((of v).setIfInBounds rep.toNat ((of v)[rep.toNat]! + (1 : Int)))[rep.toNat]!)]⟩)]⟩) cx [(1, { val := some (.sl (List.map c3 (short ((of v).setIfInBounds rep.toNat ((of v)[rep.toNat]! + (1 : Int)))))) }), (5, { row := [.i .i64 (((of v).setIfInBounds rep.toNat ((of v)[rep.toNat]! + (1 : Int)))[rep.toNat]!)] })] [7, 6, 8] [7] (by kernel_rfl) (by kernel_rfl) ⟨(by (simp only [len_cA]; done)), (con51 ((of v).setIfInBounds rep.toNat ((of v)[rep.toNat]! + (1 : Int)))), (by omega), (by omega), (by (simp only [Nat.mul_one, Nat.add_zero, Nat.zero_add]; with_reducible refine get_cA ?_; omega))⟩ ?_
        refine q_seq_normal ?_
        refine st_ret (by kernel_rfl) ?_
        exact q_ret (r := .tup [.sl (List.map c3 (short ((of v).setIfInBounds rep.toNat ((of v)[rep.toNat]! + (1 : Int))))), .agg [.i .i64 (rep), .i .i64 (((of v).setIfInBounds rep.toNat ((of v)[rep.toNat]! + (1 : Int)))[rep.toNat]!)], .i .i64 ((0 : Int))]) (obl := []) (by kernel_rfl) trivial (AVle.tup (ZLe.cons (AVle.eq (g9 h_2 h_3)) (ZLe.cons (AVle.eq (g8 h_2 h_3)) (ZLe.cons (AVle.eq (g7 h_2 h_3)) ZLe.nil))))
theorem con19 (v : List Int) (rep n : Int) : Con Try.prog 19 [.sl (v.map c3), .i .i64 rep, .i .i64 n] (.tup [.sl ((bumpV v rep n).1.map c3), .agg (c24 (bumpV v rep n).2.1), .i .i64 (bumpV v rep n).2.2]) :=
  by
  have key := of_range v
  apply walk19 v rep n <;> intros <;> first
    | (have := key rep.toNat (by omega); omega)
    | (unfold bumpV; (repeat' split) <;> first | (exfalso; omega) | (simp only [List.map_nil]; done) | (dsimp only; done) | (rw [get_setV (by omega), if_pos rfl]))
theorem walk21 (v : List Int) (rep : Int) (n : Int)
    (g0 : rep < (0 : Int) ∨ (16 : Int) ≤ rep → AV.i IntKind.i64 (3 : Int) = AV.i IntKind.i64 (bumpV v rep n).snd.snd)
    (g1 : rep < (0 : Int) ∨ (16 : Int) ≤ rep → AV.agg [AV.i IntKind.i64 (0 : Int), AV.i IntKind.i64 (0 : Int)] = AV.agg [AV.i IntKind.i64 (bumpV v rep n).snd.fst.rep, AV.i IntKind.i64 (bumpV v rep n).snd.fst.num])
    (g2 : rep < (0 : Int) ∨ (16 : Int) ≤ rep → List.map c3 (bumpV v rep n).fst = [])
    (g3 : ¬(rep < (0 : Int) ∨ (16 : Int) ≤ rep) → (1000000000 : Int) < n → (1000000000 : Int) ≤ (of v)[rep.toNat]! → AV.i IntKind.i64 (9 : Int) = AV.i IntKind.i64 (bumpV v rep n).snd.snd)
    (g4 : ¬(rep < (0 : Int) ∨ (16 : Int) ≤ rep) → (1000000000 : Int) < n → (1000000000 : Int) ≤ (of v)[rep.toNat]! → AV.agg [AV.i IntKind.i64 (0 : Int), AV.i IntKind.i64 (0 : Int)] = AV.agg [AV.i IntKind.i64 (bumpV v rep n).snd.fst.rep, AV.i IntKind.i64 (bumpV v rep n).snd.fst.num])
    (g5 : ¬(rep < (0 : Int) ∨ (16 : Int) ≤ rep) → (1000000000 : Int) < n → (1000000000 : Int) ≤ (of v)[rep.toNat]! → List.map c3 (bumpV v rep n).fst = [])
    (g6 : ¬(rep < (0 : Int) ∨ (16 : Int) ≤ rep) → (1000000000 : Int) < n → ¬(1000000000 : Int) ≤ (of v)[rep.toNat]! → (-9223372036854775808 : Int) ≤ (of v)[rep.toNat]! + (1 : Int))
    (g7 : ¬(rep < (0 : Int) ∨ (16 : Int) ≤ rep) → (1000000000 : Int) < n → ¬(1000000000 : Int) ≤ (of v)[rep.toNat]! → AV.i IntKind.i64 (0 : Int) = AV.i IntKind.i64 (bumpV v rep n).snd.snd)
    (g8 : ¬(rep < (0 : Int) ∨ (16 : Int) ≤ rep) → (1000000000 : Int) < n → ¬(1000000000 : Int) ≤ (of v)[rep.toNat]! → AV.agg [AV.i IntKind.i64 rep, AV.i IntKind.i64 ((of v).setIfInBounds rep.toNat ((of v)[rep.toNat]! + (1 : Int)))[rep.toNat]!] = AV.agg [AV.i IntKind.i64 (bumpV v rep n).snd.fst.rep, AV.i IntKind.i64 (bumpV v rep n).snd.fst.num])
    (g9 : ¬(rep < (0 : Int) ∨ (16 : Int) ≤ rep) → (1000000000 : Int) < n → ¬(1000000000 : Int) ≤ (of v)[rep.toNat]! → AV.sl (List.map c3 (short ((of v).setIfInBounds rep.toNat ((of v)[rep.toNat]! + (1 : Int))))) = AV.sl (List.map c3 (bumpV v rep n).fst))
    (g10 : ¬(rep < (0 : Int) ∨ (16 : Int) ≤ rep) → ¬(1000000000 : Int) < n → n ≤ (of v)[rep.toNat]! → AV.i IntKind.i64 (9 : Int) = AV.i IntKind.i64 (bumpV v rep n).snd.snd)
    (g11 : ¬(rep < (0 : Int) ∨ (16 : Int) ≤ rep) → ¬(1000000000 : Int) < n → n ≤ (of v)[rep.toNat]! → AV.agg [AV.i IntKind.i64 (0 : Int), AV.i IntKind.i64 (0 : Int)] = AV.agg [AV.i IntKind.i64 (bumpV v rep n).snd.fst.rep, AV.i IntKind.i64 (bumpV v rep n).snd.fst.num])
    (g12 : ¬(rep < (0 : Int) ∨ (16 : Int) ≤ rep) → ¬(1000000000 : Int) < n → n ≤ (of v)[rep.toNat]! → List.map c3 (bumpV v rep n).fst = [])
    (g13 : ¬(rep < (0 : Int) ∨ (16 : Int) ≤ rep) → ¬(1000000000 : Int) < n → ¬n ≤ (of v)[rep.toNat]! → (-9223372036854775808 : Int) ≤ (of v)[rep.toNat]! + (1 : Int))
    (g14 : ¬(rep < (0 : Int) ∨ (16 : Int) ≤ rep) → ¬(1000000000 : Int) < n → ¬n ≤ (of v)[rep.toNat]! → AV.i IntKind.i64 (0 : Int) = AV.i IntKind.i64 (bumpV v rep n).snd.snd)
    (g15 : ¬(rep < (0 : Int) ∨ (16 : Int) ≤ rep) → ¬(1000000000 : Int) < n → ¬n ≤ (of v)[rep.toNat]! → AV.agg [AV.i IntKind.i64 rep, AV.i IntKind.i64 ((of v).setIfInBounds rep.toNat ((of v)[rep.toNat]! + (1 : Int)))[rep.toNat]!] = AV.agg [AV.i IntKind.i64 (bumpV v rep n).snd.fst.rep, AV.i IntKind.i64 (bumpV v rep n).snd.fst.num])
    (g16 : ¬(rep < (0 : Int) ∨ (16 : Int) ≤ rep) → ¬(1000000000 : Int) < n → ¬n ≤ (of v)[rep.toNat]! → AV.sl (List.map c3 (short ((of v).setIfInBounds rep.toNat ((of v)[rep.toNat]! + (1 : Int))))) = AV.sl (List.map c3 (bumpV v rep n).fst)) :
    Con Try.prog (21 : FuncId) [AV.sl (List.map c3 v), AV.i IntKind.i64 rep, AV.i IntKind.i64 n] (AV.tup [AV.sl (List.map c3 (bumpV v rep n).fst), AV.agg (c24 (bumpV v rep n).snd.fst), AV.i IntKind.i64 (bumpV v rep n).snd.snd]) := by
  refine con_lens 0 (c3) (v) (by kernel_rfl) Go.Proofs.Try.func21 (by kernel_rfl) fun hl_0 => ?_
  refine st_con tab_ok (by kernel_rfl) [.tmp 6, .cell 7 24, .tmp 8] 39 Go.Proofs.Try.func21 (by kernel_rfl) (by kernel_rfl) ?_
  intro e0 cx
  refine st_seq (by kernel_rfl) ?_
  refine st_reg (A := True) (σ' := ⟨[(0, .sl (List.map c3 v)), (1, .i .i64 (rep)), (2, .i .i64 (n)), (7, .ptr (7) (0) (0) (0))], [(7, ⟨0, 24, .var [.i .i64 ((0 : Int)), .i .i64 ((0 : Int))]⟩)]⟩) cx [] [0, 1, 2, 7] [7] (by kernel_rfl) (by kernel_rfl) trivial ?_
  refine q_seq_normal ?_
  refine st_seq (by kernel_rfl) ?_
  refine st_seq (by kernel_rfl) ?_
  refine st_join (σ' := ⟨[(0, .sl (List.map c3 v)), (1, .i .i64 (rep)), (2, .i .i64 (n)), (7, .ptr (7) (0) (0) (0)), (15, .b (decide (rep < (0 : Int) ∨ (16 : Int) ≤ rep)))], [(7, ⟨0, 24, .var [.i .i64 ((0 : Int)), .i .i64 ((0 : Int))]⟩)]⟩) ?_ ?_
  ·
    refine st_split (rep < (0 : Int)) (fun h_1 => ?_) (fun h_1 => ?_)
    ·
      refine st_reg (A := (AV.b (decide (rep < (0 : Int))) = AV.b true) ∧ (AV.b true = AV.b (decide (rep < (0 : Int) ∨ (16 : Int) ≤ rep)))) (σ' := ⟨[(0, .sl (List.map c3 v)), (1, .i .i64 (rep)), (2, .i .i64 (n)), (7, .ptr (7) (0) (0) (0)), (15, .b (decide (rep < (0 : Int) ∨ (16 : Int) ≤ rep)))], [(7, ⟨0, 24, .var [.i .i64 ((0 : Int)), .i .i64 ((0 : Int))]⟩)]⟩) cx [(1, { tell := some (.b (true)) }), (5, { tell := some (.b (decide (rep < (0 : Int) ∨ (16 : Int) ≤ rep))) })] [0, 1, 2, 7, 15] [7] (by kernel_rfl) (by kernel_rfl) ⟨(told_true h_1), (by simp only [eq_true h_1, told_simp1, told_simp2, and_true, true_and, and_false, false_and, or_true, true_or, or_false, false_or, not_true_eq_false, not_false_eq_true, decide_true, decide_false, Bool.decide_eq_true])⟩ ?_
      exact ⟨rfl, rfl⟩
    ·
      refine st_reg (A := (AV.b (decide (rep < (0 : Int))) = AV.b false) ∧ (AV.b (decide (rep ≥ (16 : Int))) = AV.b (decide ((16 : Int) ≤ rep))) ∧ (AV.b (decide ((16 : Int) ≤ rep)) = AV.b (decide (rep < (0 : Int) ∨ (16 : Int) ≤ rep)))) (σ' := ⟨[(0, .sl (List.map c3 v)), (1, .i .i64 (rep)), (2, .i .i64 (n)), (7, .ptr (7) (0) (0) (0)), (15, .b (decide (rep < (0 : Int) ∨ (16 : Int) ≤ rep)))], [(7, ⟨0, 24, .var [.i .i64 ((0 : Int)), .i .i64 ((0 : Int))]⟩)]⟩) cx [(1, { tell := some (.b (false)) }), (4, { tell := some (.b (decide ((16 : Int) ≤ rep))) }), (5, { tell := some (.b (decide (rep < (0 : Int) ∨ (16 : Int) ≤ rep))) })] [0, 1, 2, 7, 15] [7] (by kernel_rfl) (by kernel_rfl) ⟨(told_false h_1), (by kernel_rfl), (by simp only [eq_false h_1, told_simp1, told_simp2, and_true, true_and, and_false, false_and, or_true, true_or, or_false, false_or, not_true_eq_false, not_false_eq_true, decide_true, decide_false, Bool.decide_eq_true])⟩ ?_
      exact ⟨rfl, rfl⟩
  ·
    refine q_seq_normal ?_
    refine st_dec (rep < (0 : Int) ∨ (16 : Int) ≤ rep) (by kernel_rfl) (by kernel_rfl) (fun h_2 => ?_) (fun h_2 => ?_)
    ·
      refine st_seq (by kernel_rfl) ?_
      refine st_reg (A := True) (σ' := ⟨[(7, .ptr (7) (0) (0) (0)), (6, .nl), (8, .i .i64 ((3 : Int)))], [(7, ⟨0, 24, .var [.i .i64 ((0 : Int)), .i .i64 ((0 : Int))]⟩)]⟩) cx [] [7, 6, 8] [7] (by kernel_rfl) (by kernel_rfl) trivial ?_
      refine q_seq_normal ?_
      refine st_ret (by kernel_rfl) ?_
      refine q_seq_ret ?_
      exact q_ret (r := .tup [.nl, .agg [.i .i64 ((0 : Int)), .i .i64 ((0 : Int))], .i .i64 ((3 : Int))]) (obl := []) (by kernel_rfl) trivial (AVle.tup (ZLe.cons (AVle.nl' (g2 h_2)) (ZLe.cons (AVle.eq (g1 h_2)) (ZLe.cons (AVle.eq (g0 h_2)) ZLe.nil))))
    ·
      refine st_skip (by kernel_rfl) ?_
      refine q_seq_normal ?_
      refine st_seq (by kernel_rfl) ?_
      refine st_seq (by kernel_rfl) ?_
      refine st_reg (A := (AV.b (decide (n > (1000000000 : Int))) = AV.b (decide ((1000000000 : Int) < n)))) (σ' := ⟨[(0, .sl (List.map c3 v)), (1, .i .i64 (rep)), (2, .i .i64 (n)), (7, .ptr (7) (0) (0) (0)), (18, .b (decide ((1000000000 : Int) < n)))], [(7, ⟨0, 24, .var [.i .i64 ((0 : Int)), .i .i64 ((0 : Int))]⟩)]⟩) cx [(1, { tell := some (.b (decide ((1000000000 : Int) < n))) })] [0, 1, 2, 7, 18] [7] (by kernel_rfl) (by kernel_rfl) (by kernel_rfl) ?_
      refine q_seq_normal ?_
      refine st_dec ((1000000000 : Int) < n) (by kernel_rfl) (by kernel_rfl) (fun h_3 => ?_) (fun h_3 => ?_)
      ·
        refine st_reg (A := True) (σ' := ⟨[(0, .sl (List.map c3 v)), (1, .i .i64 (rep)), (2, .i .i64 ((1000000000 : Int))), (7, .ptr (7) (0) (0) (0))], [(7, ⟨0, 24, .var [.i .i64 ((0 : Int)), .i .i64 ((0 : Int))]⟩)]⟩) cx [] [0, 1, 2, 7] [7] (by kernel_rfl) (by kernel_rfl) trivial ?_
        refine q_seq_normal ?_
        refine st_seq (by kernel_rfl) ?_
        refine st_reg (A := (Con Try.prog (50 : FuncId) [AV.sl (List.map c3 v)] (AV.agg (c61 (of v)))) ∧ ((cA (AV.i IntKind.i64) (of v)).length = (cA (AV.i IntKind.i64) (Vector.replicate (16 : Nat) (0 : Int))).length) ∧ ((cA (AV.i IntKind.i64) (of v)).length = (16 : Nat))) (σ' := ⟨[(1, .i .i64 (rep)), (2, .i .i64 ((1000000000 : Int))), (7, .ptr (7) (0) (0) (0)), (9, .ptr (9) (0) (0) (0))], [(7, ⟨0, 24, .var [.i .i64 ((0 : Int)), .i .i64 ((0 : Int))]⟩), (9, ⟨0, 61, .arr (cA (AV.i IntKind.i64) (of v))⟩)]⟩) cx [(1, { val := some (.agg (cA (AV.i IntKind.i64) (of v))) })] [1, 2, 7, 9] [7, 9] (by kernel_rfl) (by kernel_rfl) ⟨(con50 (v)), (by kernel_rfl), (by kernel_rfl)⟩ ?_
        refine q_seq_normal ?_
        refine st_seq (by kernel_rfl) ?_
        refine st_seq (by kernel_rfl) ?_
        refine st_reg (A := ((0 : Int) ≤ rep) ∧ (rep < (↑(16 : Nat) : Int)) ∧ ((cA (AV.i IntKind.i64) (of v))[rep.toNat * (1 : Nat) + 0]? = some (AV.i IntKind.i64 (of v)[rep.toNat]!)) ∧ (AV.b (decide ((of v)[rep.toNat]! ≥ (1000000000 : Int))) = AV.b (decide ((1000000000 : Int) ≤ (of v)[rep.toNat]!)))) (σ' := ⟨[(1, .i .i64 (rep)), (7, .ptr (7) (0) (0) (0)), (9, .ptr (9) (0) (0) (0)), (25, .b (decide ((1000000000 : Int) ≤ (of v)[rep.toNat]!)))], [(7, ⟨0, 24, .var [.i .i64 ((0 : Int)), .i .i64 ((0 : Int))]⟩), (9, ⟨0, 61, .arr (cA (AV.i IntKind.i64) (of v))⟩)]⟩) cx [(2, { row := [.i .i64 ((of v)[rep.toNat]!)] }), (4, { tell := some (.b (decide ((1000000000 : Int) ≤ (of v)[rep.toNat]!))) })] [1, 7, 9, 25] [7, 9] (by kernel_rfl) (by kernel_rfl) ⟨(by omega), (by omega), (by (simp only [Nat.mul_one, Nat.add_zero, Nat.zero_add]; with_reducible refine get_cA ?_; omega)), (by kernel_rfl)⟩ ?_
        refine q_seq_normal ?_
        refine st_dec ((1000000000 : Int) ≤ (of v)[rep.toNat]!) (by kernel_rfl) (by kernel_rfl) (fun h_4 => ?_) (fun h_4 => ?_)
        ·
          refine st_seq (by kernel_rfl) ?_
          refine st_reg (A := True) (σ' := ⟨[(7, .ptr (7) (0) (0) (0)), (6, .nl), (8, .i .i64 ((9 : Int)))], [(7, ⟨0, 24, .var [.i .i64 ((0 : Int)), .i .i64 ((0 : Int))]⟩)]⟩) cx [] [7, 6, 8] [7] (by kernel_rfl) (by kernel_rfl) trivial ?_
          refine q_seq_normal ?_
          refine st_ret (by kernel_rfl) ?_
          refine q_seq_ret ?_
          exact q_ret (r := .tup [.nl, .agg [.i .i64 ((0 : Int)), .i .i64 ((0 : Int))], .i .i64 ((9 : Int))]) (obl := []) (by kernel_rfl) trivial (AVle.tup (ZLe.cons (AVle.nl' (g5 h_2 h_3 h_4)) (ZLe.cons (AVle.eq (g4 h_2 h_3 h_4)) (ZLe.cons (AVle.eq (g3 h_2 h_3 h_4)) ZLe.nil))))
        ·
          refine st_skip (by kernel_rfl) ?_
          refine q_seq_normal ?_
          refine st_seq (by kernel_rfl) ?_
          refine st_reg (A := ((0 : Int) ≤ rep) ∧ (rep < (↑(16 : Nat) : Int)) ∧ ((cA (AV.i IntKind.i64) (of v))[rep.toNat * (1 : Nat) + 0]? = some (AV.i IntKind.i64 (of v)[rep.toNat]!)) ∧ (AV.i IntKind.i64 (IntKind.i64.wrap ((of v)[rep.toNat]! + (1 : Int))) = AV.i IntKind.i64 ((of v)[rep.toNat]! + (1 : Int))) ∧ ((0 : Int) ≤ rep) ∧ (rep < (↑(16 : Nat) : Int)) ∧ (rep.toNat * (1 : Nat) + 0 < (cA (AV.i IntKind.i64) (of v)).length) ∧ (cellsA (AV.i IntKind.i64 ((of v)[rep.toNat]! + (1 : Int))) = [(cellsA (AV.i IntKind.i64 ((of v)[rep.toNat]! + (1 : Int)))).headD AV.dead]) ∧ ((cA (AV.i IntKind.i64) (of v)).set (rep.toNat * (1 : Nat) + 0) ((cellsA (AV.i IntKind.i64 ((of v)[rep.toNat]! + (1 : Int)))).headD AV.dead) = cA (AV.i IntKind.i64) ((of v).setIfInBounds rep.toNat ((of v)[rep.toNat]! + (1 : Int))))) (σ' := ⟨[(1, .i .i64 (rep)), (7, .ptr (7) (0) (0) (0)), (9, .ptr (9) (0) (0) (0))], [(7, ⟨0, 24, .var [.i .i64 ((0 : Int)), .i .i64 ((0 : Int))]⟩), (9, ⟨0, 61, .arr (cA (AV.i IntKind.i64) ((of v).setIfInBounds rep.toNat ((of v)[rep.toNat]! + (1 : Int))))⟩)]⟩) cx [(2, { row := [.i .i64 ((of v)[rep.toNat]!)] }), (3, { tell := some (.i .i64 ((of v)[rep.toNat]! + (1 : Int))) }), (5, { rows := some [(cA (AV.i IntKind.i64) ((of v).setIfInBounds rep.toNat ((of v)[rep.toNat]! + (1 : Int))))] })] [1, 7, 9] [7, 9] (by kernel_rfl) (by kernel_rfl) ⟨(by omega), (by omega), (by (simp only [Nat.mul_one, Nat.add_zero, Nat.zero_add]; with_reducible refine get_cA ?_; omega)), (told_i64 (g6 h_2 h_3 h_4) (by omega)), (by omega), (by omega), (by (simp only [List.length_set, List.length_map, List.length_append, List.length_replicate, List.length_cons, List.length_nil, Go.maxLen, Nat.mul_one, Nat.add_zero, Nat.zero_add, Nat.one_mul, len_cA]; omega)), (by kernel_rfl), (by (simp only [Nat.mul_one, Nat.add_zero, Nat.zero_add]; with_reducible refine set_cA ?_; kernel_rfl))⟩ ?_
          refine q_seq_normal ?_
          refine st_seq (by kernel_rfl) ?_
          refine st_any (A := ((cA (AV.i IntKind.i64) ((of v).setIfInBounds rep.toNat ((of v)[rep.toNat]! + (1 : Int)))).length = (16 : Nat)) ∧ (Con Try.prog (52 : FuncId) [AV.agg (c61 ((of v).setIfInBounds rep.toNat ((of v)[rep.toNat]! + (1 : Int))))] (AV.sl (List.map c3 (short ((of v).setIfInBounds rep.toNat ((of v)[rep.toNat]! + (1 : Int))))))) ∧ ((0 : Int) ≤ rep) ∧ (rep < (↑(16 : Nat) : Int)) ∧ ((cA (AV.i IntKind.i64) ((of v).setIfInBounds rep.toNat ((of v)[rep.toNat]! + (1 : Int))))[rep.toNat * (1 : Nat) + 0]? = some (AV.i IntKind.i64 ((of v).setIfInBounds rep.toNat ((of v)[rep.toNat]! + (1 : Int)))[rep.toNat]!))) (σ' := ⟨[(7, .ptr (7) (0) (0) (0)), (6, .sl (List.map c3 (short ((of v).setIfInBounds rep.toNat ((of v)[rep.toNat]! + (1 : Int)))))), (8, .i .i64 ((0 : Int)))], [(7, ⟨0, 24, .var [.i .i64 (rep), .i .i64 (((of v).setIfInBounds rep.toNat ((of v)[rep.toNat]! + (1 : Int)))[rep.toNat]!)]⟩)]⟩) cx [(1, { val := some (.sl (List.map c3 (short ((of v).setIfInBounds rep.toNat ((of v)[rep.toNat]! + (1 : Int)))))) }), (5, { row := [.i .i64 (((of v).setIfInBounds rep.toNat ((of v)[rep.toNat]! + (1 : Int)))[rep.toNat]!)] })] [7, 6, 8] [7] (by kernel_rfl) (by kernel_rfl) ⟨(by (simp only [len_cA]; done)), (con52 ((of v).setIfInBounds rep.toNat ((of v)[rep.toNat]! + (1 : Int)))), (by omega), (by omega), (by (simp only [Nat.mul_one, Nat.add_zero, Nat.zero_add]; with_reducible refine get_cA ?_; omega))⟩ ?_
          refine q_seq_normal ?_
          refine st_ret (by kernel_rfl) ?_
          exact q_ret (r := .tup [.sl (List.map c3 (short ((of v).setIfInBounds rep.toNat ((of v)[rep.toNat]! + (1 : Int))))), .agg [.i .i64 (rep), .i .i64 (((of v).setIfInBounds rep.toNat ((of v)[rep.toNat]! + (1 : Int)))[rep.toNat]!)], .i .i64 ((0 : Int))]) (obl := []) (by kernel_rfl) trivial (AVle.tup (ZLe.cons (AVle.eq (g9 h_2 h_3 h_4)) (ZLe.cons (AVle.eq (g8 h_2 h_3 h_4)) (ZLe.cons (AVle.eq (g7 h_2 h_3 h_4)) ZLe.nil))))
      ·
        refine st_skip (by kernel_rfl) ?_
        refine q_seq_normal ?_
        refine st_seq (by kernel_rfl) ?_
        refine st_reg (A := (Con Try.prog (50 : FuncId) [AV.sl (List.map c3 v)] (AV.agg (c61 (of v)))) ∧ ((cA (AV.i IntKind.i64) (of v)).length = (cA (AV.i IntKind.i64) (Vector.replicate (16 : Nat) (0 : Int))).length) ∧ ((cA (AV.i IntKind.i64) (of v)).length = (16 : Nat))) (σ' := ⟨[(1, .i .i64 (rep)), (2, .i .i64 (n)), (7, .ptr (7) (0) (0) (0)), (9, .ptr (9) (0) (0) (0))], [(7, ⟨0, 24, .var [.i .i64 ((0 : Int)), .i .i64 ((0 : Int))]⟩), (9, ⟨0, 61, .arr (cA (AV.i IntKind.i64) (of v))⟩)]⟩) cx [(1, { val := some (.agg (cA (AV.i IntKind.i64) (of v))) })] [1, 2, 7, 9] [7, 9] (by kernel_rfl) (by kernel_rfl) ⟨(con50 (v)), (by kernel_rfl), (by kernel_rfl)⟩ ?_
        refine q_seq_normal ?_
        refine st_seq (by kernel_rfl) ?_
        refine st_seq (by kernel_rfl) ?_
        refine st_reg (A := ((0 : Int) ≤ rep) ∧ (rep < (↑(16 : Nat) : Int)) ∧ ((cA (AV.i IntKind.i64) (of v))[rep.toNat * (1 : Nat) + 0]? = some (AV.i IntKind.i64 (of v)[rep.toNat]!)) ∧ (AV.b (decide ((of v)[rep.toNat]! ≥ n)) = AV.b (decide (n ≤ (of v)[rep.toNat]!)))) (σ' := ⟨[(1, .i .i64 (rep)), (7, .ptr (7) (0) (0) (0)), (9, .ptr (9) (0) (0) (0)), (25, .b (decide (n ≤ (of v)[rep.toNat]!)))], [(7, ⟨0, 24, .var [.i .i64 ((0 : Int)), .i .i64 ((0 : Int))]⟩), (9, ⟨0, 61, .arr (cA (AV.i IntKind.i64) (of v))⟩)]⟩) cx [(2, { row := [.i .i64 ((of v)[rep.toNat]!)] }), (4, { tell := some (.b (decide (n ≤ (of v)[rep.toNat]!))) })] [1, 7, 9, 25] [7, 9] (by kernel_rfl) (by kernel_rfl) ⟨(by omega), (by omega), (by (simp only [Nat.mul_one, Nat.add_zero, Nat.zero_add]; with_reducible refine get_cA ?_; omega)), (by kernel_rfl)⟩ ?_
        refine q_seq_normal ?_
        refine st_dec (n ≤ (of v)[rep.toNat]!) (by kernel_rfl) (by kernel_rfl) (fun h_5 => ?_) (fun h_5 => ?_)
        ·
          refine st_seq (by kernel_rfl) ?_
          refine st_reg (A := True) (σ' := ⟨[(7, .ptr (7) (0) (0) (0)), (6, .nl), (8, .i .i64 ((9 : Int)))], [(7, ⟨0, 24, .var [.i .i64 ((0 : Int)), .i .i64 ((0 : Int))]⟩)]⟩) cx [] [7, 6, 8] [7] (by kernel_rfl) (by kernel_rfl) trivial ?_
          refine q_seq_normal ?_
          refine st_ret (by kernel_rfl) ?_
          refine q_seq_ret ?_
          exact q_ret (r := .tup [.nl, .agg [.i .i64 ((0 : Int)), .i .i64 ((0 : Int))], .i .i64 ((9 : Int))]) (obl := []) (by kernel_rfl) trivial (AVle.tup (ZLe.cons (AVle.nl' (g12 h_2 h_3 h_5)) (ZLe.cons (AVle.eq (g11 h_2 h_3 h_5)) (ZLe.cons (AVle.eq (g10 h_2 h_3 h_5)) ZLe.nil))))
        ·
          refine st_skip (by kernel_rfl) ?_
          refine q_seq_normal ?_
          refine st_seq (by kernel_rfl) ?_
          refine st_reg (A := ((0 : Int) ≤ rep) ∧ (rep < (↑(16 : Nat) : Int)) ∧ ((cA (AV.i IntKind.i64) (of v))[rep.toNat * (1 : Nat) + 0]? = some (AV.i IntKind.i64 (of v)[rep.toNat]!)) ∧ (AV.i IntKind.i64 (IntKind.i64.wrap ((of v)[rep.toNat]! + (1 : Int))) = AV.i IntKind.i64 ((of v)[rep.toNat]! + (1 : Int))) ∧ ((0 : Int) ≤ rep) ∧ (rep < (↑(16 : Nat) : Int)) ∧ (rep.toNat * (1 : Nat) + 0 < (cA (AV.i IntKind.i64) (of v)).length) ∧ (cellsA (AV.i IntKind.i64 ((of v)[rep.toNat]! + (1 : Int))) = [(cellsA (AV.i IntKind.i64 ((of v)[rep.toNat]! + (1 : Int)))).headD AV.dead]) ∧ ((cA (AV.i IntKind.i64) (of v)).set (rep.toNat * (1 : Nat) + 0) ((cellsA (AV.i IntKind.i64 ((of v)[rep.toNat]! + (1 : Int)))).headD AV.dead) = cA (AV.i IntKind.i64) ((of v).setIfInBounds rep.toNat ((of v)[rep.toNat]! + (1 : Int))))) (σ' := ⟨[(1, .i .i64 (rep)), (7, .ptr (7) (0) (0) (0)), (9, .ptr (9) (0) (0) (0))], [(7, ⟨0, 24, .var [.i .i64 ((0 : Int)), .i .i64 ((0 : Int))]⟩), (9, ⟨0, 61, .arr (cA (AV.i IntKind.i64) ((of v).setIfInBounds rep.toNat ((of v)[rep.toNat]! + (1 : Int))))⟩)]⟩) cx [(2, { row := [.i .i64 ((of v)[rep.toNat]!)] }), (3, { tell := some (.i .i64 ((of v)[rep.toNat]! + (1 : Int))) }), (5, { rows := some [(cA (AV.i IntKind.i64) ((of v).setIfInBounds rep.toNat ((of v)[rep.toNat]! + (1 : Int))))] })] [1, 7, 9] [7, 9] (by kernel_rfl) (by kernel_rfl) ⟨(by omega), (by omega), (by (simp only [Nat.mul_one, Nat.add_zero, Nat.zero_add]; with_reducible refine get_cA ?_; omega)), (told_i64 (g13 h_2 h_3 h_5) (by omega)), (by omega), (by omega), (by (simp only [List.length_set, List.length_map, List.length_append, List.length_replicate, List.length_cons, List.length_nil, Go.maxLen, Nat.mul_one, Nat.add_zero, Nat.zero_add, Nat.one_mul, len_cA]; omega)), (by kernel_rfl), (by (simp only [Nat.mul_one, Nat.add_zero, Nat.zero_add]; with_reducible refine set_cA ?_; kernel_rfl))⟩ ?_
          refine q_seq_normal ?_
          refine st_seq (by kernel_rfl) ?_
          refine st_any (A := ((cA (AV.i IntKind.i64) ((of v).setIfInBounds rep.toNat ((of v)[rep.toNat]! + (1 : Int)))).length = (16 : Nat)) ∧ (Con Try.prog (52 : FuncId) [AV.agg (c61 ((of v).setIfInBounds rep.toNat ((of v)[rep.toNat]! + (1 : Int))))] (AV.sl (List.map c3 (short ((of v).setIfInBounds rep.toNat ((of v)[rep.toNat]! + (1 : Int))))))) ∧ ((0 : Int) ≤ rep) ∧ (rep < (↑(16 : Nat) : Int)) ∧ ((cA (AV.i IntKind.i64) ((of v).setIfInBounds rep.toNat ((of v)[rep.toNat]! + (1 : Int))))[rep.toNat * (1 : Nat) + 0]? = some (AV.i IntKind.i64 ((of v).setIfInBounds rep.toNat ((of v)[rep.toNat]! + (1 : Int)))[rep.toNat]!))) (σ' := ⟨[(7, .ptr (7) (0) (0) (0)), (6, .sl (List.map c3 (short ((of v).setIfInBounds rep.toNat ((of v)[rep.toNat]! + (1 : Int)))))), (8, .i .i64 ((0 : Int)))], [(7, ⟨0, 24, .var [.i .i64 (rep), .i .i64 (((of v).setIfInBounds rep.toNat ((of v)[rep.toNat]! + (1 : Int)))[rep.toNat]!)]⟩)]⟩) cx [(1, { val := some (.sl (List.map c3 (short ((of v).setIfInBounds rep.toNat ((of v)[rep.toNat]! + (1 : Int)))))) }), (5, { row := [.i .i64 (((of v).setIfInBounds rep.toNat ((of v)[rep.toNat]! + (1 : Int)))[rep.toNat]!)] })] [7, 6, 8] [7] (by kernel_rfl) (by kernel_rfl) ⟨(by (simp only [len_cA]; done)), (con52 ((of v).setIfInBounds rep.toNat ((of v)[rep.toNat]! + (1 : Int)))), (by omega), (by omega), (by (simp only [Nat.mul_one, Nat.add_zero, Nat.zero_add]; with_reducible refine get_cA ?_; omega))⟩ ?_
          refine q_seq_normal ?_
          refine st_ret (by kernel_rfl) ?_
          exact q_ret (r := .tup [.sl (List.map c3 (short ((of v).setIfInBounds rep.toNat ((of v)[rep.toNat]! + (1 : Int))))), .agg [.i .i64 (rep), .i .i64 (((of v).setIfInBounds rep.toNat ((of v)[rep.toNat]! + (1 : Int)))[rep.toNat]!)], .i .i64 ((0 : Int))]) (obl := []) (by kernel_rfl) trivial (AVle.tup (ZLe.cons (AVle.eq (g16 h_2 h_3 h_5)) (ZLe.cons (AVle.eq (g15 h_2 h_3 h_5)) (ZLe.cons (AVle.eq (g14 h_2 h_3 h_5)) ZLe.nil))))
theorem con21 (v : List Int) (rep n : Int) : Con Try.prog 21 [.sl (v.map c3), .i .i64 rep, .i .i64 n] (.tup [.sl ((bumpV v rep n).1.map c3), .agg (c24 (bumpV v rep n).2.1), .i .i64 (bumpV v rep n).2.2]) :=
  by
  have key := of_range v
  apply walk21 v rep n <;> intros <;> first
    | (have := key rep.toNat (by omega); omega)
    | (unfold bumpV; (repeat' split) <;> first | (exfalso; omega) | (simp only [List.map_nil]; done) | (dsimp only; done) | (rw [get_setV (by omega), if_pos rfl]))
theorem walk62 (b : Bool)
    (g0 : b = true → AV.i IntKind.i64 (-1 : Int) = AV.i IntKind.i64 (sgn b))
    (g1 : b = false → AV.i IntKind.i64 (1 : Int) = AV.i IntKind.i64 (sgn b)) :
    Con Try.prog (62 : FuncId) [AV.b b] (AV.i IntKind.i64 (sgn b)) := by
  refine st_con tab_ok (by kernel_rfl) [.tmp 2] 4 Go.Proofs.Try.func62 (by kernel_rfl) (by kernel_rfl) ?_
  intro e0 cx
  refine st_seq (by kernel_rfl) ?_
  refine st_reg (A := True) (σ' := ⟨[(0, .b (b))], []⟩) cx [] [0] [] (by kernel_rfl) (by kernel_rfl) trivial ?_
  refine q_seq_normal ?_
  refine st_seq (by kernel_rfl) ?_
  refine st_seq (by kernel_rfl) ?_
  refine st_reg (A := True) (σ' := ⟨[(3, .b (b))], []⟩) cx [] [3] [] (by kernel_rfl) (by kernel_rfl) trivial ?_
  refine q_seq_normal ?_
  refine st_cond (b) (by kernel_rfl) (by kernel_rfl) (fun h_0 => ?_) (fun h_0 => ?_)
  ·
    refine st_seq (by kernel_rfl) ?_
    refine st_reg (A := True) (σ' := ⟨[(2, .i .i64 ((-1 : Int)))], []⟩) cx [] [2] [] (by kernel_rfl) (by kernel_rfl) trivial ?_
    refine q_seq_normal ?_
    refine st_ret (by kernel_rfl) ?_
    refine q_seq_ret ?_
    exact q_ret (r := .i .i64 ((-1 : Int))) (obl := []) (by kernel_rfl) trivial (AVle.eq (g0 h_0))
  ·
    refine st_skip (by kernel_rfl) ?_
    refine q_seq_normal ?_
    refine st_seq (by kernel_rfl) ?_
    refine st_reg (A := True) (σ' := ⟨[(2, .i .i64 ((1 : Int)))], []⟩) cx [] [2] [] (by kernel_rfl) (by kernel_rfl) trivial ?_
    refine q_seq_normal ?_
    refine st_ret (by kernel_rfl) ?_
    exact q_ret (r := .i .i64 ((1 : Int))) (obl := []) (by kernel_rfl) trivial (AVle.eq (g1 h_0))
theorem con62 (b : Bool) : Con Try.prog 62 [.b b] (.i .i64 (sgn b)) :=
  by apply walk62 b <;> (intro h; rw [h]; rfl)
end Go.Proofs.Ytoeifjooljkpaaa
