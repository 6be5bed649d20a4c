/- Wo: most: is one vector nowhere more than another. Conditions: none. -/
import Derived.Test.YtoeifjooljkpaaaWq
import Derived.Test.YtoeifjooljkpaaaWg
set_option linter.unusedVariables false
set_option linter.unusedSimpArgs false
namespace Go.Proofs.Ytoeifjooljkpaaa
open Go.E
set_option maxRecDepth 100000
set_option maxHeartbeats 4000000
theorem walk44 (a : List Int) (b : List Int)
    (g0 : AV.b (decide (ordV (of a) (of b) = (0 : Int) ∨ ordV (of a) (of b) = (1 : Int))) = AV.b (decide (leV (of a) (of b)))) :
    Con Try.prog (44 : FuncId) [AV.sl (List.map c3 a), AV.sl (List.map c3 b)] (AV.b (decide (leV (of a) (of b)))) := by
  refine con_lens 0 (c3) (a) (by kernel_rfl) Go.Proofs.Try.func44 (by kernel_rfl) fun hl_0 => ?_
  refine con_lens 1 (c3) (b) (by kernel_rfl) Go.Proofs.Try.func44 (by kernel_rfl) fun hl_1 => ?_
  refine st_con tab_ok (by kernel_rfl) [.tmp 4] 15 Go.Proofs.Try.func44 (by kernel_rfl) (by kernel_rfl) ?_
  intro e0 cx
  refine st_seq (by kernel_rfl) ?_
  refine st_reg (A := True) (σ' := ⟨[(0, .sl (List.map c3 a)), (1, .sl (List.map c3 b))], []⟩) cx [] [0, 1] [] (by kernel_rfl) (by kernel_rfl) trivial ?_
  refine q_seq_normal ?_
  refine st_seq (by kernel_rfl) ?_
  refine st_reg (A := (Con Try.prog (37 : FuncId) [AV.sl (List.map c3 a), AV.sl (List.map c3 b)] (AV.i IntKind.i64 (ordV (of a) (of b))))) (σ' := ⟨[(5, .i .i64 (ordV (of a) (of b)))], []⟩) cx [(2, { val := some (.i .i64 (ordV (of a) (of b))) })] [5] [] (by kernel_rfl) (by kernel_rfl) (con37 (a) (b)) ?_
  refine q_seq_normal ?_
  refine st_seq (by kernel_rfl) ?_
  refine st_join (σ' := ⟨[(4, .b (decide (ordV (of a) (of b) = (0 : Int) ∨ ordV (of a) (of b) = (1 : Int))))], []⟩) ?_ ?_
  ·
    refine st_split (ordV (of a) (of b) = (0 : Int)) (fun h_1 => ?_) (fun h_1 => ?_)
    ·
      refine st_reg (A := (AV.b (ordV (of a) (of b) == (0 : Int)) = AV.b true) ∧ (AV.b true = AV.b (decide (ordV (of a) (of b) = (0 : Int) ∨ ordV (of a) (of b) = (1 : Int))))) (σ' := ⟨[(4, .b (decide (ordV (of a) (of b) = (0 : Int) ∨ ordV (of a) (of b) = (1 : Int))))], []⟩) cx [(1, { tell := some (.b (true)) }), (6, { tell := some (.b (decide (ordV (of a) (of b) = (0 : Int) ∨ ordV (of a) (of b) = (1 : Int)))) })] [4] [] (by kernel_rfl) (by kernel_rfl) ⟨(told_true h_1), (by simp only [eq_true h_1, told_simp1, told_simp2, and_true, true_and, and_false, false_and, or_true, true_or, or_false, false_or, not_true_eq_false, not_false_eq_true, decide_true, decide_false, Bool.decide_eq_true])⟩ ?_
      exact ⟨rfl, rfl⟩
    ·
      refine st_reg (A := (AV.b (ordV (of a) (of b) == (0 : Int)) = AV.b false) ∧ (AV.b (ordV (of a) (of b) == (1 : Int)) = AV.b (decide (ordV (of a) (of b) = (1 : Int)))) ∧ (AV.b (decide (ordV (of a) (of b) = (1 : Int))) = AV.b (decide (ordV (of a) (of b) = (0 : Int) ∨ ordV (of a) (of b) = (1 : Int))))) (σ' := ⟨[(4, .b (decide (ordV (of a) (of b) = (0 : Int) ∨ ordV (of a) (of b) = (1 : Int))))], []⟩) cx [(1, { tell := some (.b (false)) }), (4, { tell := some (.b (decide (ordV (of a) (of b) = (1 : Int)))) }), (6, { tell := some (.b (decide (ordV (of a) (of b) = (0 : Int) ∨ ordV (of a) (of b) = (1 : Int)))) })] [4] [] (by kernel_rfl) (by kernel_rfl) ⟨(told_false h_1), (by kernel_rfl), (by simp only [eq_false h_1, told_simp1, told_simp2, and_true, true_and, and_false, false_and, or_true, true_or, or_false, false_or, not_true_eq_false, not_false_eq_true, decide_true, decide_false, Bool.decide_eq_true])⟩ ?_
      exact ⟨rfl, rfl⟩
  ·
    refine q_seq_normal ?_
    refine st_ret (by kernel_rfl) ?_
    exact q_ret (r := .b (decide (ordV (of a) (of b) = (0 : Int) ∨ ordV (of a) (of b) = (1 : Int)))) (obl := []) (by kernel_rfl) trivial (AVle.eq g0)
theorem con44 (a b : List Int) : Con Try.prog 44 [.sl (a.map c3), .sl (b.map c3)] (.b (decide (leV (of a) (of b)))) :=
  walk44 a b (by rw [le_most, Bool.decide_or])
end Go.Proofs.Ytoeifjooljkpaaa
