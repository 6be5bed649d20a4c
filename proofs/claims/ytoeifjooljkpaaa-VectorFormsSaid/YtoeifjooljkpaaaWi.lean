/- Wi: walks, written by a program of this claim's own: what each function hands back. Conditions: the hypotheses named g. -/
import Derived.Test.YtoeifjooljkpaaaWh
import Derived.Test.YtoeifjooljkpaaaEP
set_option linter.unusedVariables false
set_option linter.unusedSimpArgs false
namespace Go.Proofs.Ytoeifjooljkpaaa
open Go.E
set_option maxRecDepth 100000
theorem walk6 (v : List Int)
    (g0 : ¬short (of v) = short (of v) → AV.b false = AV.b true) :
    Con Try.prog (6 : FuncId) [AV.sl (List.map c3 v)] (AV.b true) := by
  refine st_con tab_ok (by kernel_rfl) [.tmp 2] 44 Go.Proofs.Try.func6 (by kernel_rfl) (by kernel_rfl) ?_
  intro e0 cx
  refine st_seq (by kernel_rfl) ?_
  refine st_reg (A := True) (σ' := ⟨[(0, .sl (List.map c3 v))], []⟩) cx [] [0] [] (by kernel_rfl) (by kernel_rfl) trivial ?_
  refine q_seq_normal ?_
  refine st_seq (by kernel_rfl) ?_
  refine st_seq (by kernel_rfl) ?_
  refine st_reg (A := (Con Try.prog (24 : FuncId) [] (AV.b true)) ∧ (Flat (AV.b true)) ∧ (Con Try.prog (31 : FuncId) [AV.sl (List.map c3 [(0 : Int), (3 : Int)])] (AV.b (decide ([(0 : Int), (3 : Int)] = short (of [(0 : Int), (3 : Int)]))))) ∧ (Flat (AV.b false)) ∧ (Con Try.prog (31 : FuncId) [AV.sl (List.map c3 [(3 : Int), (0 : Int)])] (AV.b (decide ([(3 : Int), (0 : Int)] = short (of [(3 : Int), (0 : Int)]))))) ∧ (Flat (AV.i IntKind.i64 (7 : Int))) ∧ (Con Try.prog (32 : FuncId) [AV.sl (List.map c3 [(3 : Int), (-1 : Int), (4 : Int)])] (AV.i IntKind.i64 (sumN (of [(3 : Int), (-1 : Int), (4 : Int)]) (16 : Nat))))) (σ' := ⟨[(0, .sl (List.map c3 v)), (21, .b (false))], []⟩) cx [(0, { val := some (.b (true)) }), (4, { val := some (.b (true)), flat := true }), (9, { val := some (.b (false)), flat := true }), (13, { val := some (.i .i64 ((7 : Int))), flat := true })] [0, 21] [] (by kernel_rfl) (by kernel_rfl) ⟨(con24 ), (by exact Flat.b _), (con31 ([(0 : Int), (3 : Int)])), (by exact Flat.b _), (con31 ([(3 : Int), (0 : Int)])), (by exact Flat.i _ _), (con32 ([(3 : Int), (-1 : Int), (4 : Int)]))⟩ ?_
  refine q_seq_normal ?_
  refine st_false (by kernel_rfl) (by kernel_rfl) ?_
  refine st_skip (by kernel_rfl) ?_
  refine q_seq_normal ?_
  refine st_seq (by kernel_rfl) ?_
  refine st_reg (A := (Con Try.prog (33 : FuncId) [AV.sl (List.map c3 v)] (AV.sl (List.map c3 (short (of v)))))) (σ' := ⟨[(0, .sl (List.map c3 v)), (3, .sl (List.map c3 (short (of v))))], []⟩) cx [(1, { val := some (.sl (List.map c3 (short (of v)))) })] [0, 3] [] (by kernel_rfl) (by kernel_rfl) (con33 (v)) ?_
  refine q_seq_normal ?_
  refine st_seq (by kernel_rfl) ?_
  refine st_reg (A := (Con Try.prog (34 : FuncId) [AV.sl (List.map c3 v)] (AV.b (decide (v = short (of v)))))) (σ' := ⟨[(0, .sl (List.map c3 v)), (3, .sl (List.map c3 (short (of v)))), (4, .b (decide (v = short (of v))))], []⟩) cx [(1, { val := some (.b (decide (v = short (of v)))) })] [0, 3, 4] [] (by kernel_rfl) (by kernel_rfl) (con34 (v)) ?_
  refine q_seq_normal ?_
  refine st_seq (by kernel_rfl) ?_
  refine st_reg (A := (Con Try.prog (35 : FuncId) [AV.sl (List.map c3 v)] (AV.i IntKind.i64 (sumN (of v) (16 : Nat))))) (σ' := ⟨[(0, .sl (List.map c3 v)), (3, .sl (List.map c3 (short (of v)))), (4, .b (decide (v = short (of v)))), (5, .i .i64 (sumN (of v) (16 : Nat)))], []⟩) cx [(1, { val := some (.i .i64 (sumN (of v) (16 : Nat))) })] [0, 3, 4, 5] [] (by kernel_rfl) (by kernel_rfl) (con35 (v)) ?_
  refine q_seq_normal ?_
  refine st_seq (by kernel_rfl) ?_
  refine st_split (short (of v) = short (of v)) (fun h_0 => ?_) (fun h_0 => ?_)
  ·
    refine st_reg (A := (Con Try.prog (36 : FuncId) [AV.sl (List.map c3 v)] (AV.sl (List.map c3 (short (of v))))) ∧ (AV.b (decide (short (of v) = short (of v))) = AV.b true) ∧ (Con Try.prog (20 : FuncId) [AV.sl (List.map c3 (short (of v))), AV.sl (List.map c3 (short (of v)))] (AV.b (decide (short (of v) = short (of v))))) ∧ (Con Try.prog (31 : FuncId) [AV.sl (List.map c3 v)] (AV.b (decide (v = short (of v))))) ∧ (AV.b (decide (v = short (of v)) == decide (v = short (of v))) = AV.b true) ∧ (Con Try.prog (32 : FuncId) [AV.sl (List.map c3 v)] (AV.i IntKind.i64 (sumN (of v) (16 : Nat)))) ∧ (AV.b (sumN (of v) (16 : Nat) == sumN (of v) (16 : Nat)) = AV.b true)) (σ' := ⟨[(2, .b (true))], []⟩) cx [(1, { val := some (.sl (List.map c3 (short (of v)))) }), (3, { val := some (.b (decide (short (of v) = short (of v)))), tell := some (.b (true)) }), (6, { val := some (.b (decide (v = short (of v)))) }), (8, { tell := some (.b (true)) }), (12, { val := some (.i .i64 (sumN (of v) (16 : Nat))) }), (14, { tell := some (.b (true)) })] [2] [] (by kernel_rfl) (by kernel_rfl) ⟨(con36 (v)), (told_true h_0), (con20 (short (of v)) (short (of v))), (con31 (v)), (told_beqs), (con32 (v)), (told_ies)⟩ ?_
    refine q_seq_normal ?_
    refine st_ret (by kernel_rfl) ?_
    exact q_ret (r := .b (true)) (obl := []) (by kernel_rfl) trivial rfl
  ·
    refine st_reg (A := (Con Try.prog (36 : FuncId) [AV.sl (List.map c3 v)] (AV.sl (List.map c3 (short (of v))))) ∧ (AV.b (decide (short (of v) = short (of v))) = AV.b false) ∧ (Con Try.prog (20 : FuncId) [AV.sl (List.map c3 (short (of v))), AV.sl (List.map c3 (short (of v)))] (AV.b (decide (short (of v) = short (of v)))))) (σ' := ⟨[(2, .b (false))], []⟩) cx [(1, { val := some (.sl (List.map c3 (short (of v)))) }), (3, { val := some (.b (decide (short (of v) = short (of v)))), tell := some (.b (false)) })] [2] [] (by kernel_rfl) (by kernel_rfl) ⟨(con36 (v)), (told_false h_0), (con20 (short (of v)) (short (of v)))⟩ ?_
    refine q_seq_normal ?_
    refine st_ret (by kernel_rfl) ?_
    exact q_ret (r := .b (false)) (obl := []) (by kernel_rfl) trivial (g0 h_0)
theorem con6 (v : List Int) : Con Try.prog 6 [.sl (v.map c3)] (.b true) := walk6 v (fun h => absurd rfl h)
end Go.Proofs.Ytoeifjooljkpaaa
