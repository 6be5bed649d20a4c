/- Wh: walks, written by a program of this claim's own, and what each function hands back. Conditions: none. -/
import Derived.Test.YtoeifjooljkpaaaWg
import Derived.Test.YtoeifjooljkpaaaEP
set_option linter.unusedVariables false
set_option linter.unusedSimpArgs false
namespace Go.Proofs.Ytoeifjooljkpaaa
open Go.E
set_option maxRecDepth 100000
theorem walk24  :
    Con Try.prog (24 : FuncId) [] (AV.b true) := by
  refine st_con tab_ok (by kernel_rfl) [.tmp 0] 7 Go.Proofs.Try.func24 (by kernel_rfl) (by kernel_rfl) ?_
  intro e0 cx
  refine st_seq (by kernel_rfl) ?_
  refine st_reg (A := True) (σ' := ⟨[], []⟩) cx [] [] [] (by kernel_rfl) (by kernel_rfl) trivial ?_
  refine q_seq_normal ?_
  refine st_seq (by kernel_rfl) ?_
  refine st_reg (A := (Con Try.prog (26 : FuncId) [AV.sl (List.map c22 [[(1 : Int), (5 : Int)], [(2 : Int), (3 : Int), (4 : Int)]])] (AV.sl (List.map c3 (short (mergeL (Vector.replicate (16 : Nat) (0 : Int)) [[(1 : Int), (5 : Int)], [(2 : Int), (3 : Int), (4 : Int)]]))))) ∧ (Flat (AV.b true)) ∧ (Con Try.prog (20 : FuncId) [AV.sl (List.map c3 (short (mergeL (Vector.replicate (16 : Nat) (0 : Int)) [[(1 : Int), (5 : Int)], [(2 : Int), (3 : Int), (4 : Int)]]))), AV.sl (List.map c3 [(2 : Int), (5 : Int), (4 : Int)])] (AV.b (decide (short (mergeL (Vector.replicate (16 : Nat) (0 : Int)) [[(1 : Int), (5 : Int)], [(2 : Int), (3 : Int), (4 : Int)]]) = [(2 : Int), (5 : Int), (4 : Int)]))))) (σ' := ⟨[(0, .b (true))], []⟩) cx [(3, { val := some (.sl (List.map c3 (short (mergeL (Vector.replicate (16 : Nat) (0 : Int)) [[(1 : Int), (5 : Int)], [(2 : Int), (3 : Int), (4 : Int)]])))) }), (5, { val := some (.b (true)), flat := true })] [0] [] (by kernel_rfl) (by kernel_rfl) ⟨(con26 ([[(1 : Int), (5 : Int)], [(2 : Int), (3 : Int), (4 : Int)]])), (by exact Flat.b _), (con20 (short (mergeL (Vector.replicate (16 : Nat) (0 : Int)) [[(1 : Int), (5 : Int)], [(2 : Int), (3 : Int), (4 : Int)]])) ([(2 : Int), (5 : Int), (4 : Int)]))⟩ ?_
  refine q_seq_normal ?_
  refine st_ret (by kernel_rfl) ?_
  exact q_ret (r := .b (true)) (obl := []) (by kernel_rfl) trivial (AVle.refl _)
theorem con24  : Con Try.prog 24 [] (.b true) :=
  walk24
end Go.Proofs.Ytoeifjooljkpaaa
