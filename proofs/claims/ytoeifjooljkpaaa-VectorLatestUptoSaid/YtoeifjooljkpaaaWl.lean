/- Wl: laws of Sort and Heads. Conditions: sizes. -/
import Derived.Test.YtoeifjooljkpaaaWla
set_option linter.unusedVariables false
set_option linter.unusedSimpArgs false
namespace Go.Proofs.Ytoeifjooljkpaaa
open Go.E
set_option maxRecDepth 100000
set_option maxHeartbeats 4000000
theorem walk13 (vs : List (List Int)) (hs : sz38 vs) (hl : vs.length * (128 : Nat) ≤ (140737488351232 : Nat))
    (g0 : ¬List.map short ((List.map of [[(3 : Int)], [(1 : Int), (2 : Int)], [(0 : Int), (1 : Int)]]).mergeSort fun x y ↦ !ltV y x) = [[(0 : Int), (1 : Int)], [(1 : Int), (2 : Int)], [(3 : Int)]] → AV.b false = AV.b true)
    (g1 : ¬¬List.map short ((List.map of [[(3 : Int)], [(1 : Int), (2 : Int)], [(0 : Int), (1 : Int)]]).mergeSort fun x y ↦ !ltV y x) = [[(0 : Int), (1 : Int)], [(1 : Int), (2 : Int)], [(3 : Int)]] → ¬List.map short ((List.map of vs).mergeSort fun x y ↦ !ltV y x) = List.map short (srtV vs) → AV.b false = AV.b true)
    (g2 : ¬¬List.map short ((List.map of [[(3 : Int)], [(1 : Int), (2 : Int)], [(0 : Int), (1 : Int)]]).mergeSort fun x y ↦ !ltV y x) = [[(0 : Int), (1 : Int)], [(1 : Int), (2 : Int)], [(3 : Int)]] → ¬¬List.map short ((List.map of vs).mergeSort fun x y ↦ !ltV y x) = List.map short (srtV vs) → (headsV vs).fst = (headsV vs).fst → AV.b (decide (vs = vs)) = AV.b true) :
    Con Try.prog (13 : FuncId) [AV.sl (List.map c22 vs)] (AV.b true) := by
  refine con_lens 0 (c22) (vs) (by kernel_rfl) Go.Proofs.Try.func13 (by kernel_rfl) fun hl_0 => ?_
  refine st_con tab_ok (by kernel_rfl) [.tmp 2] 53 Go.Proofs.Try.func13 (by kernel_rfl) (by kernel_rfl) ?_
  intro e0 cx
  refine st_seq (by kernel_rfl) ?_
  refine st_reg (A := True) (σ' := ⟨[(0, .sl (List.map c22 vs))], []⟩) cx [] [0] [] (by kernel_rfl) (by kernel_rfl) trivial ?_
  refine q_seq_normal ?_
  refine st_seq (by kernel_rfl) ?_
  refine st_reg (A := (Con Try.prog (45 : FuncId) [AV.sl (List.map c22 [[(3 : Int)], [(1 : Int), (2 : Int)], [(0 : Int), (1 : Int)]])] (AV.sl (List.map c22 (List.map short ((List.map of [[(3 : Int)], [(1 : Int), (2 : Int)], [(0 : Int), (1 : Int)]]).mergeSort fun x y ↦ !ltV y x)))))) (σ' := ⟨[(0, .sl (List.map c22 vs)), (3, .sl (List.map c22 (List.map short ((List.map of [[(3 : Int)], [(1 : Int), (2 : Int)], [(0 : Int), (1 : Int)]]).mergeSort fun x y ↦ !ltV y x))))], []⟩) cx [(4, { val := some (.sl (List.map c22 (List.map short ((List.map of [[(3 : Int)], [(1 : Int), (2 : Int)], [(0 : Int), (1 : Int)]]).mergeSort fun x y ↦ !ltV y x)))) })] [0, 3] [] (by kernel_rfl) (by kernel_rfl) (con45 ([[(3 : Int)], [(1 : Int), (2 : Int)], [(0 : Int), (1 : Int)]]) (by (simp only [List.length_append, List.length_cons, List.length_nil]; omega))) ?_
  refine q_seq_normal ?_
  refine st_seq (by kernel_rfl) ?_
  refine st_seq (by kernel_rfl) ?_
  refine st_reg (A := (Flat (AV.b (decide (List.map short ((List.map of [[(3 : Int)], [(1 : Int), (2 : Int)], [(0 : Int), (1 : Int)]]).mergeSort fun x y ↦ !ltV y x) = [[(0 : Int), (1 : Int)], [(1 : Int), (2 : Int)], [(3 : Int)]])))) ∧ (Con Try.prog (30 : FuncId) [AV.sl (List.map c22 (List.map short ((List.map of [[(3 : Int)], [(1 : Int), (2 : Int)], [(0 : Int), (1 : Int)]]).mergeSort fun x y ↦ !ltV y x))), AV.sl (List.map c22 [[(0 : Int), (1 : Int)], [(1 : Int), (2 : Int)], [(3 : Int)]])] (AV.b (decide (List.map short ((List.map of [[(3 : Int)], [(1 : Int), (2 : Int)], [(0 : Int), (1 : Int)]]).mergeSort fun x y ↦ !ltV y x) = [[(0 : Int), (1 : Int)], [(1 : Int), (2 : Int)], [(3 : Int)]])))) ∧ ((AV.b !decide (List.map short ((List.map of [[(3 : Int)], [(1 : Int), (2 : Int)], [(0 : Int), (1 : Int)]]).mergeSort fun x y ↦ !ltV y x) = [[(0 : Int), (1 : Int)], [(1 : Int), (2 : Int)], [(3 : Int)]])) = AV.b (decide ¬List.map short ((List.map of [[(3 : Int)], [(1 : Int), (2 : Int)], [(0 : Int), (1 : Int)]]).mergeSort fun x y ↦ !ltV y x) = [[(0 : Int), (1 : Int)], [(1 : Int), (2 : Int)], [(3 : Int)]]))) (σ' := ⟨[(0, .sl (List.map c22 vs)), (20, .b (decide ¬List.map short ((List.map of [[(3 : Int)], [(1 : Int), (2 : Int)], [(0 : Int), (1 : Int)]]).mergeSort fun x y ↦ !ltV y x) = [[(0 : Int), (1 : Int)], [(1 : Int), (2 : Int)], [(3 : Int)]]))], []⟩) cx [(5, { val := some (.b (decide (List.map short ((List.map of [[(3 : Int)], [(1 : Int), (2 : Int)], [(0 : Int), (1 : Int)]]).mergeSort fun x y ↦ !ltV y x) = [[(0 : Int), (1 : Int)], [(1 : Int), (2 : Int)], [(3 : Int)]]))), flat := true }), (6, { tell := some (.b (decide ¬List.map short ((List.map of [[(3 : Int)], [(1 : Int), (2 : Int)], [(0 : Int), (1 : Int)]]).mergeSort fun x y ↦ !ltV y x) = [[(0 : Int), (1 : Int)], [(1 : Int), (2 : Int)], [(3 : Int)]])) })] [0, 20] [] (by kernel_rfl) (by kernel_rfl) ⟨(by exact Flat.b _), (con30 (List.map short ((List.map of [[(3 : Int)], [(1 : Int), (2 : Int)], [(0 : Int), (1 : Int)]]).mergeSort fun x y ↦ !ltV y x)) ([[(0 : Int), (1 : Int)], [(1 : Int), (2 : Int)], [(3 : Int)]])), (told_notd)⟩ ?_
  refine q_seq_normal ?_
  refine st_dec (¬List.map short ((List.map of [[(3 : Int)], [(1 : Int), (2 : Int)], [(0 : Int), (1 : Int)]]).mergeSort fun x y ↦ !ltV y x) = [[(0 : Int), (1 : Int)], [(1 : Int), (2 : Int)], [(3 : Int)]]) (by kernel_rfl) (by kernel_rfl) (fun h_0 => ?_) (fun h_0 => ?_)
  ·
    refine st_seq (by kernel_rfl) ?_
    refine st_reg (A := True) (σ' := ⟨[(2, .b (false))], []⟩) cx [] [2] [] (by kernel_rfl) (by kernel_rfl) trivial ?_
    refine q_seq_normal ?_
    refine st_ret (by kernel_rfl) ?_
    refine q_seq_ret ?_
    exact q_ret (r := .b (false)) (obl := []) (by kernel_rfl) trivial (AVle.eq (g0 h_0))
  ·
    refine st_skip (by kernel_rfl) ?_
    refine q_seq_normal ?_
    refine st_seq (by kernel_rfl) ?_
    refine st_reg (A := (Con Try.prog (46 : FuncId) [AV.sl (List.map c22 vs)] (AV.sl (List.map c22 (List.map short (srtV vs)))))) (σ' := ⟨[(0, .sl (List.map c22 vs)), (4, .sl (List.map c22 (List.map short (srtV vs))))], []⟩) cx [(1, { val := some (.sl (List.map c22 (List.map short (srtV vs)))) })] [0, 4] [] (by kernel_rfl) (by kernel_rfl) (con46 (vs) (by (with_reducible assumption))) ?_
    refine q_seq_normal ?_
    refine st_seq (by kernel_rfl) ?_
    refine st_reg (A := (Con Try.prog (47 : FuncId) [AV.sl (List.map c22 vs)] (AV.tup [AV.sl (List.map c22 (headsV vs).fst), AV.i IntKind.i64 (headsV vs).snd]))) (σ' := ⟨[(0, .sl (List.map c22 vs)), (4, .sl (List.map c22 (List.map short (srtV vs)))), (5, .sl (List.map c22 (headsV vs).fst)), (6, .i .i64 ((headsV vs).snd))], []⟩) cx [(1, { val := some (.tup [.sl (List.map c22 (headsV vs).fst), .i .i64 ((headsV vs).snd)]) })] [0, 4, 5, 6] [] (by kernel_rfl) (by kernel_rfl) (con47 (vs) (by (with_reducible assumption))) ?_
    refine q_seq_normal ?_
    refine st_seq (by kernel_rfl) ?_
    refine st_reg (A := (Con Try.prog (29 : FuncId) [AV.sl (List.map c22 vs)] (AV.sl (List.map c22 vs)))) (σ' := ⟨[(0, .sl (List.map c22 vs)), (4, .sl (List.map c22 (List.map short (srtV vs)))), (5, .sl (List.map c22 (headsV vs).fst)), (6, .i .i64 ((headsV vs).snd)), (7, .sl (List.map c22 vs))], []⟩) cx [(1, { val := some (.sl (List.map c22 vs)) })] [0, 4, 5, 6, 7] [] (by kernel_rfl) (by kernel_rfl) (con29 (vs) (by (with_reducible assumption))) ?_
    refine q_seq_normal ?_
    refine st_seq (by kernel_rfl) ?_
    refine st_seq (by kernel_rfl) ?_
    refine st_reg (A := (Con Try.prog (45 : FuncId) [AV.sl (List.map c22 vs)] (AV.sl (List.map c22 (List.map short ((List.map of vs).mergeSort fun x y ↦ !ltV y x))))) ∧ (Con Try.prog (30 : FuncId) [AV.sl (List.map c22 (List.map short ((List.map of vs).mergeSort fun x y ↦ !ltV y x))), AV.sl (List.map c22 (List.map short (srtV vs)))] (AV.b (decide (List.map short ((List.map of vs).mergeSort fun x y ↦ !ltV y x) = List.map short (srtV vs))))) ∧ ((AV.b !decide (List.map short ((List.map of vs).mergeSort fun x y ↦ !ltV y x) = List.map short (srtV vs))) = AV.b (decide ¬List.map short ((List.map of vs).mergeSort fun x y ↦ !ltV y x) = List.map short (srtV vs)))) (σ' := ⟨[(0, .sl (List.map c22 vs)), (5, .sl (List.map c22 (headsV vs).fst)), (6, .i .i64 ((headsV vs).snd)), (7, .sl (List.map c22 vs)), (34, .b (decide ¬List.map short ((List.map of vs).mergeSort fun x y ↦ !ltV y x) = List.map short (srtV vs)))], []⟩) cx [(1, { val := some (.sl (List.map c22 (List.map short ((List.map of vs).mergeSort fun x y ↦ !ltV y x)))) }), (3, { val := some (.b (decide (List.map short ((List.map of vs).mergeSort fun x y ↦ !ltV y x) = List.map short (srtV vs)))) }), (4, { tell := some (.b (decide ¬List.map short ((List.map of vs).mergeSort fun x y ↦ !ltV y x) = List.map short (srtV vs))) })] [0, 5, 6, 7, 34] [] (by kernel_rfl) (by kernel_rfl) ⟨(con45 (vs) (by (with_reducible assumption))), (con30 (List.map short ((List.map of vs).mergeSort fun x y ↦ !ltV y x)) (List.map short (srtV vs))), (told_notd)⟩ ?_
    refine q_seq_normal ?_
    refine st_dec (¬List.map short ((List.map of vs).mergeSort fun x y ↦ !ltV y x) = List.map short (srtV vs)) (by kernel_rfl) (by kernel_rfl) (fun h_1 => ?_) (fun h_1 => ?_)
    ·
      refine st_seq (by kernel_rfl) ?_
      refine st_reg (A := True) (σ' := ⟨[(2, .b (false))], []⟩) cx [] [2] [] (by kernel_rfl) (by kernel_rfl) trivial ?_
      refine q_seq_normal ?_
      refine st_ret (by kernel_rfl) ?_
      refine q_seq_ret ?_
      exact q_ret (r := .b (false)) (obl := []) (by kernel_rfl) trivial (AVle.eq (g1 h_0 h_1))
    ·
      refine st_skip (by kernel_rfl) ?_
      refine q_seq_normal ?_
      refine st_seq (by kernel_rfl) ?_
      refine st_reg (A := (Con Try.prog (48 : FuncId) [AV.sl (List.map c22 vs)] (AV.tup [AV.sl (List.map c22 (headsV vs).fst), AV.i IntKind.i64 (headsV vs).snd]))) (σ' := ⟨[(0, .sl (List.map c22 vs)), (5, .sl (List.map c22 (headsV vs).fst)), (6, .i .i64 ((headsV vs).snd)), (7, .sl (List.map c22 vs)), (3, .sl (List.map c22 (headsV vs).fst)), (8, .i .i64 ((headsV vs).snd))], []⟩) cx [(1, { val := some (.tup [.sl (List.map c22 (headsV vs).fst), .i .i64 ((headsV vs).snd)]) })] [0, 5, 6, 7, 3, 8] [] (by kernel_rfl) (by kernel_rfl) (con48 (vs) (by (with_reducible assumption))) ?_
      refine q_seq_normal ?_
      refine st_seq (by kernel_rfl) ?_
      refine st_split ((headsV vs).fst = (headsV vs).fst) (fun h_2 => ?_) (fun h_2 => absurd rfl h_2)
      refine st_reg (A := (AV.b ((headsV vs).snd == (headsV vs).snd) = AV.b true) ∧ (AV.b (decide ((headsV vs).fst = (headsV vs).fst)) = AV.b true) ∧ (Con Try.prog (30 : FuncId) [AV.sl (List.map c22 (headsV vs).fst), AV.sl (List.map c22 (headsV vs).fst)] (AV.b (decide ((headsV vs).fst = (headsV vs).fst)))) ∧ (Con Try.prog (30 : FuncId) [AV.sl (List.map c22 vs), AV.sl (List.map c22 vs)] (AV.b (decide (vs = vs))))) (σ' := ⟨[(2, .b (decide (vs = vs)))], []⟩) cx [(2, { tell := some (.b (true)) }), (6, { val := some (.b (decide ((headsV vs).fst = (headsV vs).fst))), tell := some (.b (true)) }), (11, { val := some (.b (decide (vs = vs))) })] [2] [] (by kernel_rfl) (by kernel_rfl) ⟨(told_ies), (told_true h_2), (con30 ((headsV vs).fst) ((headsV vs).fst)), (con30 (vs) (vs))⟩ ?_
      refine q_seq_normal ?_
      refine st_ret (by kernel_rfl) ?_
      exact q_ret (r := .b (decide (vs = vs))) (obl := []) (by kernel_rfl) trivial (AVle.eq (g2 h_0 h_1 h_2))
theorem con13 (vs : List (List Int)) (hs : sz38 vs) (hl : vs.length * 128 ≤ 140737488351232) : Con Try.prog 13 [.sl (vs.map c22)] (.b true) :=
  walk13 vs hs hl (fun h => absurd sort_lit h) (fun _ h => absurd rfl h) (fun _ _ _ => by rw [decide_eq_true rfl])
theorem walk12 (vs : List (List Int)) (hs : sz38 vs) (hl : vs.length * (128 : Nat) ≤ (140737488351232 : Nat))
    (g0 : ¬(↑(List.map short ((List.map of vs).mergeSort fun x y ↦ !ltV y x)).length : Int) = (↑vs.length : Int) → AV.b false = AV.b true)
    (g1 : ¬¬(↑(List.map short ((List.map of vs).mergeSort fun x y ↦ !ltV y x)).length : Int) = (↑vs.length : Int) → inv12a (↑vs.length : Int) (1 : Int))
    (g2 : ¬¬(↑(List.map short ((List.map of vs).mergeSort fun x y ↦ !ltV y x)).length : Int) = (↑vs.length : Int) → ∀ (i_1 : Int), (1 : Int) ≤ i_1 → i_1 ≤ (↑vs.length : Int) + (1 : Int) → i_1 < (↑(List.map short ((List.map of vs).mergeSort fun x y ↦ !ltV y x)).length : Int) → (0 : Int) < cmpV (of (List.map short ((List.map of vs).mergeSort fun x y ↦ !ltV y x))[(i_1 - (1 : Int)).toNat]!) (of (List.map short ((List.map of vs).mergeSort fun x y ↦ !ltV y x))[i_1.toNat]!) → AV.b false = AV.b true)
    (g3 : ¬¬(↑(List.map short ((List.map of vs).mergeSort fun x y ↦ !ltV y x)).length : Int) = (↑vs.length : Int) → ∀ (i_1 : Int), (1 : Int) ≤ i_1 → i_1 ≤ (↑vs.length : Int) + (1 : Int) → i_1 < (↑(List.map short ((List.map of vs).mergeSort fun x y ↦ !ltV y x)).length : Int) → ¬(0 : Int) < cmpV (of (List.map short ((List.map of vs).mergeSort fun x y ↦ !ltV y x))[(i_1 - (1 : Int)).toNat]!) (of (List.map short ((List.map of vs).mergeSort fun x y ↦ !ltV y x))[i_1.toNat]!) → inv12a (↑vs.length : Int) (i_1 + (1 : Int)))
    (g4 : ¬¬(↑(List.map short ((List.map of vs).mergeSort fun x y ↦ !ltV y x)).length : Int) = (↑vs.length : Int) → ∀ (i_1 : Int), (1 : Int) ≤ i_1 → i_1 ≤ (↑vs.length : Int) + (1 : Int) → ¬i_1 < (↑(List.map short ((List.map of vs).mergeSort fun x y ↦ !ltV y x)).length : Int) → inv30i' vs (0 : Int))
    (g5 : ¬¬(↑(List.map short ((List.map of vs).mergeSort fun x y ↦ !ltV y x)).length : Int) = (↑vs.length : Int) → ∀ (i_1 : Int), (1 : Int) ≤ i_1 → i_1 ≤ (↑vs.length : Int) + (1 : Int) → ¬i_1 < (↑(List.map short ((List.map of vs).mergeSort fun x y ↦ !ltV y x)).length : Int) → ∀ (i_7 : Int), (0 : Int) ≤ i_7 → i_7 ≤ (↑vs.length : Int) → i_7 < (↑vs.length : Int) → inv12b vs (short (of vs[i_7.toNat]!)) (0 : Int) (0 : Int))
    (g6 : ¬¬(↑(List.map short ((List.map of vs).mergeSort fun x y ↦ !ltV y x)).length : Int) = (↑vs.length : Int) → ∀ (i_1 : Int), (1 : Int) ≤ i_1 → i_1 ≤ (↑vs.length : Int) + (1 : Int) → ¬i_1 < (↑(List.map short ((List.map of vs).mergeSort fun x y ↦ !ltV y x)).length : Int) → ∀ (i_7 : Int), (0 : Int) ≤ i_7 → i_7 ≤ (↑vs.length : Int) → i_7 < (↑vs.length : Int) → ∀ (k_12 i_13 : Int), (0 : Int) ≤ i_13 → i_13 ≤ (↑vs.length : Int) → k_12 = cntL (norms vs) (short (of vs[i_7.toNat]!)) i_13 → i_13 < (↑vs.length : Int) → short (of vs[i_13.toNat]!) = short (of vs[i_7.toNat]!) → (-9223372036854775808 : Int) ≤ k_12 + (1 : Int))
    (g7 : ¬¬(↑(List.map short ((List.map of vs).mergeSort fun x y ↦ !ltV y x)).length : Int) = (↑vs.length : Int) → ∀ (i_1 : Int), (1 : Int) ≤ i_1 → i_1 ≤ (↑vs.length : Int) + (1 : Int) → ¬i_1 < (↑(List.map short ((List.map of vs).mergeSort fun x y ↦ !ltV y x)).length : Int) → ∀ (i_7 : Int), (0 : Int) ≤ i_7 → i_7 ≤ (↑vs.length : Int) → i_7 < (↑vs.length : Int) → ∀ (k_12 i_13 : Int), (0 : Int) ≤ i_13 → i_13 ≤ (↑vs.length : Int) → k_12 = cntL (norms vs) (short (of vs[i_7.toNat]!)) i_13 → i_13 < (↑vs.length : Int) → short (of vs[i_13.toNat]!) = short (of vs[i_7.toNat]!) → k_12 + (1 : Int) ≤ (9223372036854775807 : Int))
    (g8 : ¬¬(↑(List.map short ((List.map of vs).mergeSort fun x y ↦ !ltV y x)).length : Int) = (↑vs.length : Int) → ∀ (i_1 : Int), (1 : Int) ≤ i_1 → i_1 ≤ (↑vs.length : Int) + (1 : Int) → ¬i_1 < (↑(List.map short ((List.map of vs).mergeSort fun x y ↦ !ltV y x)).length : Int) → ∀ (i_7 : Int), (0 : Int) ≤ i_7 → i_7 ≤ (↑vs.length : Int) → i_7 < (↑vs.length : Int) → ∀ (k_12 i_13 : Int), (0 : Int) ≤ i_13 → i_13 ≤ (↑vs.length : Int) → k_12 = cntL (norms vs) (short (of vs[i_7.toNat]!)) i_13 → i_13 < (↑vs.length : Int) → short (of vs[i_13.toNat]!) = short (of vs[i_7.toNat]!) → inv12b vs (short (of vs[i_7.toNat]!)) (k_12 + (1 : Int)) (i_13 + (1 : Int)))
    (g9 : ¬¬(↑(List.map short ((List.map of vs).mergeSort fun x y ↦ !ltV y x)).length : Int) = (↑vs.length : Int) → ∀ (i_1 : Int), (1 : Int) ≤ i_1 → i_1 ≤ (↑vs.length : Int) + (1 : Int) → ¬i_1 < (↑(List.map short ((List.map of vs).mergeSort fun x y ↦ !ltV y x)).length : Int) → ∀ (i_7 : Int), (0 : Int) ≤ i_7 → i_7 ≤ (↑vs.length : Int) → i_7 < (↑vs.length : Int) → ∀ (k_12 i_13 : Int), (0 : Int) ≤ i_13 → i_13 ≤ (↑vs.length : Int) → k_12 = cntL (norms vs) (short (of vs[i_7.toNat]!)) i_13 → i_13 < (↑vs.length : Int) → ¬short (of vs[i_13.toNat]!) = short (of vs[i_7.toNat]!) → inv12b vs (short (of vs[i_7.toNat]!)) k_12 (i_13 + (1 : Int)))
    (g10 : ¬¬(↑(List.map short ((List.map of vs).mergeSort fun x y ↦ !ltV y x)).length : Int) = (↑vs.length : Int) → ∀ (i_1 : Int), (1 : Int) ≤ i_1 → i_1 ≤ (↑vs.length : Int) + (1 : Int) → ¬i_1 < (↑(List.map short ((List.map of vs).mergeSort fun x y ↦ !ltV y x)).length : Int) → ∀ (i_7 : Int), (0 : Int) ≤ i_7 → i_7 ≤ (↑vs.length : Int) → i_7 < (↑vs.length : Int) → ∀ (k_12 i_13 : Int), (0 : Int) ≤ i_13 → i_13 ≤ (↑vs.length : Int) → k_12 = cntL (norms vs) (short (of vs[i_7.toNat]!)) i_13 → ¬i_13 < (↑vs.length : Int) → inv12c vs (short (of vs[i_7.toNat]!)) k_12 (0 : Int))
    (g11 : ¬¬(↑(List.map short ((List.map of vs).mergeSort fun x y ↦ !ltV y x)).length : Int) = (↑vs.length : Int) → ∀ (i_1 : Int), (1 : Int) ≤ i_1 → i_1 ≤ (↑vs.length : Int) + (1 : Int) → ¬i_1 < (↑(List.map short ((List.map of vs).mergeSort fun x y ↦ !ltV y x)).length : Int) → ∀ (i_7 : Int), (0 : Int) ≤ i_7 → i_7 ≤ (↑vs.length : Int) → i_7 < (↑vs.length : Int) → ∀ (k_12 i_13 : Int), (0 : Int) ≤ i_13 → i_13 ≤ (↑vs.length : Int) → k_12 = cntL (norms vs) (short (of vs[i_7.toNat]!)) i_13 → ¬i_13 < (↑vs.length : Int) → ∀ (k_20 i_21 : Int), (0 : Int) ≤ i_21 → i_21 ≤ (↑vs.length : Int) → k_20 = cntL (norms vs) (short (of vs[i_7.toNat]!)) (↑vs.length : Int) - cntL (List.map short (srtV vs)) (short (of vs[i_7.toNat]!)) i_21 → i_21 < (↑(List.map short ((List.map of vs).mergeSort fun x y ↦ !ltV y x)).length : Int) → (List.map short ((List.map of vs).mergeSort fun x y ↦ !ltV y x))[i_21.toNat]! = short (of vs[i_7.toNat]!) → (-9223372036854775808 : Int) ≤ k_20 - (1 : Int))
    (g12 : ¬¬(↑(List.map short ((List.map of vs).mergeSort fun x y ↦ !ltV y x)).length : Int) = (↑vs.length : Int) → ∀ (i_1 : Int), (1 : Int) ≤ i_1 → i_1 ≤ (↑vs.length : Int) + (1 : Int) → ¬i_1 < (↑(List.map short ((List.map of vs).mergeSort fun x y ↦ !ltV y x)).length : Int) → ∀ (i_7 : Int), (0 : Int) ≤ i_7 → i_7 ≤ (↑vs.length : Int) → i_7 < (↑vs.length : Int) → ∀ (k_12 i_13 : Int), (0 : Int) ≤ i_13 → i_13 ≤ (↑vs.length : Int) → k_12 = cntL (norms vs) (short (of vs[i_7.toNat]!)) i_13 → ¬i_13 < (↑vs.length : Int) → ∀ (k_20 i_21 : Int), (0 : Int) ≤ i_21 → i_21 ≤ (↑vs.length : Int) → k_20 = cntL (norms vs) (short (of vs[i_7.toNat]!)) (↑vs.length : Int) - cntL (List.map short (srtV vs)) (short (of vs[i_7.toNat]!)) i_21 → i_21 < (↑(List.map short ((List.map of vs).mergeSort fun x y ↦ !ltV y x)).length : Int) → (List.map short ((List.map of vs).mergeSort fun x y ↦ !ltV y x))[i_21.toNat]! = short (of vs[i_7.toNat]!) → k_20 - (1 : Int) ≤ (9223372036854775807 : Int))
    (g13 : ¬¬(↑(List.map short ((List.map of vs).mergeSort fun x y ↦ !ltV y x)).length : Int) = (↑vs.length : Int) → ∀ (i_1 : Int), (1 : Int) ≤ i_1 → i_1 ≤ (↑vs.length : Int) + (1 : Int) → ¬i_1 < (↑(List.map short ((List.map of vs).mergeSort fun x y ↦ !ltV y x)).length : Int) → ∀ (i_7 : Int), (0 : Int) ≤ i_7 → i_7 ≤ (↑vs.length : Int) → i_7 < (↑vs.length : Int) → ∀ (k_12 i_13 : Int), (0 : Int) ≤ i_13 → i_13 ≤ (↑vs.length : Int) → k_12 = cntL (norms vs) (short (of vs[i_7.toNat]!)) i_13 → ¬i_13 < (↑vs.length : Int) → ∀ (k_20 i_21 : Int), (0 : Int) ≤ i_21 → i_21 ≤ (↑vs.length : Int) → k_20 = cntL (norms vs) (short (of vs[i_7.toNat]!)) (↑vs.length : Int) - cntL (List.map short (srtV vs)) (short (of vs[i_7.toNat]!)) i_21 → i_21 < (↑(List.map short ((List.map of vs).mergeSort fun x y ↦ !ltV y x)).length : Int) → (List.map short ((List.map of vs).mergeSort fun x y ↦ !ltV y x))[i_21.toNat]! = short (of vs[i_7.toNat]!) → inv12c vs (short (of vs[i_7.toNat]!)) (k_20 - (1 : Int)) (i_21 + (1 : Int)))
    (g14 : ¬¬(↑(List.map short ((List.map of vs).mergeSort fun x y ↦ !ltV y x)).length : Int) = (↑vs.length : Int) → ∀ (i_1 : Int), (1 : Int) ≤ i_1 → i_1 ≤ (↑vs.length : Int) + (1 : Int) → ¬i_1 < (↑(List.map short ((List.map of vs).mergeSort fun x y ↦ !ltV y x)).length : Int) → ∀ (i_7 : Int), (0 : Int) ≤ i_7 → i_7 ≤ (↑vs.length : Int) → i_7 < (↑vs.length : Int) → ∀ (k_12 i_13 : Int), (0 : Int) ≤ i_13 → i_13 ≤ (↑vs.length : Int) → k_12 = cntL (norms vs) (short (of vs[i_7.toNat]!)) i_13 → ¬i_13 < (↑vs.length : Int) → ∀ (k_20 i_21 : Int), (0 : Int) ≤ i_21 → i_21 ≤ (↑vs.length : Int) → k_20 = cntL (norms vs) (short (of vs[i_7.toNat]!)) (↑vs.length : Int) - cntL (List.map short (srtV vs)) (short (of vs[i_7.toNat]!)) i_21 → i_21 < (↑(List.map short ((List.map of vs).mergeSort fun x y ↦ !ltV y x)).length : Int) → ¬(List.map short ((List.map of vs).mergeSort fun x y ↦ !ltV y x))[i_21.toNat]! = short (of vs[i_7.toNat]!) → inv12c vs (short (of vs[i_7.toNat]!)) k_20 (i_21 + (1 : Int)))
    (g15 : ¬¬(↑(List.map short ((List.map of vs).mergeSort fun x y ↦ !ltV y x)).length : Int) = (↑vs.length : Int) → ∀ (i_1 : Int), (1 : Int) ≤ i_1 → i_1 ≤ (↑vs.length : Int) + (1 : Int) → ¬i_1 < (↑(List.map short ((List.map of vs).mergeSort fun x y ↦ !ltV y x)).length : Int) → ∀ (i_7 : Int), (0 : Int) ≤ i_7 → i_7 ≤ (↑vs.length : Int) → i_7 < (↑vs.length : Int) → ∀ (k_12 i_13 : Int), (0 : Int) ≤ i_13 → i_13 ≤ (↑vs.length : Int) → k_12 = cntL (norms vs) (short (of vs[i_7.toNat]!)) i_13 → ¬i_13 < (↑vs.length : Int) → ∀ (k_20 i_21 : Int), (0 : Int) ≤ i_21 → i_21 ≤ (↑vs.length : Int) → k_20 = cntL (norms vs) (short (of vs[i_7.toNat]!)) (↑vs.length : Int) - cntL (List.map short (srtV vs)) (short (of vs[i_7.toNat]!)) i_21 → ¬i_21 < (↑(List.map short ((List.map of vs).mergeSort fun x y ↦ !ltV y x)).length : Int) → ¬k_20 = (0 : Int) → AV.b false = AV.b true)
    (g16 : ¬¬(↑(List.map short ((List.map of vs).mergeSort fun x y ↦ !ltV y x)).length : Int) = (↑vs.length : Int) → ∀ (i_1 : Int), (1 : Int) ≤ i_1 → i_1 ≤ (↑vs.length : Int) + (1 : Int) → ¬i_1 < (↑(List.map short ((List.map of vs).mergeSort fun x y ↦ !ltV y x)).length : Int) → ∀ (i_7 : Int), (0 : Int) ≤ i_7 → i_7 ≤ (↑vs.length : Int) → i_7 < (↑vs.length : Int) → ∀ (k_12 i_13 : Int), (0 : Int) ≤ i_13 → i_13 ≤ (↑vs.length : Int) → k_12 = cntL (norms vs) (short (of vs[i_7.toNat]!)) i_13 → ¬i_13 < (↑vs.length : Int) → ∀ (k_20 i_21 : Int), (0 : Int) ≤ i_21 → i_21 ≤ (↑vs.length : Int) → k_20 = cntL (norms vs) (short (of vs[i_7.toNat]!)) (↑vs.length : Int) - cntL (List.map short (srtV vs)) (short (of vs[i_7.toNat]!)) i_21 → ¬i_21 < (↑(List.map short ((List.map of vs).mergeSort fun x y ↦ !ltV y x)).length : Int) → ¬¬k_20 = (0 : Int) → inv30i' vs (i_7 + (1 : Int))) :
    Con Try.prog (12 : FuncId) [AV.sl (List.map c22 vs)] (AV.b true) := by
  refine con_lens 0 (c22) (vs) (by kernel_rfl) Go.Proofs.Try.func12 (by kernel_rfl) fun hl_0 => ?_
  refine st_con tab_ok (by kernel_rfl) [.tmp 2] 75 Go.Proofs.Try.func12 (by kernel_rfl) (by kernel_rfl) ?_
  intro e0 cx
  refine st_seq (by kernel_rfl) ?_
  refine st_reg (A := True) (σ' := ⟨[(0, .sl (List.map c22 vs))], []⟩) cx [] [0] [] (by kernel_rfl) (by kernel_rfl) trivial ?_
  refine q_seq_normal ?_
  refine st_seq (by kernel_rfl) ?_
  refine st_seq (by kernel_rfl) ?_
  refine st_reg (A := (Con Try.prog (24 : FuncId) [] (AV.b true))) (σ' := ⟨[(0, .sl (List.map c22 vs)), (14, .b (false))], []⟩) cx [(0, { val := some (.b (true)) })] [0, 14] [] (by kernel_rfl) (by kernel_rfl) (con24 ) ?_
  refine q_seq_normal ?_
  refine st_false (by kernel_rfl) (by kernel_rfl) ?_
  refine st_skip (by kernel_rfl) ?_
  refine q_seq_normal ?_
  refine st_seq (by kernel_rfl) ?_
  refine st_reg (A := (Con Try.prog (45 : FuncId) [AV.sl (List.map c22 vs)] (AV.sl (List.map c22 (List.map short ((List.map of vs).mergeSort fun x y ↦ !ltV y x)))))) (σ' := ⟨[(0, .sl (List.map c22 vs)), (3, .sl (List.map c22 (List.map short ((List.map of vs).mergeSort fun x y ↦ !ltV y x))))], []⟩) cx [(1, { val := some (.sl (List.map c22 (List.map short ((List.map of vs).mergeSort fun x y ↦ !ltV y x)))) })] [0, 3] [] (by kernel_rfl) (by kernel_rfl) (con45 (vs) (by (with_reducible assumption))) ?_
  refine q_seq_normal ?_
  refine st_seq (by kernel_rfl) ?_
  refine st_seq (by kernel_rfl) ?_
  refine st_reg (A := (AV.i IntKind.i64 (↑(List.map c22 (List.map short ((List.map of vs).mergeSort fun x y ↦ !ltV y x))).length : Int) = AV.i IntKind.i64 (↑(List.map short ((List.map of vs).mergeSort fun x y ↦ !ltV y x)).length : Int)) ∧ (AV.i IntKind.i64 (↑(List.map c22 vs).length : Int) = AV.i IntKind.i64 (↑vs.length : Int)) ∧ (AV.b ((↑(List.map short ((List.map of vs).mergeSort fun x y ↦ !ltV y x)).length : Int) != (↑vs.length : Int)) = AV.b (decide ¬(↑(List.map short ((List.map of vs).mergeSort fun x y ↦ !ltV y x)).length : Int) = (↑vs.length : Int)))) (σ' := ⟨[(0, .sl (List.map c22 vs)), (3, .sl (List.map c22 (List.map short ((List.map of vs).mergeSort fun x y ↦ !ltV y x)))), (21, .b (decide ¬(↑(List.map short ((List.map of vs).mergeSort fun x y ↦ !ltV y x)).length : Int) = (↑vs.length : Int)))], []⟩) cx [(1, { tell := some (.i .i64 ((↑(List.map short ((List.map of vs).mergeSort fun x y ↦ !ltV y x)).length : Int))) }), (3, { tell := some (.i .i64 ((↑vs.length : Int))) }), (4, { tell := some (.b (decide ¬(↑(List.map short ((List.map of vs).mergeSort fun x y ↦ !ltV y x)).length : Int) = (↑vs.length : Int))) })] [0, 3, 21] [] (by kernel_rfl) (by kernel_rfl) ⟨(told_len c22 (List.map short ((List.map of vs).mergeSort fun x y ↦ !ltV y x))), (told_len c22 vs), (told_neq)⟩ ?_
  refine q_seq_normal ?_
  refine st_dec (¬(↑(List.map short ((List.map of vs).mergeSort fun x y ↦ !ltV y x)).length : Int) = (↑vs.length : Int)) (by kernel_rfl) (by kernel_rfl) (fun h_0 => ?_) (fun h_0 => ?_)
  ·
    refine st_seq (by kernel_rfl) ?_
    refine st_reg (A := True) (σ' := ⟨[(2, .b (false))], []⟩) cx [] [2] [] (by kernel_rfl) (by kernel_rfl) trivial ?_
    refine q_seq_normal ?_
    refine st_ret (by kernel_rfl) ?_
    refine q_seq_ret ?_
    exact q_ret (r := .b (false)) (obl := []) (by kernel_rfl) trivial (AVle.eq (g0 h_0))
  ·
    refine st_skip (by kernel_rfl) ?_
    refine q_seq_normal ?_
    refine st_seq (by kernel_rfl) ?_
    refine st_seq (by kernel_rfl) ?_
    refine st_reg (A := True) (σ' := ⟨[(0, .sl (List.map c22 vs)), (3, .sl (List.map c22 (List.map short ((List.map of vs).mergeSort fun x y ↦ !ltV y x)))), (4, .i .i64 ((1 : Int)))], []⟩) cx [] [0, 3, 4] [] (by kernel_rfl) (by kernel_rfl) trivial ?_
    refine q_seq_normal ?_
    refine st_block 0 (by kernel_rfl) ?_
    refine st_loop (X := Int) (fun x => ⟨[(0, .sl (List.map c22 vs)), (3, .sl (List.map c22 (List.map short ((List.map of vs).mergeSort fun x y ↦ !ltV y x)))), (4, .i .i64 (x))], []⟩) (fun x ↦ dec12a (↑vs.length : Int) x) (fun x ↦ inv12a (↑vs.length : Int) x) [0, 3, 4] [] ((1 : Int)) (by kernel_rfl) (by kernel_rfl) (g1 h_0) ?_
    intro i_1 h_2
    obtain ⟨h_3, h_4⟩ : (1 : Int) ≤ i_1 ∧ i_1 ≤ (↑vs.length : Int) + (1 : Int) := h_2
    refine st_seq (by kernel_rfl) ?_
    refine st_seq (by kernel_rfl) ?_
    refine st_reg (A := (AV.i IntKind.i64 (↑(List.map c22 (List.map short ((List.map of vs).mergeSort fun x y ↦ !ltV y x))).length : Int) = AV.i IntKind.i64 (↑(List.map short ((List.map of vs).mergeSort fun x y ↦ !ltV y x)).length : Int)) ∧ (AV.b (decide (i_1 < (↑(List.map short ((List.map of vs).mergeSort fun x y ↦ !ltV y x)).length : Int))) = AV.b (decide (i_1 < (↑(List.map short ((List.map of vs).mergeSort fun x y ↦ !ltV y x)).length : Int))))) (σ' := ⟨[(0, .sl (List.map c22 vs)), (3, .sl (List.map c22 (List.map short ((List.map of vs).mergeSort fun x y ↦ !ltV y x)))), (4, .i .i64 (i_1)), (25, .b (decide (i_1 < (↑(List.map short ((List.map of vs).mergeSort fun x y ↦ !ltV y x)).length : Int))))], []⟩) cx [(2, { tell := some (.i .i64 ((↑(List.map short ((List.map of vs).mergeSort fun x y ↦ !ltV y x)).length : Int))) }), (3, { tell := some (.b (decide (i_1 < (↑(List.map short ((List.map of vs).mergeSort fun x y ↦ !ltV y x)).length : Int)))) })] [0, 3, 4, 25] [] (by kernel_rfl) (by kernel_rfl) ⟨(told_len c22 (List.map short ((List.map of vs).mergeSort fun x y ↦ !ltV y x))), (by kernel_rfl)⟩ ?_
    refine q_seq_normal ?_
    refine st_dec (i_1 < (↑(List.map short ((List.map of vs).mergeSort fun x y ↦ !ltV y x)).length : Int)) (by kernel_rfl) (by kernel_rfl) (fun h_5 => ?_) (fun h_5 => ?_)
    ·
      refine st_skip (by kernel_rfl) ?_
      refine q_seq_normal ?_
      refine st_seq (by kernel_rfl) ?_
      refine st_block 1 (by kernel_rfl) ?_
      refine st_seq (by kernel_rfl) ?_
      refine st_any (A := (AV.i IntKind.i64 (IntKind.i64.wrap (i_1 - (1 : Int))) = AV.i IntKind.i64 (i_1 - (1 : Int))) ∧ ((0 : Int) ≤ i_1 - (1 : Int)) ∧ ((List.map c22 (List.map short ((List.map of vs).mergeSort fun x y ↦ !ltV y x)))[(i_1 - (1 : Int)).toNat]? = some (c22 (List.map short ((List.map of vs).mergeSort fun x y ↦ !ltV y x))[(i_1 - (1 : Int)).toNat]!)) ∧ ((c22 (List.map short ((List.map of vs).mergeSort fun x y ↦ !ltV y x))[(i_1 - (1 : Int)).toNat]!).length = (1 : Nat)) ∧ ((0 : Int) ≤ i_1) ∧ ((List.map c22 (List.map short ((List.map of vs).mergeSort fun x y ↦ !ltV y x)))[i_1.toNat]? = some (c22 (List.map short ((List.map of vs).mergeSort fun x y ↦ !ltV y x))[i_1.toNat]!)) ∧ ((c22 (List.map short ((List.map of vs).mergeSort fun x y ↦ !ltV y x))[i_1.toNat]!).length = (1 : Nat)) ∧ (Con Try.prog (38 : FuncId) [AV.sl (List.map c3 (List.map short ((List.map of vs).mergeSort fun x y ↦ !ltV y x))[(i_1 - (1 : Int)).toNat]!), AV.sl (List.map c3 (List.map short ((List.map of vs).mergeSort fun x y ↦ !ltV y x))[i_1.toNat]!)] (AV.i IntKind.i64 (cmpV (of (List.map short ((List.map of vs).mergeSort fun x y ↦ !ltV y x))[(i_1 - (1 : Int)).toNat]!) (of (List.map short ((List.map of vs).mergeSort fun x y ↦ !ltV y x))[i_1.toNat]!)))) ∧ (AV.b (decide (cmpV (of (List.map short ((List.map of vs).mergeSort fun x y ↦ !ltV y x))[(i_1 - (1 : Int)).toNat]!) (of (List.map short ((List.map of vs).mergeSort fun x y ↦ !ltV y x))[i_1.toNat]!) > (0 : Int))) = AV.b (decide ((0 : Int) < cmpV (of (List.map short ((List.map of vs).mergeSort fun x y ↦ !ltV y x))[(i_1 - (1 : Int)).toNat]!) (of (List.map short ((List.map of vs).mergeSort fun x y ↦ !ltV y x))[i_1.toNat]!))))) (σ' := ⟨[(0, .sl (List.map c22 vs)), (3, .sl (List.map c22 (List.map short ((List.map of vs).mergeSort fun x y ↦ !ltV y x)))), (4, .i .i64 (i_1)), (38, .b (decide ((0 : Int) < cmpV (of (List.map short ((List.map of vs).mergeSort fun x y ↦ !ltV y x))[(i_1 - (1 : Int)).toNat]!) (of (List.map short ((List.map of vs).mergeSort fun x y ↦ !ltV y x))[i_1.toNat]!))))], []⟩) cx [(2, { tell := some (.i .i64 (i_1 - (1 : Int))) }), (3, { row := (c22 (List.map short ((List.map of vs).mergeSort fun x y ↦ !ltV y x))[(i_1 - (1 : Int)).toNat]!) }), (7, { row := (c22 (List.map short ((List.map of vs).mergeSort fun x y ↦ !ltV y x))[i_1.toNat]!) }), (9, { val := some (.i .i64 (cmpV (of (List.map short ((List.map of vs).mergeSort fun x y ↦ !ltV y x))[(i_1 - (1 : Int)).toNat]!) (of (List.map short ((List.map of vs).mergeSort fun x y ↦ !ltV y x))[i_1.toNat]!))) }), (10, { tell := some (.b (decide ((0 : Int) < cmpV (of (List.map short ((List.map of vs).mergeSort fun x y ↦ !ltV y x))[(i_1 - (1 : Int)).toNat]!) (of (List.map short ((List.map of vs).mergeSort fun x y ↦ !ltV y x))[i_1.toNat]!)))) })] [0, 3, 4, 38] [] (by kernel_rfl) (by kernel_rfl) ⟨(told_i64 (by omega) (by omega)), (by omega), (by (with_reducible refine get_map ?_; omega)), (by kernel_rfl), (by omega), (by (with_reducible refine get_map ?_; omega)), (by kernel_rfl), (con38 ((List.map short ((List.map of vs).mergeSort fun x y ↦ !ltV y x))[(i_1 - (1 : Int)).toNat]!) ((List.map short ((List.map of vs).mergeSort fun x y ↦ !ltV y x))[i_1.toNat]!)), (by kernel_rfl)⟩ ?_
      refine q_seq_normal ?_
      refine st_dec ((0 : Int) < cmpV (of (List.map short ((List.map of vs).mergeSort fun x y ↦ !ltV y x))[(i_1 - (1 : Int)).toNat]!) (of (List.map short ((List.map of vs).mergeSort fun x y ↦ !ltV y x))[i_1.toNat]!)) (by kernel_rfl) (by kernel_rfl) (fun h_6 => ?_) (fun h_6 => ?_)
      ·
        refine st_seq (by kernel_rfl) ?_
        refine st_reg (A := True) (σ' := ⟨[(2, .b (false))], []⟩) cx [] [2] [] (by kernel_rfl) (by kernel_rfl) trivial ?_
        refine q_seq_normal ?_
        refine st_ret (by kernel_rfl) ?_
        refine q_blk_ret ?_
        refine q_seq_ret ?_
        refine q_seq_ret ?_
        refine q_blk_ret ?_
        refine q_seq_ret ?_
        exact q_ret (r := .b (false)) (obl := []) (by kernel_rfl) trivial (AVle.eq (g2 h_0 i_1 h_3 h_4 h_5 h_6))
      ·
        refine st_skip (by kernel_rfl) ?_
        refine q_blk_normal ?_
        refine q_seq_normal ?_
        refine st_reg (A := (AV.i IntKind.i64 (IntKind.i64.wrap (i_1 + (1 : Int))) = AV.i IntKind.i64 (i_1 + (1 : Int)))) (σ' := ⟨[(0, .sl (List.map c22 vs)), (3, .sl (List.map c22 (List.map short ((List.map of vs).mergeSort fun x y ↦ !ltV y x)))), (4, .i .i64 (i_1 + (1 : Int)))], []⟩) cx [(1, { tell := some (.i .i64 (i_1 + (1 : Int))) })] [0, 3, 4] [] (by kernel_rfl) (by kernel_rfl) (told_i64 (by omega) (by omega)) ?_
        refine q_seq_normal ?_
        exact loop_next (i_1 + (1 : Int)) (by kernel_rfl) (show ((↑vs.length : Int) - (i_1 + (1 : Int))).toNat < ((↑vs.length : Int) - i_1).toNat from (by omega)) (g3 h_0 i_1 h_3 h_4 h_5 h_6)
    ·
      refine st_exit 0 (by kernel_rfl) ?_
      refine q_seq_exit ?_
      refine q_seq_exit ?_
      refine q_blk_hit ?_
      refine q_seq_normal ?_
      refine st_seq (by kernel_rfl) ?_
      refine st_seq (by kernel_rfl) ?_
      refine st_reg (A := (AV.i IntKind.i64 (↑(List.map c22 vs).length : Int) = AV.i IntKind.i64 (↑vs.length : Int))) (σ' := ⟨[(0, .sl (List.map c22 vs)), (3, .sl (List.map c22 (List.map short ((List.map of vs).mergeSort fun x y ↦ !ltV y x)))), (39, .sl (List.map c22 vs)), (40, .i .i64 ((↑vs.length : Int))), (41, .i .i64 ((0 : Int)))], []⟩) cx [(1, { tell := some (.i .i64 ((↑vs.length : Int))) })] [0, 3, 39, 40, 41] [] (by kernel_rfl) (by kernel_rfl) (told_len c22 vs) ?_
      refine q_seq_normal ?_
      refine st_block 2 (by kernel_rfl) ?_
      refine st_loop (X := Int) (fun x => ⟨[(0, .sl (List.map c22 vs)), (3, .sl (List.map c22 (List.map short ((List.map of vs).mergeSort fun x y ↦ !ltV y x)))), (39, .sl (List.map c22 vs)), (40, .i .i64 ((↑vs.length : Int))), (41, .i .i64 (x))], []⟩) (fun x ↦ dec30i' vs x) (fun x ↦ inv30i' vs x) [0, 3, 39, 40, 41] [] ((0 : Int)) (by kernel_rfl) (by kernel_rfl) (g4 h_0 i_1 h_3 h_4 h_5) ?_
      intro i_7 h_8
      obtain ⟨h_9, h_10⟩ : (0 : Int) ≤ i_7 ∧ i_7 ≤ (↑vs.length : Int) := h_8
      refine st_seq (by kernel_rfl) ?_
      refine st_reg (A := (AV.b (decide (i_7 < (↑vs.length : Int))) = AV.b (decide (i_7 < (↑vs.length : Int))))) (σ' := ⟨[(0, .sl (List.map c22 vs)), (3, .sl (List.map c22 (List.map short ((List.map of vs).mergeSort fun x y ↦ !ltV y x)))), (39, .sl (List.map c22 vs)), (40, .i .i64 ((↑vs.length : Int))), (41, .i .i64 (i_7)), (42, .b (decide (i_7 < (↑vs.length : Int))))], []⟩) cx [(0, { tell := some (.b (decide (i_7 < (↑vs.length : Int)))) })] [0, 3, 39, 40, 41, 42] [] (by kernel_rfl) (by kernel_rfl) (by kernel_rfl) ?_
      refine q_seq_normal ?_
      refine st_seq (by kernel_rfl) ?_
      refine st_dec (i_7 < (↑vs.length : Int)) (by kernel_rfl) (by kernel_rfl) (fun h_11 => ?_) (fun h_11 => ?_)
      ·
        refine st_skip (by kernel_rfl) ?_
        refine q_seq_normal ?_
        refine st_seq (by kernel_rfl) ?_
        refine st_block 3 (by kernel_rfl) ?_
        refine st_seq (by kernel_rfl) ?_
        refine st_reg (A := ((0 : Int) ≤ i_7) ∧ ((List.map c22 vs)[i_7.toNat]? = some (c22 vs[i_7.toNat]!)) ∧ ((c22 vs[i_7.toNat]!).length = (1 : Nat))) (σ' := ⟨[(0, .sl (List.map c22 vs)), (3, .sl (List.map c22 (List.map short ((List.map of vs).mergeSort fun x y ↦ !ltV y x)))), (39, .sl (List.map c22 vs)), (40, .i .i64 ((↑vs.length : Int))), (41, .i .i64 (i_7)), (6, .sl (List.map c3 vs[i_7.toNat]!))], []⟩) cx [(0, { row := (c22 vs[i_7.toNat]!) })] [0, 3, 39, 40, 41, 6] [] (by kernel_rfl) (by kernel_rfl) ⟨(by (with_reducible assumption)), (by (with_reducible refine get_map ?_; omega)), (by kernel_rfl)⟩ ?_
        refine q_seq_normal ?_
        refine st_seq (by kernel_rfl) ?_
        refine st_reg (A := (Con Try.prog (36 : FuncId) [AV.sl (List.map c3 vs[i_7.toNat]!)] (AV.sl (List.map c3 (short (of vs[i_7.toNat]!)))))) (σ' := ⟨[(0, .sl (List.map c22 vs)), (3, .sl (List.map c22 (List.map short ((List.map of vs).mergeSort fun x y ↦ !ltV y x)))), (39, .sl (List.map c22 vs)), (40, .i .i64 ((↑vs.length : Int))), (41, .i .i64 (i_7)), (7, .sl (List.map c3 (short (of vs[i_7.toNat]!))))], []⟩) cx [(1, { val := some (.sl (List.map c3 (short (of vs[i_7.toNat]!)))) })] [0, 3, 39, 40, 41, 7] [] (by kernel_rfl) (by kernel_rfl) (con36 (vs[i_7.toNat]!)) ?_
        refine q_seq_normal ?_
        refine st_seq (by kernel_rfl) ?_
        refine st_reg (A := True) (σ' := ⟨[(0, .sl (List.map c22 vs)), (3, .sl (List.map c22 (List.map short ((List.map of vs).mergeSort fun x y ↦ !ltV y x)))), (39, .sl (List.map c22 vs)), (40, .i .i64 ((↑vs.length : Int))), (41, .i .i64 (i_7)), (7, .sl (List.map c3 (short (of vs[i_7.toNat]!)))), (8, .i .i64 ((0 : Int)))], []⟩) cx [] [0, 3, 39, 40, 41, 7, 8] [] (by kernel_rfl) (by kernel_rfl) trivial ?_
        refine q_seq_normal ?_
        refine st_seq (by kernel_rfl) ?_
        refine st_seq (by kernel_rfl) ?_
        refine st_reg (A := (AV.i IntKind.i64 (↑(List.map c22 vs).length : Int) = AV.i IntKind.i64 (↑vs.length : Int))) (σ' := ⟨[(0, .sl (List.map c22 vs)), (3, .sl (List.map c22 (List.map short ((List.map of vs).mergeSort fun x y ↦ !ltV y x)))), (39, .sl (List.map c22 vs)), (40, .i .i64 ((↑vs.length : Int))), (41, .i .i64 (i_7)), (7, .sl (List.map c3 (short (of vs[i_7.toNat]!)))), (8, .i .i64 ((0 : Int))), (47, .sl (List.map c22 vs)), (48, .i .i64 ((↑vs.length : Int))), (49, .i .i64 ((0 : Int)))], []⟩) cx [(1, { tell := some (.i .i64 ((↑vs.length : Int))) })] [0, 3, 39, 40, 41, 7, 8, 47, 48, 49] [] (by kernel_rfl) (by kernel_rfl) (told_len c22 vs) ?_
        refine q_seq_normal ?_
        refine st_block 4 (by kernel_rfl) ?_
        refine st_loop (X := Int × Int) (fun x => ⟨[(0, .sl (List.map c22 vs)), (3, .sl (List.map c22 (List.map short ((List.map of vs).mergeSort fun x y ↦ !ltV y x)))), (39, .sl (List.map c22 vs)), (40, .i .i64 ((↑vs.length : Int))), (41, .i .i64 (i_7)), (7, .sl (List.map c3 (short (of vs[i_7.toNat]!)))), (8, .i .i64 (x.fst)), (47, .sl (List.map c22 vs)), (48, .i .i64 ((↑vs.length : Int))), (49, .i .i64 (x.snd))], []⟩) (fun x ↦ dec12b vs x.fst x.snd) (fun x ↦ inv12b vs (short (of vs[i_7.toNat]!)) x.fst x.snd) [0, 3, 39, 40, 41, 7, 8, 47, 48, 49] [] (((0 : Int), (0 : Int))) (by kernel_rfl) (by kernel_rfl) (g5 h_0 i_1 h_3 h_4 h_5 i_7 h_9 h_10 h_11) ?_
        rintro ⟨k_12, i_13⟩ h_14
        obtain ⟨h_15, h_16, h_17⟩ : (0 : Int) ≤ i_13 ∧ i_13 ≤ (↑vs.length : Int) ∧ k_12 = cntL (norms vs) (short (of vs[i_7.toNat]!)) i_13 := h_14
        refine st_seq (by kernel_rfl) ?_
        refine st_reg (A := (AV.b (decide (i_13 < (↑vs.length : Int))) = AV.b (decide (i_13 < (↑vs.length : Int))))) (σ' := ⟨[(0, .sl (List.map c22 vs)), (3, .sl (List.map c22 (List.map short ((List.map of vs).mergeSort fun x y ↦ !ltV y x)))), (39, .sl (List.map c22 vs)), (40, .i .i64 ((↑vs.length : Int))), (41, .i .i64 (i_7)), (7, .sl (List.map c3 (short (of vs[i_7.toNat]!)))), (8, .i .i64 (k_12)), (47, .sl (List.map c22 vs)), (48, .i .i64 ((↑vs.length : Int))), (49, .i .i64 (i_13)), (50, .b (decide (i_13 < (↑vs.length : Int))))], []⟩) cx [(0, { tell := some (.b (decide (i_13 < (↑vs.length : Int)))) })] [0, 3, 39, 40, 41, 7, 8, 47, 48, 49, 50] [] (by kernel_rfl) (by kernel_rfl) (by kernel_rfl) ?_
        refine q_seq_normal ?_
        refine st_seq (by kernel_rfl) ?_
        refine st_dec (i_13 < (↑vs.length : Int)) (by kernel_rfl) (by kernel_rfl) (fun h_18 => ?_) (fun h_18 => ?_)
        ·
          refine st_skip (by kernel_rfl) ?_
          refine q_seq_normal ?_
          refine st_seq (by kernel_rfl) ?_
          refine st_block 5 (by kernel_rfl) ?_
          refine st_seq (by kernel_rfl) ?_
          refine st_reg (A := ((0 : Int) ≤ i_13) ∧ ((List.map c22 vs)[i_13.toNat]? = some (c22 vs[i_13.toNat]!)) ∧ ((c22 vs[i_13.toNat]!).length = (1 : Nat))) (σ' := ⟨[(0, .sl (List.map c22 vs)), (3, .sl (List.map c22 (List.map short ((List.map of vs).mergeSort fun x y ↦ !ltV y x)))), (39, .sl (List.map c22 vs)), (40, .i .i64 ((↑vs.length : Int))), (41, .i .i64 (i_7)), (7, .sl (List.map c3 (short (of vs[i_7.toNat]!)))), (8, .i .i64 (k_12)), (47, .sl (List.map c22 vs)), (48, .i .i64 ((↑vs.length : Int))), (49, .i .i64 (i_13)), (10, .sl (List.map c3 vs[i_13.toNat]!))], []⟩) cx [(0, { row := (c22 vs[i_13.toNat]!) })] [0, 3, 39, 40, 41, 7, 8, 47, 48, 49, 10] [] (by kernel_rfl) (by kernel_rfl) ⟨(by (with_reducible assumption)), (by (with_reducible refine get_map ?_; omega)), (by kernel_rfl)⟩ ?_
          refine q_seq_normal ?_
          refine st_seq (by kernel_rfl) ?_
          refine st_reg (A := (Con Try.prog (36 : FuncId) [AV.sl (List.map c3 vs[i_13.toNat]!)] (AV.sl (List.map c3 (short (of vs[i_13.toNat]!))))) ∧ (Con Try.prog (20 : FuncId) [AV.sl (List.map c3 (short (of vs[i_13.toNat]!))), AV.sl (List.map c3 (short (of vs[i_7.toNat]!)))] (AV.b (decide (short (of vs[i_13.toNat]!) = short (of vs[i_7.toNat]!)))))) (σ' := ⟨[(0, .sl (List.map c22 vs)), (3, .sl (List.map c22 (List.map short ((List.map of vs).mergeSort fun x y ↦ !ltV y x)))), (39, .sl (List.map c22 vs)), (40, .i .i64 ((↑vs.length : Int))), (41, .i .i64 (i_7)), (7, .sl (List.map c3 (short (of vs[i_7.toNat]!)))), (8, .i .i64 (k_12)), (47, .sl (List.map c22 vs)), (48, .i .i64 ((↑vs.length : Int))), (49, .i .i64 (i_13)), (56, .b (decide (short (of vs[i_13.toNat]!) = short (of vs[i_7.toNat]!))))], []⟩) cx [(1, { val := some (.sl (List.map c3 (short (of vs[i_13.toNat]!)))) }), (3, { val := some (.b (decide (short (of vs[i_13.toNat]!) = short (of vs[i_7.toNat]!)))) })] [0, 3, 39, 40, 41, 7, 8, 47, 48, 49, 56] [] (by kernel_rfl) (by kernel_rfl) ⟨(con36 (vs[i_13.toNat]!)), (con20 (short (of vs[i_13.toNat]!)) (short (of vs[i_7.toNat]!)))⟩ ?_
          refine q_seq_normal ?_
          refine st_dec (short (of vs[i_13.toNat]!) = short (of vs[i_7.toNat]!)) (by kernel_rfl) (by kernel_rfl) (fun h_19 => ?_) (fun h_19 => ?_)
          ·
            refine st_reg (A := (AV.i IntKind.i64 (IntKind.i64.wrap (k_12 + (1 : Int))) = AV.i IntKind.i64 (k_12 + (1 : Int)))) (σ' := ⟨[(0, .sl (List.map c22 vs)), (3, .sl (List.map c22 (List.map short ((List.map of vs).mergeSort fun x y ↦ !ltV y x)))), (39, .sl (List.map c22 vs)), (40, .i .i64 ((↑vs.length : Int))), (41, .i .i64 (i_7)), (7, .sl (List.map c3 (short (of vs[i_7.toNat]!)))), (8, .i .i64 (k_12 + (1 : Int))), (47, .sl (List.map c22 vs)), (48, .i .i64 ((↑vs.length : Int))), (49, .i .i64 (i_13))], []⟩) cx [(1, { tell := some (.i .i64 (k_12 + (1 : Int))) })] [0, 3, 39, 40, 41, 7, 8, 47, 48, 49] [] (by kernel_rfl) (by kernel_rfl) (told_i64 (g6 h_0 i_1 h_3 h_4 h_5 i_7 h_9 h_10 h_11 k_12 i_13 h_15 h_16 h_17 h_18 h_19) (g7 h_0 i_1 h_3 h_4 h_5 i_7 h_9 h_10 h_11 k_12 i_13 h_15 h_16 h_17 h_18 h_19)) ?_
            refine q_blk_normal ?_
            refine q_seq_normal ?_
            refine st_reg (A := (AV.i IntKind.i64 (IntKind.i64.wrap (i_13 + (1 : Int))) = AV.i IntKind.i64 (i_13 + (1 : Int)))) (σ' := ⟨[(0, .sl (List.map c22 vs)), (3, .sl (List.map c22 (List.map short ((List.map of vs).mergeSort fun x y ↦ !ltV y x)))), (39, .sl (List.map c22 vs)), (40, .i .i64 ((↑vs.length : Int))), (41, .i .i64 (i_7)), (7, .sl (List.map c3 (short (of vs[i_7.toNat]!)))), (8, .i .i64 (k_12 + (1 : Int))), (47, .sl (List.map c22 vs)), (48, .i .i64 ((↑vs.length : Int))), (49, .i .i64 (i_13 + (1 : Int)))], []⟩) cx [(0, { tell := some (.i .i64 (i_13 + (1 : Int))) })] [0, 3, 39, 40, 41, 7, 8, 47, 48, 49] [] (by kernel_rfl) (by kernel_rfl) (told_i64 (by omega) (by omega)) ?_
            refine q_seq_normal ?_
            exact loop_next ((k_12 + (1 : Int), i_13 + (1 : Int))) (by kernel_rfl) (show ((↑vs.length : Int) - (i_13 + (1 : Int))).toNat < ((↑vs.length : Int) - i_13).toNat from (by omega)) (g8 h_0 i_1 h_3 h_4 h_5 i_7 h_9 h_10 h_11 k_12 i_13 h_15 h_16 h_17 h_18 h_19)
          ·
            refine st_skip (by kernel_rfl) ?_
            refine q_blk_normal ?_
            refine q_seq_normal ?_
            refine st_reg (A := (AV.i IntKind.i64 (IntKind.i64.wrap (i_13 + (1 : Int))) = AV.i IntKind.i64 (i_13 + (1 : Int)))) (σ' := ⟨[(0, .sl (List.map c22 vs)), (3, .sl (List.map c22 (List.map short ((List.map of vs).mergeSort fun x y ↦ !ltV y x)))), (39, .sl (List.map c22 vs)), (40, .i .i64 ((↑vs.length : Int))), (41, .i .i64 (i_7)), (7, .sl (List.map c3 (short (of vs[i_7.toNat]!)))), (8, .i .i64 (k_12)), (47, .sl (List.map c22 vs)), (48, .i .i64 ((↑vs.length : Int))), (49, .i .i64 (i_13 + (1 : Int)))], []⟩) cx [(0, { tell := some (.i .i64 (i_13 + (1 : Int))) })] [0, 3, 39, 40, 41, 7, 8, 47, 48, 49] [] (by kernel_rfl) (by kernel_rfl) (told_i64 (by omega) (by omega)) ?_
            refine q_seq_normal ?_
            exact loop_next ((k_12, i_13 + (1 : Int))) (by kernel_rfl) (show ((↑vs.length : Int) - (i_13 + (1 : Int))).toNat < ((↑vs.length : Int) - i_13).toNat from (by omega)) (g9 h_0 i_1 h_3 h_4 h_5 i_7 h_9 h_10 h_11 k_12 i_13 h_15 h_16 h_17 h_18 h_19)
        ·
          refine st_exit 4 (by kernel_rfl) ?_
          refine q_seq_exit ?_
          refine q_seq_exit ?_
          refine q_blk_hit ?_
          refine q_seq_normal ?_
          refine st_seq (by kernel_rfl) ?_
          refine st_seq (by kernel_rfl) ?_
          refine st_reg (A := (AV.i IntKind.i64 (↑(List.map c22 (List.map short ((List.map of vs).mergeSort fun x y ↦ !ltV y x))).length : Int) = AV.i IntKind.i64 (↑(List.map short ((List.map of vs).mergeSort fun x y ↦ !ltV y x)).length : Int))) (σ' := ⟨[(0, .sl (List.map c22 vs)), (3, .sl (List.map c22 (List.map short ((List.map of vs).mergeSort fun x y ↦ !ltV y x)))), (39, .sl (List.map c22 vs)), (40, .i .i64 ((↑vs.length : Int))), (41, .i .i64 (i_7)), (7, .sl (List.map c3 (short (of vs[i_7.toNat]!)))), (8, .i .i64 (k_12)), (60, .sl (List.map c22 (List.map short ((List.map of vs).mergeSort fun x y ↦ !ltV y x)))), (61, .i .i64 ((↑(List.map short ((List.map of vs).mergeSort fun x y ↦ !ltV y x)).length : Int))), (62, .i .i64 ((0 : Int)))], []⟩) cx [(1, { tell := some (.i .i64 ((↑(List.map short ((List.map of vs).mergeSort fun x y ↦ !ltV y x)).length : Int))) })] [0, 3, 39, 40, 41, 7, 8, 60, 61, 62] [] (by kernel_rfl) (by kernel_rfl) (told_len c22 (List.map short ((List.map of vs).mergeSort fun x y ↦ !ltV y x))) ?_
          refine q_seq_normal ?_
          refine st_block 6 (by kernel_rfl) ?_
          refine st_loop (X := Int × Int) (fun x => ⟨[(0, .sl (List.map c22 vs)), (3, .sl (List.map c22 (List.map short ((List.map of vs).mergeSort fun x y ↦ !ltV y x)))), (39, .sl (List.map c22 vs)), (40, .i .i64 ((↑vs.length : Int))), (41, .i .i64 (i_7)), (7, .sl (List.map c3 (short (of vs[i_7.toNat]!)))), (8, .i .i64 (x.fst)), (60, .sl (List.map c22 (List.map short ((List.map of vs).mergeSort fun x y ↦ !ltV y x)))), (61, .i .i64 ((↑(List.map short ((List.map of vs).mergeSort fun x y ↦ !ltV y x)).length : Int))), (62, .i .i64 (x.snd))], []⟩) (fun x ↦ dec12b vs x.fst x.snd) (fun x ↦ inv12c vs (short (of vs[i_7.toNat]!)) x.fst x.snd) [0, 3, 39, 40, 41, 7, 8, 60, 61, 62] [] ((k_12, (0 : Int))) (by kernel_rfl) (by kernel_rfl) (g10 h_0 i_1 h_3 h_4 h_5 i_7 h_9 h_10 h_11 k_12 i_13 h_15 h_16 h_17 h_18) ?_
          rintro ⟨k_20, i_21⟩ h_22
          obtain ⟨h_23, h_24, h_25⟩ : (0 : Int) ≤ i_21 ∧ i_21 ≤ (↑vs.length : Int) ∧ k_20 = cntL (norms vs) (short (of vs[i_7.toNat]!)) (↑vs.length : Int) - cntL (List.map short (srtV vs)) (short (of vs[i_7.toNat]!)) i_21 := h_22
          refine st_seq (by kernel_rfl) ?_
          refine st_reg (A := (AV.b (decide (i_21 < (↑(List.map short ((List.map of vs).mergeSort fun x y ↦ !ltV y x)).length : Int))) = AV.b (decide (i_21 < (↑(List.map short ((List.map of vs).mergeSort fun x y ↦ !ltV y x)).length : Int))))) (σ' := ⟨[(0, .sl (List.map c22 vs)), (3, .sl (List.map c22 (List.map short ((List.map of vs).mergeSort fun x y ↦ !ltV y x)))), (39, .sl (List.map c22 vs)), (40, .i .i64 ((↑vs.length : Int))), (41, .i .i64 (i_7)), (7, .sl (List.map c3 (short (of vs[i_7.toNat]!)))), (8, .i .i64 (k_20)), (60, .sl (List.map c22 (List.map short ((List.map of vs).mergeSort fun x y ↦ !ltV y x)))), (61, .i .i64 ((↑(List.map short ((List.map of vs).mergeSort fun x y ↦ !ltV y x)).length : Int))), (62, .i .i64 (i_21)), (63, .b (decide (i_21 < (↑(List.map short ((List.map of vs).mergeSort fun x y ↦ !ltV y x)).length : Int))))], []⟩) cx [(0, { tell := some (.b (decide (i_21 < (↑(List.map short ((List.map of vs).mergeSort fun x y ↦ !ltV y x)).length : Int)))) })] [0, 3, 39, 40, 41, 7, 8, 60, 61, 62, 63] [] (by kernel_rfl) (by kernel_rfl) (by kernel_rfl) ?_
          refine q_seq_normal ?_
          refine st_seq (by kernel_rfl) ?_
          refine st_dec (i_21 < (↑(List.map short ((List.map of vs).mergeSort fun x y ↦ !ltV y x)).length : Int)) (by kernel_rfl) (by kernel_rfl) (fun h_26 => ?_) (fun h_26 => ?_)
          ·
            refine st_skip (by kernel_rfl) ?_
            refine q_seq_normal ?_
            refine st_seq (by kernel_rfl) ?_
            refine st_block 7 (by kernel_rfl) ?_
            refine st_seq (by kernel_rfl) ?_
            refine st_reg (A := ((0 : Int) ≤ i_21) ∧ ((List.map c22 (List.map short ((List.map of vs).mergeSort fun x y ↦ !ltV y x)))[i_21.toNat]? = some (c22 (List.map short ((List.map of vs).mergeSort fun x y ↦ !ltV y x))[i_21.toNat]!)) ∧ ((c22 (List.map short ((List.map of vs).mergeSort fun x y ↦ !ltV y x))[i_21.toNat]!).length = (1 : Nat))) (σ' := ⟨[(0, .sl (List.map c22 vs)), (3, .sl (List.map c22 (List.map short ((List.map of vs).mergeSort fun x y ↦ !ltV y x)))), (39, .sl (List.map c22 vs)), (40, .i .i64 ((↑vs.length : Int))), (41, .i .i64 (i_7)), (7, .sl (List.map c3 (short (of vs[i_7.toNat]!)))), (8, .i .i64 (k_20)), (60, .sl (List.map c22 (List.map short ((List.map of vs).mergeSort fun x y ↦ !ltV y x)))), (61, .i .i64 ((↑(List.map short ((List.map of vs).mergeSort fun x y ↦ !ltV y x)).length : Int))), (62, .i .i64 (i_21)), (12, .sl (List.map c3 (List.map short ((List.map of vs).mergeSort fun x y ↦ !ltV y x))[i_21.toNat]!))], []⟩) cx [(0, { row := (c22 (List.map short ((List.map of vs).mergeSort fun x y ↦ !ltV y x))[i_21.toNat]!) })] [0, 3, 39, 40, 41, 7, 8, 60, 61, 62, 12] [] (by kernel_rfl) (by kernel_rfl) ⟨(by (with_reducible assumption)), (by (with_reducible refine get_map ?_; omega)), (by kernel_rfl)⟩ ?_
            refine q_seq_normal ?_
            refine st_seq (by kernel_rfl) ?_
            refine st_reg (A := (Con Try.prog (20 : FuncId) [AV.sl (List.map c3 (List.map short ((List.map of vs).mergeSort fun x y ↦ !ltV y x))[i_21.toNat]!), AV.sl (List.map c3 (short (of vs[i_7.toNat]!)))] (AV.b (decide ((List.map short ((List.map of vs).mergeSort fun x y ↦ !ltV y x))[i_21.toNat]! = short (of vs[i_7.toNat]!)))))) (σ' := ⟨[(0, .sl (List.map c22 vs)), (3, .sl (List.map c22 (List.map short ((List.map of vs).mergeSort fun x y ↦ !ltV y x)))), (39, .sl (List.map c22 vs)), (40, .i .i64 ((↑vs.length : Int))), (41, .i .i64 (i_7)), (7, .sl (List.map c3 (short (of vs[i_7.toNat]!)))), (8, .i .i64 (k_20)), (60, .sl (List.map c22 (List.map short ((List.map of vs).mergeSort fun x y ↦ !ltV y x)))), (61, .i .i64 ((↑(List.map short ((List.map of vs).mergeSort fun x y ↦ !ltV y x)).length : Int))), (62, .i .i64 (i_21)), (68, .b (decide ((List.map short ((List.map of vs).mergeSort fun x y ↦ !ltV y x))[i_21.toNat]! = short (of vs[i_7.toNat]!))))], []⟩) cx [(2, { val := some (.b (decide ((List.map short ((List.map of vs).mergeSort fun x y ↦ !ltV y x))[i_21.toNat]! = short (of vs[i_7.toNat]!)))) })] [0, 3, 39, 40, 41, 7, 8, 60, 61, 62, 68] [] (by kernel_rfl) (by kernel_rfl) (con20 ((List.map short ((List.map of vs).mergeSort fun x y ↦ !ltV y x))[i_21.toNat]!) (short (of vs[i_7.toNat]!))) ?_
            refine q_seq_normal ?_
            refine st_dec ((List.map short ((List.map of vs).mergeSort fun x y ↦ !ltV y x))[i_21.toNat]! = short (of vs[i_7.toNat]!)) (by kernel_rfl) (by kernel_rfl) (fun h_27 => ?_) (fun h_27 => ?_)
            ·
              refine st_reg (A := (AV.i IntKind.i64 (IntKind.i64.wrap (k_20 - (1 : Int))) = AV.i IntKind.i64 (k_20 - (1 : Int)))) (σ' := ⟨[(0, .sl (List.map c22 vs)), (3, .sl (List.map c22 (List.map short ((List.map of vs).mergeSort fun x y ↦ !ltV y x)))), (39, .sl (List.map c22 vs)), (40, .i .i64 ((↑vs.length : Int))), (41, .i .i64 (i_7)), (7, .sl (List.map c3 (short (of vs[i_7.toNat]!)))), (8, .i .i64 (k_20 - (1 : Int))), (60, .sl (List.map c22 (List.map short ((List.map of vs).mergeSort fun x y ↦ !ltV y x)))), (61, .i .i64 ((↑(List.map short ((List.map of vs).mergeSort fun x y ↦ !ltV y x)).length : Int))), (62, .i .i64 (i_21))], []⟩) cx [(1, { tell := some (.i .i64 (k_20 - (1 : Int))) })] [0, 3, 39, 40, 41, 7, 8, 60, 61, 62] [] (by kernel_rfl) (by kernel_rfl) (told_i64 (g11 h_0 i_1 h_3 h_4 h_5 i_7 h_9 h_10 h_11 k_12 i_13 h_15 h_16 h_17 h_18 k_20 i_21 h_23 h_24 h_25 h_26 h_27) (g12 h_0 i_1 h_3 h_4 h_5 i_7 h_9 h_10 h_11 k_12 i_13 h_15 h_16 h_17 h_18 k_20 i_21 h_23 h_24 h_25 h_26 h_27)) ?_
              refine q_blk_normal ?_
              refine q_seq_normal ?_
              refine st_reg (A := (AV.i IntKind.i64 (IntKind.i64.wrap (i_21 + (1 : Int))) = AV.i IntKind.i64 (i_21 + (1 : Int)))) (σ' := ⟨[(0, .sl (List.map c22 vs)), (3, .sl (List.map c22 (List.map short ((List.map of vs).mergeSort fun x y ↦ !ltV y x)))), (39, .sl (List.map c22 vs)), (40, .i .i64 ((↑vs.length : Int))), (41, .i .i64 (i_7)), (7, .sl (List.map c3 (short (of vs[i_7.toNat]!)))), (8, .i .i64 (k_20 - (1 : Int))), (60, .sl (List.map c22 (List.map short ((List.map of vs).mergeSort fun x y ↦ !ltV y x)))), (61, .i .i64 ((↑(List.map short ((List.map of vs).mergeSort fun x y ↦ !ltV y x)).length : Int))), (62, .i .i64 (i_21 + (1 : Int)))], []⟩) cx [(0, { tell := some (.i .i64 (i_21 + (1 : Int))) })] [0, 3, 39, 40, 41, 7, 8, 60, 61, 62] [] (by kernel_rfl) (by kernel_rfl) (told_i64 (by omega) (by omega)) ?_
              refine q_seq_normal ?_
              exact loop_next ((k_20 - (1 : Int), i_21 + (1 : Int))) (by kernel_rfl) (show ((↑vs.length : Int) - (i_21 + (1 : Int))).toNat < ((↑vs.length : Int) - i_21).toNat from (by omega)) (g13 h_0 i_1 h_3 h_4 h_5 i_7 h_9 h_10 h_11 k_12 i_13 h_15 h_16 h_17 h_18 k_20 i_21 h_23 h_24 h_25 h_26 h_27)
            ·
              refine st_skip (by kernel_rfl) ?_
              refine q_blk_normal ?_
              refine q_seq_normal ?_
              refine st_reg (A := (AV.i IntKind.i64 (IntKind.i64.wrap (i_21 + (1 : Int))) = AV.i IntKind.i64 (i_21 + (1 : Int)))) (σ' := ⟨[(0, .sl (List.map c22 vs)), (3, .sl (List.map c22 (List.map short ((List.map of vs).mergeSort fun x y ↦ !ltV y x)))), (39, .sl (List.map c22 vs)), (40, .i .i64 ((↑vs.length : Int))), (41, .i .i64 (i_7)), (7, .sl (List.map c3 (short (of vs[i_7.toNat]!)))), (8, .i .i64 (k_20)), (60, .sl (List.map c22 (List.map short ((List.map of vs).mergeSort fun x y ↦ !ltV y x)))), (61, .i .i64 ((↑(List.map short ((List.map of vs).mergeSort fun x y ↦ !ltV y x)).length : Int))), (62, .i .i64 (i_21 + (1 : Int)))], []⟩) cx [(0, { tell := some (.i .i64 (i_21 + (1 : Int))) })] [0, 3, 39, 40, 41, 7, 8, 60, 61, 62] [] (by kernel_rfl) (by kernel_rfl) (told_i64 (by omega) (by omega)) ?_
              refine q_seq_normal ?_
              exact loop_next ((k_20, i_21 + (1 : Int))) (by kernel_rfl) (show ((↑vs.length : Int) - (i_21 + (1 : Int))).toNat < ((↑vs.length : Int) - i_21).toNat from (by omega)) (g14 h_0 i_1 h_3 h_4 h_5 i_7 h_9 h_10 h_11 k_12 i_13 h_15 h_16 h_17 h_18 k_20 i_21 h_23 h_24 h_25 h_26 h_27)
          ·
            refine st_exit 6 (by kernel_rfl) ?_
            refine q_seq_exit ?_
            refine q_seq_exit ?_
            refine q_blk_hit ?_
            refine q_seq_normal ?_
            refine st_seq (by kernel_rfl) ?_
            refine st_reg (A := (AV.b (k_20 != (0 : Int)) = AV.b (decide ¬k_20 = (0 : Int)))) (σ' := ⟨[(0, .sl (List.map c22 vs)), (3, .sl (List.map c22 (List.map short ((List.map of vs).mergeSort fun x y ↦ !ltV y x)))), (39, .sl (List.map c22 vs)), (40, .i .i64 ((↑vs.length : Int))), (41, .i .i64 (i_7)), (73, .b (decide ¬k_20 = (0 : Int)))], []⟩) cx [(1, { tell := some (.b (decide ¬k_20 = (0 : Int))) })] [0, 3, 39, 40, 41, 73] [] (by kernel_rfl) (by kernel_rfl) (told_neq) ?_
            refine q_seq_normal ?_
            refine st_dec (¬k_20 = (0 : Int)) (by kernel_rfl) (by kernel_rfl) (fun h_28 => ?_) (fun h_28 => ?_)
            ·
              refine st_seq (by kernel_rfl) ?_
              refine st_reg (A := True) (σ' := ⟨[(2, .b (false))], []⟩) cx [] [2] [] (by kernel_rfl) (by kernel_rfl) trivial ?_
              refine q_seq_normal ?_
              refine st_ret (by kernel_rfl) ?_
              refine q_blk_ret ?_
              refine q_seq_ret ?_
              refine q_seq_ret ?_
              refine q_blk_ret ?_
              refine q_seq_ret ?_
              exact q_ret (r := .b (false)) (obl := []) (by kernel_rfl) trivial (AVle.eq (g15 h_0 i_1 h_3 h_4 h_5 i_7 h_9 h_10 h_11 k_12 i_13 h_15 h_16 h_17 h_18 k_20 i_21 h_23 h_24 h_25 h_26 h_28))
            ·
              refine st_skip (by kernel_rfl) ?_
              refine q_blk_normal ?_
              refine q_seq_normal ?_
              refine st_reg (A := (AV.i IntKind.i64 (IntKind.i64.wrap (i_7 + (1 : Int))) = AV.i IntKind.i64 (i_7 + (1 : Int)))) (σ' := ⟨[(0, .sl (List.map c22 vs)), (3, .sl (List.map c22 (List.map short ((List.map of vs).mergeSort fun x y ↦ !ltV y x)))), (39, .sl (List.map c22 vs)), (40, .i .i64 ((↑vs.length : Int))), (41, .i .i64 (i_7 + (1 : Int)))], []⟩) cx [(0, { tell := some (.i .i64 (i_7 + (1 : Int))) })] [0, 3, 39, 40, 41] [] (by kernel_rfl) (by kernel_rfl) (told_i64 (by omega) (by omega)) ?_
              refine q_seq_normal ?_
              exact loop_next (i_7 + (1 : Int)) (by kernel_rfl) (show ((↑vs.length : Int) - (i_7 + (1 : Int))).toNat < ((↑vs.length : Int) - i_7).toNat from (by omega)) (g16 h_0 i_1 h_3 h_4 h_5 i_7 h_9 h_10 h_11 k_12 i_13 h_15 h_16 h_17 h_18 k_20 i_21 h_23 h_24 h_25 h_26 h_28)
      ·
        refine st_exit 2 (by kernel_rfl) ?_
        refine q_seq_exit ?_
        refine q_seq_exit ?_
        refine q_blk_hit ?_
        refine q_seq_normal ?_
        refine st_seq (by kernel_rfl) ?_
        refine st_reg (A := True) (σ' := ⟨[(2, .b (true))], []⟩) cx [] [2] [] (by kernel_rfl) (by kernel_rfl) trivial ?_
        refine q_seq_normal ?_
        refine st_ret (by kernel_rfl) ?_
        exact q_ret (r := .b (true)) (obl := []) (by kernel_rfl) trivial (AVle.refl _)
theorem con12 (vs : List (List Int)) (hs : sz38 vs) (hl : vs.length * 128 ≤ 140737488351232) : Con Try.prog 12 [.sl (vs.map c22)] (.b true) :=
  by
  have hL := srt_len vs
  have hl2 : ((srtV vs).map short).length = vs.length := srt_len vs
  refine walk12 vs hs hl (fun h => by omega) (fun h => ⟨by omega, by omega⟩) (fun h i h0 h1 h2 h3 => ?_) (fun h i h0 h1 h2 h3 => ⟨by omega, by omega⟩) (fun h i h0 h1 h2 => ⟨by omega, by omega⟩)
    (fun h i h0 h1 h2 i' k0 k1 k2 => ⟨by omega, by omega, by simp [cntL]⟩) (fun h i h0 h1 h2 i' k0 k1 k2 k j c0 c1 c2 c3 c4 => ?_) (fun h i h0 h1 h2 i' k0 k1 k2 k j c0 c1 c2 c3 c4 => ?_)
    (fun h i h0 h1 h2 i' k0 k1 k2 k j c0 c1 c2 c3 c4 => ⟨by omega, by omega, by rw [cnt_norm c0 c3, if_pos c4, c2]⟩) (fun h i h0 h1 h2 i' k0 k1 k2 k j c0 c1 c2 c3 c4 => ⟨by omega, by omega, by rw [cnt_norm c0 c3, if_neg c4, c2]; omega⟩)
    (fun h i h0 h1 h2 i' k0 k1 k2 k j c0 c1 c2 c3 => ⟨by omega, by omega, ?_⟩) (fun h i h0 h1 h2 i' k0 k1 k2 k j c0 c1 c2 c3 k' j' d0 d1 d2 d3 d4 => ?_) (fun h i h0 h1 h2 i' k0 k1 k2 k j c0 c1 c2 c3 k' j' d0 d1 d2 d3 d4 => ?_)
    (fun h i h0 h1 h2 i' k0 k1 k2 k j c0 c1 c2 c3 k' j' d0 d1 d2 d3 d4 => ⟨by omega, by omega, ?_⟩) (fun h i h0 h1 h2 i' k0 k1 k2 k j c0 c1 c2 c3 k' j' d0 d1 d2 d3 d4 => ⟨by omega, by omega, ?_⟩)
    (fun h i h0 h1 h2 i' k0 k1 k2 k j c0 c1 c2 c3 k' j' d0 d1 d2 d3 d4 => ?_) (fun h i h0 h1 h2 i' k0 k1 k2 k j c0 c1 c2 c3 k' j' d0 d1 d2 d3 d4 => ⟨by omega, by omega⟩)
  · rw [srt_get (by omega) (by omega), srt_get (by omega) (by omega)] at h3
    have := rise_srt h0 (by omega : i < vs.length)
    omega
  · have := cnt_bound vs (short (of vs[i'.toNat]!)) c0 c1; omega
  · have := cnt_bound vs (short (of vs[i'.toNat]!)) c0 c1; omega
  · have e : j = vs.length := by omega
    rw [c2, e]; simp [cntL]
  · have := cnt_bound vs (short (of vs[i'.toNat]!)) (i := vs.length) (by omega) (by omega)
    have := cnt_bound' vs (short (of vs[i'.toNat]!)) d0 d1
    omega
  · have := cnt_bound vs (short (of vs[i'.toNat]!)) (i := vs.length) (by omega) (by omega)
    have := cnt_bound' vs (short (of vs[i'.toNat]!)) d0 d1
    omega
  · have d4' : ((srtV vs).map short)[j'.toNat]! = short (of vs[i'.toNat]!) := d4
    rw [cntL_step d0 (by omega), if_pos d4', d2]; omega
  · have d4' : ¬ ((srtV vs).map short)[j'.toNat]! = short (of vs[i'.toNat]!) := d4
    rw [cntL_step d0 (by omega), if_neg d4', d2]; omega
  · refine absurd ?_ d4
    rw [d2, cnt_all vs _ vs.length j' (by omega) (by omega)]; omega
theorem walk14 (vs : List (List Int)) (hs : sz38 vs) (hl : vs.length * (128 : Nat) ≤ (140737488351232 : Nat))
    (g0 : ¬(↑(headsV [[(1 : Int)], [(2 : Int)], [(0 : Int), (1 : Int)], [(2 : Int)], []]).fst.length : Int) = (2 : Int) → AV.b false = AV.b true)
    (g1 : ¬¬(↑(headsV [[(1 : Int)], [(2 : Int)], [(0 : Int), (1 : Int)], [(2 : Int)], []]).fst.length : Int) = (2 : Int) → (256 : Int) < (↑vs.length : Int) → AV.b (decide ((headsV vs).snd = (2 : Int) ∧ (↑(headsV vs).fst.length : Int) = (0 : Int))) = AV.b true)
    (g2 : ¬¬(↑(headsV [[(1 : Int)], [(2 : Int)], [(0 : Int), (1 : Int)], [(2 : Int)], []]).fst.length : Int) = (2 : Int) → ¬(256 : Int) < (↑vs.length : Int) → ¬(headsV vs).snd = (0 : Int) → AV.b false = AV.b true)
    (g3 : ¬¬(↑(headsV [[(1 : Int)], [(2 : Int)], [(0 : Int), (1 : Int)], [(2 : Int)], []]).fst.length : Int) = (2 : Int) → ¬(256 : Int) < (↑vs.length : Int) → ¬¬(headsV vs).snd = (0 : Int) → inv30i' (headsV vs).fst (0 : Int))
    (g4 : ¬¬(↑(headsV [[(1 : Int)], [(2 : Int)], [(0 : Int), (1 : Int)], [(2 : Int)], []]).fst.length : Int) = (2 : Int) → ¬(256 : Int) < (↑vs.length : Int) → ¬¬(headsV vs).snd = (0 : Int) → ∀ (i_5 : Int), (0 : Int) ≤ i_5 → i_5 ≤ (↑(headsV vs).fst.length : Int) → i_5 < (↑(headsV vs).fst.length : Int) → inv30i' (headsV vs).fst (0 : Int))
    (g5 : ¬¬(↑(headsV [[(1 : Int)], [(2 : Int)], [(0 : Int), (1 : Int)], [(2 : Int)], []]).fst.length : Int) = (2 : Int) → ¬(256 : Int) < (↑vs.length : Int) → ¬¬(headsV vs).snd = (0 : Int) → ∀ (i_5 : Int), (0 : Int) ≤ i_5 → i_5 ≤ (↑(headsV vs).fst.length : Int) → i_5 < (↑(headsV vs).fst.length : Int) → ∀ (i_10 : Int), (0 : Int) ≤ i_10 → i_10 ≤ (↑(headsV vs).fst.length : Int) → i_10 < (↑(headsV vs).fst.length : Int) → ¬i_5 = i_10 ∧ ¬ordV (of (headsV vs).fst[i_5.toNat]!) (of (headsV vs).fst[i_10.toNat]!) = (3 : Int) → AV.b false = AV.b true)
    (g6 : ¬¬(↑(headsV [[(1 : Int)], [(2 : Int)], [(0 : Int), (1 : Int)], [(2 : Int)], []]).fst.length : Int) = (2 : Int) → ¬(256 : Int) < (↑vs.length : Int) → ¬¬(headsV vs).snd = (0 : Int) → ∀ (i_5 : Int), (0 : Int) ≤ i_5 → i_5 ≤ (↑(headsV vs).fst.length : Int) → i_5 < (↑(headsV vs).fst.length : Int) → ∀ (i_10 : Int), (0 : Int) ≤ i_10 → i_10 ≤ (↑(headsV vs).fst.length : Int) → i_10 < (↑(headsV vs).fst.length : Int) → ¬(¬i_5 = i_10 ∧ ¬ordV (of (headsV vs).fst[i_5.toNat]!) (of (headsV vs).fst[i_10.toNat]!) = (3 : Int)) → i_10 + (1 : Int) ≤ (9223372036854775807 : Int))
    (g7 : ¬¬(↑(headsV [[(1 : Int)], [(2 : Int)], [(0 : Int), (1 : Int)], [(2 : Int)], []]).fst.length : Int) = (2 : Int) → ¬(256 : Int) < (↑vs.length : Int) → ¬¬(headsV vs).snd = (0 : Int) → ∀ (i_5 : Int), (0 : Int) ≤ i_5 → i_5 ≤ (↑(headsV vs).fst.length : Int) → i_5 < (↑(headsV vs).fst.length : Int) → ∀ (i_10 : Int), (0 : Int) ≤ i_10 → i_10 ≤ (↑(headsV vs).fst.length : Int) → i_10 < (↑(headsV vs).fst.length : Int) → ¬(¬i_5 = i_10 ∧ ¬ordV (of (headsV vs).fst[i_5.toNat]!) (of (headsV vs).fst[i_10.toNat]!) = (3 : Int)) → inv30i' (headsV vs).fst (i_10 + (1 : Int)))
    (g8 : ¬¬(↑(headsV [[(1 : Int)], [(2 : Int)], [(0 : Int), (1 : Int)], [(2 : Int)], []]).fst.length : Int) = (2 : Int) → ¬(256 : Int) < (↑vs.length : Int) → ¬¬(headsV vs).snd = (0 : Int) → ∀ (i_5 : Int), (0 : Int) ≤ i_5 → i_5 ≤ (↑(headsV vs).fst.length : Int) → i_5 < (↑(headsV vs).fst.length : Int) → ∀ (i_10 : Int), (0 : Int) ≤ i_10 → i_10 ≤ (↑(headsV vs).fst.length : Int) → ¬i_10 < (↑(headsV vs).fst.length : Int) → i_5 + (1 : Int) ≤ (9223372036854775807 : Int))
    (g9 : ¬¬(↑(headsV [[(1 : Int)], [(2 : Int)], [(0 : Int), (1 : Int)], [(2 : Int)], []]).fst.length : Int) = (2 : Int) → ¬(256 : Int) < (↑vs.length : Int) → ¬¬(headsV vs).snd = (0 : Int) → ∀ (i_5 : Int), (0 : Int) ≤ i_5 → i_5 ≤ (↑(headsV vs).fst.length : Int) → i_5 < (↑(headsV vs).fst.length : Int) → ∀ (i_10 : Int), (0 : Int) ≤ i_10 → i_10 ≤ (↑(headsV vs).fst.length : Int) → ¬i_10 < (↑(headsV vs).fst.length : Int) → inv30i' (headsV vs).fst (i_5 + (1 : Int)))
    (g10 : ¬¬(↑(headsV [[(1 : Int)], [(2 : Int)], [(0 : Int), (1 : Int)], [(2 : Int)], []]).fst.length : Int) = (2 : Int) → ¬(256 : Int) < (↑vs.length : Int) → ¬¬(headsV vs).snd = (0 : Int) → ∀ (i_5 : Int), (0 : Int) ≤ i_5 → i_5 ≤ (↑(headsV vs).fst.length : Int) → ¬i_5 < (↑(headsV vs).fst.length : Int) → inv30i' vs (0 : Int))
    (g11 : ¬¬(↑(headsV [[(1 : Int)], [(2 : Int)], [(0 : Int), (1 : Int)], [(2 : Int)], []]).fst.length : Int) = (2 : Int) → ¬(256 : Int) < (↑vs.length : Int) → ¬¬(headsV vs).snd = (0 : Int) → ∀ (i_5 : Int), (0 : Int) ≤ i_5 → i_5 ≤ (↑(headsV vs).fst.length : Int) → ¬i_5 < (↑(headsV vs).fst.length : Int) → ∀ (i_18 : Int), (0 : Int) ≤ i_18 → i_18 ≤ (↑vs.length : Int) → i_18 < (↑vs.length : Int) → inv10d (headsV vs).fst vs[i_18.toNat]! false (0 : Int))
    (g12 : ¬¬(↑(headsV [[(1 : Int)], [(2 : Int)], [(0 : Int), (1 : Int)], [(2 : Int)], []]).fst.length : Int) = (2 : Int) → ¬(256 : Int) < (↑vs.length : Int) → ¬¬(headsV vs).snd = (0 : Int) → ∀ (i_5 : Int), (0 : Int) ≤ i_5 → i_5 ≤ (↑(headsV vs).fst.length : Int) → ¬i_5 < (↑(headsV vs).fst.length : Int) → ∀ (i_18 : Int), (0 : Int) ≤ i_18 → i_18 ≤ (↑vs.length : Int) → i_18 < (↑vs.length : Int) → ∀ (found_23 : Bool) (i_24 : Int), (0 : Int) ≤ i_24 → i_24 ≤ (↑(headsV vs).fst.length : Int) → (found_23 = true ↔ covered (headsV vs).fst vs[i_18.toNat]! i_24) → i_24 < (↑(headsV vs).fst.length : Int) → leV (of vs[i_18.toNat]!) (of (headsV vs).fst[i_24.toNat]!) → i_24 + (1 : Int) ≤ (9223372036854775807 : Int))
    (g13 : ¬¬(↑(headsV [[(1 : Int)], [(2 : Int)], [(0 : Int), (1 : Int)], [(2 : Int)], []]).fst.length : Int) = (2 : Int) → ¬(256 : Int) < (↑vs.length : Int) → ¬¬(headsV vs).snd = (0 : Int) → ∀ (i_5 : Int), (0 : Int) ≤ i_5 → i_5 ≤ (↑(headsV vs).fst.length : Int) → ¬i_5 < (↑(headsV vs).fst.length : Int) → ∀ (i_18 : Int), (0 : Int) ≤ i_18 → i_18 ≤ (↑vs.length : Int) → i_18 < (↑vs.length : Int) → ∀ (found_23 : Bool) (i_24 : Int), (0 : Int) ≤ i_24 → i_24 ≤ (↑(headsV vs).fst.length : Int) → (found_23 = true ↔ covered (headsV vs).fst vs[i_18.toNat]! i_24) → i_24 < (↑(headsV vs).fst.length : Int) → leV (of vs[i_18.toNat]!) (of (headsV vs).fst[i_24.toNat]!) → inv10d (headsV vs).fst vs[i_18.toNat]! true (i_24 + (1 : Int)))
    (g14 : ¬¬(↑(headsV [[(1 : Int)], [(2 : Int)], [(0 : Int), (1 : Int)], [(2 : Int)], []]).fst.length : Int) = (2 : Int) → ¬(256 : Int) < (↑vs.length : Int) → ¬¬(headsV vs).snd = (0 : Int) → ∀ (i_5 : Int), (0 : Int) ≤ i_5 → i_5 ≤ (↑(headsV vs).fst.length : Int) → ¬i_5 < (↑(headsV vs).fst.length : Int) → ∀ (i_18 : Int), (0 : Int) ≤ i_18 → i_18 ≤ (↑vs.length : Int) → i_18 < (↑vs.length : Int) → ∀ (found_23 : Bool) (i_24 : Int), (0 : Int) ≤ i_24 → i_24 ≤ (↑(headsV vs).fst.length : Int) → (found_23 = true ↔ covered (headsV vs).fst vs[i_18.toNat]! i_24) → i_24 < (↑(headsV vs).fst.length : Int) → ¬leV (of vs[i_18.toNat]!) (of (headsV vs).fst[i_24.toNat]!) → i_24 + (1 : Int) ≤ (9223372036854775807 : Int))
    (g15 : ¬¬(↑(headsV [[(1 : Int)], [(2 : Int)], [(0 : Int), (1 : Int)], [(2 : Int)], []]).fst.length : Int) = (2 : Int) → ¬(256 : Int) < (↑vs.length : Int) → ¬¬(headsV vs).snd = (0 : Int) → ∀ (i_5 : Int), (0 : Int) ≤ i_5 → i_5 ≤ (↑(headsV vs).fst.length : Int) → ¬i_5 < (↑(headsV vs).fst.length : Int) → ∀ (i_18 : Int), (0 : Int) ≤ i_18 → i_18 ≤ (↑vs.length : Int) → i_18 < (↑vs.length : Int) → ∀ (found_23 : Bool) (i_24 : Int), (0 : Int) ≤ i_24 → i_24 ≤ (↑(headsV vs).fst.length : Int) → (found_23 = true ↔ covered (headsV vs).fst vs[i_18.toNat]! i_24) → i_24 < (↑(headsV vs).fst.length : Int) → ¬leV (of vs[i_18.toNat]!) (of (headsV vs).fst[i_24.toNat]!) → inv10d (headsV vs).fst vs[i_18.toNat]! found_23 (i_24 + (1 : Int)))
    (g16 : ¬¬(↑(headsV [[(1 : Int)], [(2 : Int)], [(0 : Int), (1 : Int)], [(2 : Int)], []]).fst.length : Int) = (2 : Int) → ¬(256 : Int) < (↑vs.length : Int) → ¬¬(headsV vs).snd = (0 : Int) → ∀ (i_5 : Int), (0 : Int) ≤ i_5 → i_5 ≤ (↑(headsV vs).fst.length : Int) → ¬i_5 < (↑(headsV vs).fst.length : Int) → ∀ (i_18 : Int), (0 : Int) ≤ i_18 → i_18 ≤ (↑vs.length : Int) → i_18 < (↑vs.length : Int) → ∀ (found_23 : Bool) (i_24 : Int), (0 : Int) ≤ i_24 → i_24 ≤ (↑(headsV vs).fst.length : Int) → (found_23 = true ↔ covered (headsV vs).fst vs[i_18.toNat]! i_24) → ¬i_24 < (↑(headsV vs).fst.length : Int) → ¬found_23 = true → AV.b false = AV.b true)
    (g17 : ¬¬(↑(headsV [[(1 : Int)], [(2 : Int)], [(0 : Int), (1 : Int)], [(2 : Int)], []]).fst.length : Int) = (2 : Int) → ¬(256 : Int) < (↑vs.length : Int) → ¬¬(headsV vs).snd = (0 : Int) → ∀ (i_5 : Int), (0 : Int) ≤ i_5 → i_5 ≤ (↑(headsV vs).fst.length : Int) → ¬i_5 < (↑(headsV vs).fst.length : Int) → ∀ (i_18 : Int), (0 : Int) ≤ i_18 → i_18 ≤ (↑vs.length : Int) → i_18 < (↑vs.length : Int) → ∀ (found_23 : Bool) (i_24 : Int), (0 : Int) ≤ i_24 → i_24 ≤ (↑(headsV vs).fst.length : Int) → (found_23 = true ↔ covered (headsV vs).fst vs[i_18.toNat]! i_24) → ¬i_24 < (↑(headsV vs).fst.length : Int) → ¬¬found_23 = true → inv30i' vs (i_18 + (1 : Int)))
    (g18 : ¬¬(↑(headsV [[(1 : Int)], [(2 : Int)], [(0 : Int), (1 : Int)], [(2 : Int)], []]).fst.length : Int) = (2 : Int) → ¬(256 : Int) < (↑vs.length : Int) → ¬¬(headsV vs).snd = (0 : Int) → ∀ (i_5 : Int), (0 : Int) ≤ i_5 → i_5 ≤ (↑(headsV vs).fst.length : Int) → ¬i_5 < (↑(headsV vs).fst.length : Int) → ∀ (i_18 : Int), (0 : Int) ≤ i_18 → i_18 ≤ (↑vs.length : Int) → ¬i_18 < (↑vs.length : Int) → AV.b (decide (short (mergeL (Vector.replicate (16 : Nat) (0 : Int)) (headsV vs).fst) = short (mergeL (Vector.replicate (16 : Nat) (0 : Int)) vs))) = AV.b true) :
    Con Try.prog (14 : FuncId) [AV.sl (List.map c22 vs)] (AV.b true) := by
  refine con_lens 0 (c22) (vs) (by kernel_rfl) Go.Proofs.Try.func14 (by kernel_rfl) fun hl_0 => ?_
  refine st_con tab_ok (by kernel_rfl) [.tmp 2] 97 Go.Proofs.Try.func14 (by kernel_rfl) (by kernel_rfl) ?_
  intro e0 cx
  refine st_seq (by kernel_rfl) ?_
  refine st_reg (A := True) (σ' := ⟨[(0, .sl (List.map c22 vs))], []⟩) cx [] [0] [] (by kernel_rfl) (by kernel_rfl) trivial ?_
  refine q_seq_normal ?_
  refine st_seq (by kernel_rfl) ?_
  refine st_reg (A := (Con Try.prog (48 : FuncId) [AV.sl (List.map c22 [[(1 : Int)], [(2 : Int)], [(0 : Int), (1 : Int)], [(2 : Int)], []])] (AV.tup [AV.sl (List.map c22 (headsV [[(1 : Int)], [(2 : Int)], [(0 : Int), (1 : Int)], [(2 : Int)], []]).fst), AV.i IntKind.i64 (headsV [[(1 : Int)], [(2 : Int)], [(0 : Int), (1 : Int)], [(2 : Int)], []]).snd]))) (σ' := ⟨[(0, .sl (List.map c22 vs)), (3, .sl (List.map c22 (headsV [[(1 : Int)], [(2 : Int)], [(0 : Int), (1 : Int)], [(2 : Int)], []]).fst)), (4, .i .i64 ((0 : Int)))], []⟩) cx [(6, { val := some (.tup [.sl (List.map c22 (headsV [[(1 : Int)], [(2 : Int)], [(0 : Int), (1 : Int)], [(2 : Int)], []]).fst), .i .i64 ((0 : Int))]) })] [0, 3, 4] [] (by kernel_rfl) (by kernel_rfl) (con48 ([[(1 : Int)], [(2 : Int)], [(0 : Int), (1 : Int)], [(2 : Int)], []]) (by (simp only [List.length_append, List.length_cons, List.length_nil]; omega))) ?_
  refine q_seq_normal ?_
  refine st_seq (by kernel_rfl) ?_
  refine st_seq (by kernel_rfl) ?_
  refine st_reg (A := (AV.i IntKind.i64 (↑(List.map c22 (headsV [[(1 : Int)], [(2 : Int)], [(0 : Int), (1 : Int)], [(2 : Int)], []]).fst).length : Int) = AV.i IntKind.i64 (↑(headsV [[(1 : Int)], [(2 : Int)], [(0 : Int), (1 : Int)], [(2 : Int)], []]).fst.length : Int)) ∧ (AV.b ((↑(headsV [[(1 : Int)], [(2 : Int)], [(0 : Int), (1 : Int)], [(2 : Int)], []]).fst.length : Int) != (2 : Int)) = AV.b (decide ¬(↑(headsV [[(1 : Int)], [(2 : Int)], [(0 : Int), (1 : Int)], [(2 : Int)], []]).fst.length : Int) = (2 : Int)))) (σ' := ⟨[(0, .sl (List.map c22 vs)), (28, .b (decide ¬(↑(headsV [[(1 : Int)], [(2 : Int)], [(0 : Int), (1 : Int)], [(2 : Int)], []]).fst.length : Int) = (2 : Int)))], []⟩) cx [(4, { tell := some (.i .i64 ((↑(headsV [[(1 : Int)], [(2 : Int)], [(0 : Int), (1 : Int)], [(2 : Int)], []]).fst.length : Int))) }), (5, { tell := some (.b (decide ¬(↑(headsV [[(1 : Int)], [(2 : Int)], [(0 : Int), (1 : Int)], [(2 : Int)], []]).fst.length : Int) = (2 : Int))) })] [0, 28] [] (by kernel_rfl) (by kernel_rfl) ⟨(told_len c22 (headsV [[(1 : Int)], [(2 : Int)], [(0 : Int), (1 : Int)], [(2 : Int)], []]).fst), (told_neq)⟩ ?_
  refine q_seq_normal ?_
  refine st_dec (¬(↑(headsV [[(1 : Int)], [(2 : Int)], [(0 : Int), (1 : Int)], [(2 : Int)], []]).fst.length : Int) = (2 : Int)) (by kernel_rfl) (by kernel_rfl) (fun h_0 => ?_) (fun h_0 => ?_)
  ·
    refine st_seq (by kernel_rfl) ?_
    refine st_reg (A := True) (σ' := ⟨[(2, .b (false))], []⟩) cx [] [2] [] (by kernel_rfl) (by kernel_rfl) trivial ?_
    refine q_seq_normal ?_
    refine st_ret (by kernel_rfl) ?_
    refine q_seq_ret ?_
    exact q_ret (r := .b (false)) (obl := []) (by kernel_rfl) trivial (AVle.eq (g0 h_0))
  ·
    refine st_skip (by kernel_rfl) ?_
    refine q_seq_normal ?_
    refine st_seq (by kernel_rfl) ?_
    refine st_reg (A := (Con Try.prog (48 : FuncId) [AV.sl (List.map c22 vs)] (AV.tup [AV.sl (List.map c22 (headsV vs).fst), AV.i IntKind.i64 (headsV vs).snd]))) (σ' := ⟨[(0, .sl (List.map c22 vs)), (3, .sl (List.map c22 (headsV vs).fst)), (4, .i .i64 ((headsV vs).snd))], []⟩) cx [(1, { val := some (.tup [.sl (List.map c22 (headsV vs).fst), .i .i64 ((headsV vs).snd)]) })] [0, 3, 4] [] (by kernel_rfl) (by kernel_rfl) (con48 (vs) (by (with_reducible assumption))) ?_
    refine q_seq_normal ?_
    refine st_seq (by kernel_rfl) ?_
    refine st_seq (by kernel_rfl) ?_
    refine st_reg (A := (AV.i IntKind.i64 (↑(List.map c22 vs).length : Int) = AV.i IntKind.i64 (↑vs.length : Int)) ∧ (AV.b (decide ((↑vs.length : Int) > (256 : Int))) = AV.b (decide ((256 : Int) < (↑vs.length : Int))))) (σ' := ⟨[(0, .sl (List.map c22 vs)), (3, .sl (List.map c22 (headsV vs).fst)), (4, .i .i64 ((headsV vs).snd)), (36, .b (decide ((256 : Int) < (↑vs.length : Int))))], []⟩) cx [(1, { tell := some (.i .i64 ((↑vs.length : Int))) }), (2, { tell := some (.b (decide ((256 : Int) < (↑vs.length : Int)))) })] [0, 3, 4, 36] [] (by kernel_rfl) (by kernel_rfl) ⟨(told_len c22 vs), (by kernel_rfl)⟩ ?_
    refine q_seq_normal ?_
    refine st_dec ((256 : Int) < (↑vs.length : Int)) (by kernel_rfl) (by kernel_rfl) (fun h_1 => ?_) (fun h_1 => ?_)
    ·
      refine st_seq (by kernel_rfl) ?_
      refine st_join (σ' := ⟨[(2, .b (decide ((headsV vs).snd = (2 : Int) ∧ (↑(headsV vs).fst.length : Int) = (0 : Int))))], []⟩) ?_ ?_
      ·
        refine st_split ((headsV vs).snd = (2 : Int)) (fun h_3 => ?_) (fun h_3 => ?_)
        ·
          refine st_reg (A := (AV.b ((headsV vs).snd == (2 : Int)) = AV.b true) ∧ (AV.i IntKind.i64 (↑(List.map c22 (headsV vs).fst).length : Int) = AV.i IntKind.i64 (↑(headsV vs).fst.length : Int)) ∧ (AV.b ((↑(headsV vs).fst.length : Int) == (0 : Int)) = AV.b (decide ((↑(headsV vs).fst.length : Int) = (0 : Int)))) ∧ (AV.b (decide ((↑(headsV vs).fst.length : Int) = (0 : Int))) = AV.b (decide ((headsV vs).snd = (2 : Int) ∧ (↑(headsV vs).fst.length : Int) = (0 : Int))))) (σ' := ⟨[(2, .b (decide ((headsV vs).snd = (2 : Int) ∧ (↑(headsV vs).fst.length : Int) = (0 : Int))))], []⟩) cx [(1, { tell := some (.b (true)) }), (4, { tell := some (.i .i64 ((↑(headsV vs).fst.length : Int))) }), (5, { tell := some (.b (decide ((↑(headsV vs).fst.length : Int) = (0 : Int)))) }), (7, { tell := some (.b (decide ((headsV vs).snd = (2 : Int) ∧ (↑(headsV vs).fst.length : Int) = (0 : Int)))) })] [2] [] (by kernel_rfl) (by kernel_rfl) ⟨(told_true h_3), (told_len c22 (headsV vs).fst), (by kernel_rfl), (by simp only [eq_true h_3, told_simp1, told_simp2, and_true, true_and, and_false, false_and, or_true, true_or, or_false, false_or, not_true_eq_false, not_false_eq_true, decide_true, decide_false, Bool.decide_eq_true])⟩ ?_
          exact ⟨rfl, rfl⟩
        ·
          refine st_reg (A := (AV.b ((headsV vs).snd == (2 : Int)) = AV.b false) ∧ (AV.b false = AV.b (decide ((headsV vs).snd = (2 : Int) ∧ (↑(headsV vs).fst.length : Int) = (0 : Int))))) (σ' := ⟨[(2, .b (decide ((headsV vs).snd = (2 : Int) ∧ (↑(headsV vs).fst.length : Int) = (0 : Int))))], []⟩) cx [(1, { tell := some (.b (false)) }), (7, { tell := some (.b (decide ((headsV vs).snd = (2 : Int) ∧ (↑(headsV vs).fst.length : Int) = (0 : Int)))) })] [2] [] (by kernel_rfl) (by kernel_rfl) ⟨(told_false h_3), (by simp only [eq_false h_3, told_simp1, told_simp2, and_true, true_and, and_false, false_and, or_true, true_or, or_false, false_or, not_true_eq_false, not_false_eq_true, decide_true, decide_false, Bool.decide_eq_true])⟩ ?_
          exact ⟨rfl, rfl⟩
      ·
        refine q_seq_normal ?_
        refine st_ret (by kernel_rfl) ?_
        refine q_seq_ret ?_
        exact q_ret (r := .b (decide ((headsV vs).snd = (2 : Int) ∧ (↑(headsV vs).fst.length : Int) = (0 : Int)))) (obl := []) (by kernel_rfl) trivial (AVle.eq (g1 h_0 h_1))
    ·
      refine st_skip (by kernel_rfl) ?_
      refine q_seq_normal ?_
      refine st_seq (by kernel_rfl) ?_
      refine st_seq (by kernel_rfl) ?_
      refine st_reg (A := (AV.b ((headsV vs).snd != (0 : Int)) = AV.b (decide ¬(headsV vs).snd = (0 : Int)))) (σ' := ⟨[(0, .sl (List.map c22 vs)), (3, .sl (List.map c22 (headsV vs).fst)), (45, .b (decide ¬(headsV vs).snd = (0 : Int)))], []⟩) cx [(1, { tell := some (.b (decide ¬(headsV vs).snd = (0 : Int))) })] [0, 3, 45] [] (by kernel_rfl) (by kernel_rfl) (told_neq) ?_
      refine q_seq_normal ?_
      refine st_dec (¬(headsV vs).snd = (0 : Int)) (by kernel_rfl) (by kernel_rfl) (fun h_4 => ?_) (fun h_4 => ?_)
      ·
        refine st_seq (by kernel_rfl) ?_
        refine st_reg (A := True) (σ' := ⟨[(2, .b (false))], []⟩) cx [] [2] [] (by kernel_rfl) (by kernel_rfl) trivial ?_
        refine q_seq_normal ?_
        refine st_ret (by kernel_rfl) ?_
        refine q_seq_ret ?_
        exact q_ret (r := .b (false)) (obl := []) (by kernel_rfl) trivial (AVle.eq (g2 h_0 h_1 h_4))
      ·
        refine st_skip (by kernel_rfl) ?_
        refine q_seq_normal ?_
        refine st_seq (by kernel_rfl) ?_
        refine st_seq (by kernel_rfl) ?_
        refine st_reg (A := True) (σ' := ⟨[(0, .sl (List.map c22 vs)), (3, .sl (List.map c22 (headsV vs).fst)), (5, .i .i64 ((0 : Int)))], []⟩) cx [] [0, 3, 5] [] (by kernel_rfl) (by kernel_rfl) trivial ?_
        refine q_seq_normal ?_
        refine st_block 0 (by kernel_rfl) ?_
        refine st_loop (X := Int) (fun x => ⟨[(0, .sl (List.map c22 vs)), (3, .sl (List.map c22 (headsV vs).fst)), (5, .i .i64 (x))], []⟩) (fun x ↦ dec30i' (headsV vs).fst x) (fun x ↦ inv30i' (headsV vs).fst x) [0, 3, 5] [] ((0 : Int)) (by kernel_rfl) (by kernel_rfl) (g3 h_0 h_1 h_4) ?_
        intro i_5 h_6
        obtain ⟨h_7, h_8⟩ : (0 : Int) ≤ i_5 ∧ i_5 ≤ (↑(headsV vs).fst.length : Int) := h_6
        refine st_seq (by kernel_rfl) ?_
        refine st_seq (by kernel_rfl) ?_
        refine st_reg (A := (AV.i IntKind.i64 (↑(List.map c22 (headsV vs).fst).length : Int) = AV.i IntKind.i64 (↑(headsV vs).fst.length : Int)) ∧ (AV.b (decide (i_5 < (↑(headsV vs).fst.length : Int))) = AV.b (decide (i_5 < (↑(headsV vs).fst.length : Int))))) (σ' := ⟨[(0, .sl (List.map c22 vs)), (3, .sl (List.map c22 (headsV vs).fst)), (5, .i .i64 (i_5)), (49, .b (decide (i_5 < (↑(headsV vs).fst.length : Int))))], []⟩) cx [(2, { tell := some (.i .i64 ((↑(headsV vs).fst.length : Int))) }), (3, { tell := some (.b (decide (i_5 < (↑(headsV vs).fst.length : Int)))) })] [0, 3, 5, 49] [] (by kernel_rfl) (by kernel_rfl) ⟨(told_len c22 (headsV vs).fst), (by kernel_rfl)⟩ ?_
        refine q_seq_normal ?_
        refine st_dec (i_5 < (↑(headsV vs).fst.length : Int)) (by kernel_rfl) (by kernel_rfl) (fun h_9 => ?_) (fun h_9 => ?_)
        ·
          refine st_skip (by kernel_rfl) ?_
          refine q_seq_normal ?_
          refine st_seq (by kernel_rfl) ?_
          refine st_block 1 (by kernel_rfl) ?_
          refine st_seq (by kernel_rfl) ?_
          refine st_reg (A := True) (σ' := ⟨[(0, .sl (List.map c22 vs)), (3, .sl (List.map c22 (headsV vs).fst)), (5, .i .i64 (i_5)), (6, .i .i64 ((0 : Int)))], []⟩) cx [] [0, 3, 5, 6] [] (by kernel_rfl) (by kernel_rfl) trivial ?_
          refine q_seq_normal ?_
          refine st_block 2 (by kernel_rfl) ?_
          refine st_loop (X := Int) (fun x => ⟨[(0, .sl (List.map c22 vs)), (3, .sl (List.map c22 (headsV vs).fst)), (5, .i .i64 (i_5)), (6, .i .i64 (x))], []⟩) (fun x ↦ dec30i' (headsV vs).fst x) (fun x ↦ inv30i' (headsV vs).fst x) [0, 3, 5, 6] [] ((0 : Int)) (by kernel_rfl) (by kernel_rfl) (g4 h_0 h_1 h_4 i_5 h_7 h_8 h_9) ?_
          intro i_10 h_11
          obtain ⟨h_12, h_13⟩ : (0 : Int) ≤ i_10 ∧ i_10 ≤ (↑(headsV vs).fst.length : Int) := h_11
          refine st_seq (by kernel_rfl) ?_
          refine st_seq (by kernel_rfl) ?_
          refine st_reg (A := (AV.i IntKind.i64 (↑(List.map c22 (headsV vs).fst).length : Int) = AV.i IntKind.i64 (↑(headsV vs).fst.length : Int)) ∧ (AV.b (decide (i_10 < (↑(headsV vs).fst.length : Int))) = AV.b (decide (i_10 < (↑(headsV vs).fst.length : Int))))) (σ' := ⟨[(0, .sl (List.map c22 vs)), (3, .sl (List.map c22 (headsV vs).fst)), (5, .i .i64 (i_5)), (6, .i .i64 (i_10)), (55, .b (decide (i_10 < (↑(headsV vs).fst.length : Int))))], []⟩) cx [(2, { tell := some (.i .i64 ((↑(headsV vs).fst.length : Int))) }), (3, { tell := some (.b (decide (i_10 < (↑(headsV vs).fst.length : Int)))) })] [0, 3, 5, 6, 55] [] (by kernel_rfl) (by kernel_rfl) ⟨(told_len c22 (headsV vs).fst), (by kernel_rfl)⟩ ?_
          refine q_seq_normal ?_
          refine st_dec (i_10 < (↑(headsV vs).fst.length : Int)) (by kernel_rfl) (by kernel_rfl) (fun h_14 => ?_) (fun h_14 => ?_)
          ·
            refine st_skip (by kernel_rfl) ?_
            refine q_seq_normal ?_
            refine st_seq (by kernel_rfl) ?_
            refine st_block 3 (by kernel_rfl) ?_
            refine st_seq (by kernel_rfl) ?_
            refine st_join (σ' := ⟨[(0, .sl (List.map c22 vs)), (3, .sl (List.map c22 (headsV vs).fst)), (5, .i .i64 (i_5)), (6, .i .i64 (i_10)), (72, .b (decide (¬i_5 = i_10 ∧ ¬ordV (of (headsV vs).fst[i_5.toNat]!) (of (headsV vs).fst[i_10.toNat]!) = (3 : Int))))], []⟩) ?_ ?_
            ·
              refine st_split (¬i_5 = i_10) (fun h_16 => ?_) (fun h_16 => ?_)
              ·
                refine st_any (A := (AV.b (i_5 != i_10) = AV.b true) ∧ ((0 : Int) ≤ i_5) ∧ ((List.map c22 (headsV vs).fst)[i_5.toNat]? = some (c22 (headsV vs).fst[i_5.toNat]!)) ∧ ((c22 (headsV vs).fst[i_5.toNat]!).length = (1 : Nat)) ∧ ((0 : Int) ≤ i_10) ∧ ((List.map c22 (headsV vs).fst)[i_10.toNat]? = some (c22 (headsV vs).fst[i_10.toNat]!)) ∧ ((c22 (headsV vs).fst[i_10.toNat]!).length = (1 : Nat)) ∧ (Con Try.prog (37 : FuncId) [AV.sl (List.map c3 (headsV vs).fst[i_5.toNat]!), AV.sl (List.map c3 (headsV vs).fst[i_10.toNat]!)] (AV.i IntKind.i64 (ordV (of (headsV vs).fst[i_5.toNat]!) (of (headsV vs).fst[i_10.toNat]!)))) ∧ (AV.b (ordV (of (headsV vs).fst[i_5.toNat]!) (of (headsV vs).fst[i_10.toNat]!) != (3 : Int)) = AV.b (decide ¬ordV (of (headsV vs).fst[i_5.toNat]!) (of (headsV vs).fst[i_10.toNat]!) = (3 : Int))) ∧ (AV.b (decide ¬ordV (of (headsV vs).fst[i_5.toNat]!) (of (headsV vs).fst[i_10.toNat]!) = (3 : Int)) = AV.b (decide (¬i_5 = i_10 ∧ ¬ordV (of (headsV vs).fst[i_5.toNat]!) (of (headsV vs).fst[i_10.toNat]!) = (3 : Int))))) (σ' := ⟨[(0, .sl (List.map c22 vs)), (3, .sl (List.map c22 (headsV vs).fst)), (5, .i .i64 (i_5)), (6, .i .i64 (i_10)), (72, .b (decide (¬i_5 = i_10 ∧ ¬ordV (of (headsV vs).fst[i_5.toNat]!) (of (headsV vs).fst[i_10.toNat]!) = (3 : Int))))], []⟩) cx [(2, { tell := some (.b (true)) }), (6, { row := (c22 (headsV vs).fst[i_5.toNat]!) }), (10, { row := (c22 (headsV vs).fst[i_10.toNat]!) }), (12, { val := some (.i .i64 (ordV (of (headsV vs).fst[i_5.toNat]!) (of (headsV vs).fst[i_10.toNat]!))) }), (13, { tell := some (.b (decide ¬ordV (of (headsV vs).fst[i_5.toNat]!) (of (headsV vs).fst[i_10.toNat]!) = (3 : Int))) }), (14, { tell := some (.b (decide (¬i_5 = i_10 ∧ ¬ordV (of (headsV vs).fst[i_5.toNat]!) (of (headsV vs).fst[i_10.toNat]!) = (3 : Int)))) })] [0, 3, 5, 6, 72] [] (by kernel_rfl) (by kernel_rfl) ⟨(told_neqt h_16), (by (with_reducible assumption)), (by (with_reducible refine get_map ?_; omega)), (by kernel_rfl), (by (with_reducible assumption)), (by (with_reducible refine get_map ?_; omega)), (by kernel_rfl), (con37 ((headsV vs).fst[i_5.toNat]!) ((headsV vs).fst[i_10.toNat]!)), (told_neq), (by simp only [eq_false h_16, told_simp1, told_simp2, and_true, true_and, and_false, false_and, or_true, true_or, or_false, false_or, not_true_eq_false, not_false_eq_true, decide_true, decide_false, Bool.decide_eq_true])⟩ ?_
                exact ⟨rfl, rfl⟩
              ·
                refine st_any (A := (AV.b (i_5 != i_10) = AV.b (decide ¬i_5 = i_10)) ∧ (AV.b (decide ¬i_5 = i_10) = AV.b false) ∧ (AV.b false = AV.b (decide (¬i_5 = i_10 ∧ ¬ordV (of (headsV vs).fst[i_5.toNat]!) (of (headsV vs).fst[i_10.toNat]!) = (3 : Int))))) (σ' := ⟨[(0, .sl (List.map c22 vs)), (3, .sl (List.map c22 (headsV vs).fst)), (5, .i .i64 (i_5)), (6, .i .i64 (i_10)), (72, .b (decide (¬i_5 = i_10 ∧ ¬ordV (of (headsV vs).fst[i_5.toNat]!) (of (headsV vs).fst[i_10.toNat]!) = (3 : Int))))], []⟩) cx [(2, { tell := some (.b (decide ¬i_5 = i_10)) }), (3, { tell := some (.b (false)) }), (14, { tell := some (.b (decide (¬i_5 = i_10 ∧ ¬ordV (of (headsV vs).fst[i_5.toNat]!) (of (headsV vs).fst[i_10.toNat]!) = (3 : Int)))) })] [0, 3, 5, 6, 72] [] (by kernel_rfl) (by kernel_rfl) ⟨(told_neq), (told_false h_16), (by simp only [eq_false h_16, told_simp1, told_simp2, and_true, true_and, and_false, false_and, or_true, true_or, or_false, false_or, not_true_eq_false, not_false_eq_true, decide_true, decide_false, Bool.decide_eq_true])⟩ ?_
                exact ⟨rfl, rfl⟩
            ·
              refine q_seq_normal ?_
              refine st_dec (¬i_5 = i_10 ∧ ¬ordV (of (headsV vs).fst[i_5.toNat]!) (of (headsV vs).fst[i_10.toNat]!) = (3 : Int)) (by kernel_rfl) (by kernel_rfl) (fun h_17 => ?_) (fun h_17 => ?_)
              ·
                refine st_seq (by kernel_rfl) ?_
                refine st_reg (A := True) (σ' := ⟨[(2, .b (false))], []⟩) cx [] [2] [] (by kernel_rfl) (by kernel_rfl) trivial ?_
                refine q_seq_normal ?_
                refine st_ret (by kernel_rfl) ?_
                refine q_blk_ret ?_
                refine q_seq_ret ?_
                refine q_seq_ret ?_
                refine q_blk_ret ?_
                refine q_blk_ret ?_
                refine q_seq_ret ?_
                refine q_seq_ret ?_
                refine q_blk_ret ?_
                refine q_seq_ret ?_
                exact q_ret (r := .b (false)) (obl := []) (by kernel_rfl) trivial (AVle.eq (g5 h_0 h_1 h_4 i_5 h_7 h_8 h_9 i_10 h_12 h_13 h_14 h_17))
              ·
                refine st_skip (by kernel_rfl) ?_
                refine q_blk_normal ?_
                refine q_seq_normal ?_
                refine st_reg (A := (AV.i IntKind.i64 (IntKind.i64.wrap (i_10 + (1 : Int))) = AV.i IntKind.i64 (i_10 + (1 : Int)))) (σ' := ⟨[(0, .sl (List.map c22 vs)), (3, .sl (List.map c22 (headsV vs).fst)), (5, .i .i64 (i_5)), (6, .i .i64 (i_10 + (1 : Int)))], []⟩) cx [(1, { tell := some (.i .i64 (i_10 + (1 : Int))) })] [0, 3, 5, 6] [] (by kernel_rfl) (by kernel_rfl) (told_i64 (by omega) (g6 h_0 h_1 h_4 i_5 h_7 h_8 h_9 i_10 h_12 h_13 h_14 h_17)) ?_
                refine q_seq_normal ?_
                exact loop_next (i_10 + (1 : Int)) (by kernel_rfl) (show ((↑(headsV vs).fst.length : Int) - (i_10 + (1 : Int))).toNat < ((↑(headsV vs).fst.length : Int) - i_10).toNat from (by omega)) (g7 h_0 h_1 h_4 i_5 h_7 h_8 h_9 i_10 h_12 h_13 h_14 h_17)
          ·
            refine st_exit 2 (by kernel_rfl) ?_
            refine q_seq_exit ?_
            refine q_seq_exit ?_
            refine q_blk_hit ?_
            refine q_blk_normal ?_
            refine q_seq_normal ?_
            refine st_reg (A := (AV.i IntKind.i64 (IntKind.i64.wrap (i_5 + (1 : Int))) = AV.i IntKind.i64 (i_5 + (1 : Int)))) (σ' := ⟨[(0, .sl (List.map c22 vs)), (3, .sl (List.map c22 (headsV vs).fst)), (5, .i .i64 (i_5 + (1 : Int)))], []⟩) cx [(1, { tell := some (.i .i64 (i_5 + (1 : Int))) })] [0, 3, 5] [] (by kernel_rfl) (by kernel_rfl) (told_i64 (by omega) (g8 h_0 h_1 h_4 i_5 h_7 h_8 h_9 i_10 h_12 h_13 h_14)) ?_
            refine q_seq_normal ?_
            exact loop_next (i_5 + (1 : Int)) (by kernel_rfl) (show ((↑(headsV vs).fst.length : Int) - (i_5 + (1 : Int))).toNat < ((↑(headsV vs).fst.length : Int) - i_5).toNat from (by omega)) (g9 h_0 h_1 h_4 i_5 h_7 h_8 h_9 i_10 h_12 h_13 h_14)
        ·
          refine st_exit 0 (by kernel_rfl) ?_
          refine q_seq_exit ?_
          refine q_seq_exit ?_
          refine q_blk_hit ?_
          refine q_seq_normal ?_
          refine st_seq (by kernel_rfl) ?_
          refine st_seq (by kernel_rfl) ?_
          refine st_reg (A := (AV.i IntKind.i64 (↑(List.map c22 vs).length : Int) = AV.i IntKind.i64 (↑vs.length : Int))) (σ' := ⟨[(0, .sl (List.map c22 vs)), (3, .sl (List.map c22 (headsV vs).fst)), (73, .sl (List.map c22 vs)), (74, .i .i64 ((↑vs.length : Int))), (75, .i .i64 ((0 : Int)))], []⟩) cx [(1, { tell := some (.i .i64 ((↑vs.length : Int))) })] [0, 3, 73, 74, 75] [] (by kernel_rfl) (by kernel_rfl) (told_len c22 vs) ?_
          refine q_seq_normal ?_
          refine st_block 4 (by kernel_rfl) ?_
          refine st_loop (X := Int) (fun x => ⟨[(0, .sl (List.map c22 vs)), (3, .sl (List.map c22 (headsV vs).fst)), (73, .sl (List.map c22 vs)), (74, .i .i64 ((↑vs.length : Int))), (75, .i .i64 (x))], []⟩) (fun x ↦ dec30i' vs x) (fun x ↦ inv30i' vs x) [0, 3, 73, 74, 75] [] ((0 : Int)) (by kernel_rfl) (by kernel_rfl) (g10 h_0 h_1 h_4 i_5 h_7 h_8 h_9) ?_
          intro i_18 h_19
          obtain ⟨h_20, h_21⟩ : (0 : Int) ≤ i_18 ∧ i_18 ≤ (↑vs.length : Int) := h_19
          refine st_seq (by kernel_rfl) ?_
          refine st_reg (A := (AV.b (decide (i_18 < (↑vs.length : Int))) = AV.b (decide (i_18 < (↑vs.length : Int))))) (σ' := ⟨[(0, .sl (List.map c22 vs)), (3, .sl (List.map c22 (headsV vs).fst)), (73, .sl (List.map c22 vs)), (74, .i .i64 ((↑vs.length : Int))), (75, .i .i64 (i_18)), (76, .b (decide (i_18 < (↑vs.length : Int))))], []⟩) cx [(0, { tell := some (.b (decide (i_18 < (↑vs.length : Int)))) })] [0, 3, 73, 74, 75, 76] [] (by kernel_rfl) (by kernel_rfl) (by kernel_rfl) ?_
          refine q_seq_normal ?_
          refine st_seq (by kernel_rfl) ?_
          refine st_dec (i_18 < (↑vs.length : Int)) (by kernel_rfl) (by kernel_rfl) (fun h_22 => ?_) (fun h_22 => ?_)
          ·
            refine st_skip (by kernel_rfl) ?_
            refine q_seq_normal ?_
            refine st_seq (by kernel_rfl) ?_
            refine st_block 5 (by kernel_rfl) ?_
            refine st_seq (by kernel_rfl) ?_
            refine st_reg (A := ((0 : Int) ≤ i_18) ∧ ((List.map c22 vs)[i_18.toNat]? = some (c22 vs[i_18.toNat]!)) ∧ ((c22 vs[i_18.toNat]!).length = (1 : Nat))) (σ' := ⟨[(0, .sl (List.map c22 vs)), (3, .sl (List.map c22 (headsV vs).fst)), (73, .sl (List.map c22 vs)), (74, .i .i64 ((↑vs.length : Int))), (75, .i .i64 (i_18)), (8, .sl (List.map c3 vs[i_18.toNat]!))], []⟩) cx [(0, { row := (c22 vs[i_18.toNat]!) })] [0, 3, 73, 74, 75, 8] [] (by kernel_rfl) (by kernel_rfl) ⟨(by (with_reducible assumption)), (by (with_reducible refine get_map ?_; omega)), (by kernel_rfl)⟩ ?_
            refine q_seq_normal ?_
            refine st_seq (by kernel_rfl) ?_
            refine st_reg (A := True) (σ' := ⟨[(0, .sl (List.map c22 vs)), (3, .sl (List.map c22 (headsV vs).fst)), (73, .sl (List.map c22 vs)), (74, .i .i64 ((↑vs.length : Int))), (75, .i .i64 (i_18)), (8, .sl (List.map c3 vs[i_18.toNat]!)), (9, .b (false))], []⟩) cx [] [0, 3, 73, 74, 75, 8, 9] [] (by kernel_rfl) (by kernel_rfl) trivial ?_
            refine q_seq_normal ?_
            refine st_seq (by kernel_rfl) ?_
            refine st_seq (by kernel_rfl) ?_
            refine st_reg (A := (AV.i IntKind.i64 (↑(List.map c22 (headsV vs).fst).length : Int) = AV.i IntKind.i64 (↑(headsV vs).fst.length : Int))) (σ' := ⟨[(0, .sl (List.map c22 vs)), (3, .sl (List.map c22 (headsV vs).fst)), (73, .sl (List.map c22 vs)), (74, .i .i64 ((↑vs.length : Int))), (75, .i .i64 (i_18)), (8, .sl (List.map c3 vs[i_18.toNat]!)), (9, .b (false)), (79, .sl (List.map c22 (headsV vs).fst)), (80, .i .i64 ((↑(headsV vs).fst.length : Int))), (81, .i .i64 ((0 : Int)))], []⟩) cx [(1, { tell := some (.i .i64 ((↑(headsV vs).fst.length : Int))) })] [0, 3, 73, 74, 75, 8, 9, 79, 80, 81] [] (by kernel_rfl) (by kernel_rfl) (told_len c22 (headsV vs).fst) ?_
            refine q_seq_normal ?_
            refine st_block 6 (by kernel_rfl) ?_
            refine st_loop (X := Bool × Int) (fun x => ⟨[(0, .sl (List.map c22 vs)), (3, .sl (List.map c22 (headsV vs).fst)), (73, .sl (List.map c22 vs)), (74, .i .i64 ((↑vs.length : Int))), (75, .i .i64 (i_18)), (8, .sl (List.map c3 vs[i_18.toNat]!)), (9, .b (x.fst)), (79, .sl (List.map c22 (headsV vs).fst)), (80, .i .i64 ((↑(headsV vs).fst.length : Int))), (81, .i .i64 (x.snd))], []⟩) (fun x ↦ dec10d (headsV vs).fst x.fst x.snd) (fun x ↦ inv10d (headsV vs).fst vs[i_18.toNat]! x.fst x.snd) [0, 3, 73, 74, 75, 8, 9, 79, 80, 81] [] ((false, (0 : Int))) (by kernel_rfl) (by kernel_rfl) (g11 h_0 h_1 h_4 i_5 h_7 h_8 h_9 i_18 h_20 h_21 h_22) ?_
            rintro ⟨found_23, i_24⟩ h_25
            obtain ⟨h_26, h_27, h_28⟩ : (0 : Int) ≤ i_24 ∧ i_24 ≤ (↑(headsV vs).fst.length : Int) ∧ (found_23 = true ↔ covered (headsV vs).fst vs[i_18.toNat]! i_24) := h_25
            refine st_seq (by kernel_rfl) ?_
            refine st_reg (A := (AV.b (decide (i_24 < (↑(headsV vs).fst.length : Int))) = AV.b (decide (i_24 < (↑(headsV vs).fst.length : Int))))) (σ' := ⟨[(0, .sl (List.map c22 vs)), (3, .sl (List.map c22 (headsV vs).fst)), (73, .sl (List.map c22 vs)), (74, .i .i64 ((↑vs.length : Int))), (75, .i .i64 (i_18)), (8, .sl (List.map c3 vs[i_18.toNat]!)), (9, .b (found_23)), (79, .sl (List.map c22 (headsV vs).fst)), (80, .i .i64 ((↑(headsV vs).fst.length : Int))), (81, .i .i64 (i_24)), (82, .b (decide (i_24 < (↑(headsV vs).fst.length : Int))))], []⟩) cx [(0, { tell := some (.b (decide (i_24 < (↑(headsV vs).fst.length : Int)))) })] [0, 3, 73, 74, 75, 8, 9, 79, 80, 81, 82] [] (by kernel_rfl) (by kernel_rfl) (by kernel_rfl) ?_
            refine q_seq_normal ?_
            refine st_seq (by kernel_rfl) ?_
            refine st_dec (i_24 < (↑(headsV vs).fst.length : Int)) (by kernel_rfl) (by kernel_rfl) (fun h_29 => ?_) (fun h_29 => ?_)
            ·
              refine st_skip (by kernel_rfl) ?_
              refine q_seq_normal ?_
              refine st_seq (by kernel_rfl) ?_
              refine st_block 7 (by kernel_rfl) ?_
              refine st_seq (by kernel_rfl) ?_
              refine st_reg (A := ((0 : Int) ≤ i_24) ∧ ((List.map c22 (headsV vs).fst)[i_24.toNat]? = some (c22 (headsV vs).fst[i_24.toNat]!)) ∧ ((c22 (headsV vs).fst[i_24.toNat]!).length = (1 : Nat))) (σ' := ⟨[(0, .sl (List.map c22 vs)), (3, .sl (List.map c22 (headsV vs).fst)), (73, .sl (List.map c22 vs)), (74, .i .i64 ((↑vs.length : Int))), (75, .i .i64 (i_18)), (8, .sl (List.map c3 vs[i_18.toNat]!)), (9, .b (found_23)), (79, .sl (List.map c22 (headsV vs).fst)), (80, .i .i64 ((↑(headsV vs).fst.length : Int))), (81, .i .i64 (i_24)), (11, .sl (List.map c3 (headsV vs).fst[i_24.toNat]!))], []⟩) cx [(0, { row := (c22 (headsV vs).fst[i_24.toNat]!) })] [0, 3, 73, 74, 75, 8, 9, 79, 80, 81, 11] [] (by kernel_rfl) (by kernel_rfl) ⟨(by (with_reducible assumption)), (by (with_reducible refine get_map ?_; omega)), (by kernel_rfl)⟩ ?_
              refine q_seq_normal ?_
              refine st_seq (by kernel_rfl) ?_
              refine st_reg (A := (Con Try.prog (44 : FuncId) [AV.sl (List.map c3 vs[i_18.toNat]!), AV.sl (List.map c3 (headsV vs).fst[i_24.toNat]!)] (AV.b (decide (leV (of vs[i_18.toNat]!) (of (headsV vs).fst[i_24.toNat]!)))))) (σ' := ⟨[(0, .sl (List.map c22 vs)), (3, .sl (List.map c22 (headsV vs).fst)), (73, .sl (List.map c22 vs)), (74, .i .i64 ((↑vs.length : Int))), (75, .i .i64 (i_18)), (8, .sl (List.map c3 vs[i_18.toNat]!)), (9, .b (found_23)), (79, .sl (List.map c22 (headsV vs).fst)), (80, .i .i64 ((↑(headsV vs).fst.length : Int))), (81, .i .i64 (i_24)), (87, .b (decide (leV (of vs[i_18.toNat]!) (of (headsV vs).fst[i_24.toNat]!))))], []⟩) cx [(2, { val := some (.b (decide (leV (of vs[i_18.toNat]!) (of (headsV vs).fst[i_24.toNat]!)))) })] [0, 3, 73, 74, 75, 8, 9, 79, 80, 81, 87] [] (by kernel_rfl) (by kernel_rfl) (con44 (vs[i_18.toNat]!) ((headsV vs).fst[i_24.toNat]!)) ?_
              refine q_seq_normal ?_
              refine st_dec (leV (of vs[i_18.toNat]!) (of (headsV vs).fst[i_24.toNat]!)) (by kernel_rfl) (by kernel_rfl) (fun h_30 => ?_) (fun h_30 => ?_)
              ·
                refine st_reg (A := True) (σ' := ⟨[(0, .sl (List.map c22 vs)), (3, .sl (List.map c22 (headsV vs).fst)), (73, .sl (List.map c22 vs)), (74, .i .i64 ((↑vs.length : Int))), (75, .i .i64 (i_18)), (8, .sl (List.map c3 vs[i_18.toNat]!)), (9, .b (true)), (79, .sl (List.map c22 (headsV vs).fst)), (80, .i .i64 ((↑(headsV vs).fst.length : Int))), (81, .i .i64 (i_24))], []⟩) cx [] [0, 3, 73, 74, 75, 8, 9, 79, 80, 81] [] (by kernel_rfl) (by kernel_rfl) trivial ?_
                refine q_blk_normal ?_
                refine q_seq_normal ?_
                refine st_reg (A := (AV.i IntKind.i64 (IntKind.i64.wrap (i_24 + (1 : Int))) = AV.i IntKind.i64 (i_24 + (1 : Int)))) (σ' := ⟨[(0, .sl (List.map c22 vs)), (3, .sl (List.map c22 (headsV vs).fst)), (73, .sl (List.map c22 vs)), (74, .i .i64 ((↑vs.length : Int))), (75, .i .i64 (i_18)), (8, .sl (List.map c3 vs[i_18.toNat]!)), (9, .b (true)), (79, .sl (List.map c22 (headsV vs).fst)), (80, .i .i64 ((↑(headsV vs).fst.length : Int))), (81, .i .i64 (i_24 + (1 : Int)))], []⟩) cx [(0, { tell := some (.i .i64 (i_24 + (1 : Int))) })] [0, 3, 73, 74, 75, 8, 9, 79, 80, 81] [] (by kernel_rfl) (by kernel_rfl) (told_i64 (by omega) (g12 h_0 h_1 h_4 i_5 h_7 h_8 h_9 i_18 h_20 h_21 h_22 found_23 i_24 h_26 h_27 h_28 h_29 h_30)) ?_
                refine q_seq_normal ?_
                exact loop_next ((true, i_24 + (1 : Int))) (by kernel_rfl) (show ((↑(headsV vs).fst.length : Int) - (i_24 + (1 : Int))).toNat < ((↑(headsV vs).fst.length : Int) - i_24).toNat from (by omega)) (g13 h_0 h_1 h_4 i_5 h_7 h_8 h_9 i_18 h_20 h_21 h_22 found_23 i_24 h_26 h_27 h_28 h_29 h_30)
              ·
                refine st_skip (by kernel_rfl) ?_
                refine q_blk_normal ?_
                refine q_seq_normal ?_
                refine st_reg (A := (AV.i IntKind.i64 (IntKind.i64.wrap (i_24 + (1 : Int))) = AV.i IntKind.i64 (i_24 + (1 : Int)))) (σ' := ⟨[(0, .sl (List.map c22 vs)), (3, .sl (List.map c22 (headsV vs).fst)), (73, .sl (List.map c22 vs)), (74, .i .i64 ((↑vs.length : Int))), (75, .i .i64 (i_18)), (8, .sl (List.map c3 vs[i_18.toNat]!)), (9, .b (found_23)), (79, .sl (List.map c22 (headsV vs).fst)), (80, .i .i64 ((↑(headsV vs).fst.length : Int))), (81, .i .i64 (i_24 + (1 : Int)))], []⟩) cx [(0, { tell := some (.i .i64 (i_24 + (1 : Int))) })] [0, 3, 73, 74, 75, 8, 9, 79, 80, 81] [] (by kernel_rfl) (by kernel_rfl) (told_i64 (by omega) (g14 h_0 h_1 h_4 i_5 h_7 h_8 h_9 i_18 h_20 h_21 h_22 found_23 i_24 h_26 h_27 h_28 h_29 h_30)) ?_
                refine q_seq_normal ?_
                exact loop_next ((found_23, i_24 + (1 : Int))) (by kernel_rfl) (show ((↑(headsV vs).fst.length : Int) - (i_24 + (1 : Int))).toNat < ((↑(headsV vs).fst.length : Int) - i_24).toNat from (by omega)) (g15 h_0 h_1 h_4 i_5 h_7 h_8 h_9 i_18 h_20 h_21 h_22 found_23 i_24 h_26 h_27 h_28 h_29 h_30)
            ·
              refine st_exit 6 (by kernel_rfl) ?_
              refine q_seq_exit ?_
              refine q_seq_exit ?_
              refine q_blk_hit ?_
              refine q_seq_normal ?_
              refine st_seq (by kernel_rfl) ?_
              refine st_reg (A := ((AV.b !found_23) = AV.b (decide ¬found_23 = true))) (σ' := ⟨[(0, .sl (List.map c22 vs)), (3, .sl (List.map c22 (headsV vs).fst)), (73, .sl (List.map c22 vs)), (74, .i .i64 ((↑vs.length : Int))), (75, .i .i64 (i_18)), (90, .b (decide ¬found_23 = true))], []⟩) cx [(1, { tell := some (.b (decide ¬found_23 = true)) })] [0, 3, 73, 74, 75, 90] [] (by kernel_rfl) (by kernel_rfl) (told_not) ?_
              refine q_seq_normal ?_
              refine st_dec (¬found_23 = true) (by kernel_rfl) (by kernel_rfl) (fun h_31 => ?_) (fun h_31 => ?_)
              ·
                refine st_seq (by kernel_rfl) ?_
                refine st_reg (A := True) (σ' := ⟨[(2, .b (false))], []⟩) cx [] [2] [] (by kernel_rfl) (by kernel_rfl) trivial ?_
                refine q_seq_normal ?_
                refine st_ret (by kernel_rfl) ?_
                refine q_blk_ret ?_
                refine q_seq_ret ?_
                refine q_seq_ret ?_
                refine q_blk_ret ?_
                refine q_seq_ret ?_
                exact q_ret (r := .b (false)) (obl := []) (by kernel_rfl) trivial (AVle.eq (g16 h_0 h_1 h_4 i_5 h_7 h_8 h_9 i_18 h_20 h_21 h_22 found_23 i_24 h_26 h_27 h_28 h_29 h_31))
              ·
                refine st_skip (by kernel_rfl) ?_
                refine q_blk_normal ?_
                refine q_seq_normal ?_
                refine st_reg (A := (AV.i IntKind.i64 (IntKind.i64.wrap (i_18 + (1 : Int))) = AV.i IntKind.i64 (i_18 + (1 : Int)))) (σ' := ⟨[(0, .sl (List.map c22 vs)), (3, .sl (List.map c22 (headsV vs).fst)), (73, .sl (List.map c22 vs)), (74, .i .i64 ((↑vs.length : Int))), (75, .i .i64 (i_18 + (1 : Int)))], []⟩) cx [(0, { tell := some (.i .i64 (i_18 + (1 : Int))) })] [0, 3, 73, 74, 75] [] (by kernel_rfl) (by kernel_rfl) (told_i64 (by omega) (by omega)) ?_
                refine q_seq_normal ?_
                exact loop_next (i_18 + (1 : Int)) (by kernel_rfl) (show ((↑vs.length : Int) - (i_18 + (1 : Int))).toNat < ((↑vs.length : Int) - i_18).toNat from (by omega)) (g17 h_0 h_1 h_4 i_5 h_7 h_8 h_9 i_18 h_20 h_21 h_22 found_23 i_24 h_26 h_27 h_28 h_29 h_31)
          ·
            refine st_exit 4 (by kernel_rfl) ?_
            refine q_seq_exit ?_
            refine q_seq_exit ?_
            refine q_blk_hit ?_
            refine q_seq_normal ?_
            refine st_seq (by kernel_rfl) ?_
            refine st_reg (A := (Con Try.prog (26 : FuncId) [AV.sl (List.map c22 (headsV vs).fst)] (AV.sl (List.map c3 (short (mergeL (Vector.replicate (16 : Nat) (0 : Int)) (headsV vs).fst))))) ∧ (Con Try.prog (26 : FuncId) [AV.sl (List.map c22 vs)] (AV.sl (List.map c3 (short (mergeL (Vector.replicate (16 : Nat) (0 : Int)) vs))))) ∧ (Con Try.prog (20 : FuncId) [AV.sl (List.map c3 (short (mergeL (Vector.replicate (16 : Nat) (0 : Int)) (headsV vs).fst))), AV.sl (List.map c3 (short (mergeL (Vector.replicate (16 : Nat) (0 : Int)) vs)))] (AV.b (decide (short (mergeL (Vector.replicate (16 : Nat) (0 : Int)) (headsV vs).fst) = short (mergeL (Vector.replicate (16 : Nat) (0 : Int)) vs)))))) (σ' := ⟨[(2, .b (decide (short (mergeL (Vector.replicate (16 : Nat) (0 : Int)) (headsV vs).fst) = short (mergeL (Vector.replicate (16 : Nat) (0 : Int)) vs))))], []⟩) cx [(1, { val := some (.sl (List.map c3 (short (mergeL (Vector.replicate (16 : Nat) (0 : Int)) (headsV vs).fst)))) }), (3, { val := some (.sl (List.map c3 (short (mergeL (Vector.replicate (16 : Nat) (0 : Int)) vs)))) }), (4, { val := some (.b (decide (short (mergeL (Vector.replicate (16 : Nat) (0 : Int)) (headsV vs).fst) = short (mergeL (Vector.replicate (16 : Nat) (0 : Int)) vs)))) })] [2] [] (by kernel_rfl) (by kernel_rfl) ⟨(con26 ((headsV vs).fst)), (con26 (vs)), (con20 (short (mergeL (Vector.replicate (16 : Nat) (0 : Int)) (headsV vs).fst)) (short (mergeL (Vector.replicate (16 : Nat) (0 : Int)) vs)))⟩ ?_
            refine q_seq_normal ?_
            refine st_ret (by kernel_rfl) ?_
            exact q_ret (r := .b (decide (short (mergeL (Vector.replicate (16 : Nat) (0 : Int)) (headsV vs).fst) = short (mergeL (Vector.replicate (16 : Nat) (0 : Int)) vs)))) (obl := []) (by kernel_rfl) trivial (AVle.eq (g18 h_0 h_1 h_4 i_5 h_7 h_8 h_9 i_18 h_20 h_21 h_22))
theorem con14 (vs : List (List Int)) (hs : sz38 vs) (hl : vs.length * 128 ≤ 140737488351232) : Con Try.prog 14 [.sl (vs.map c22)] (.b true) :=
  by
  have hb : ¬ (256 : Int) < vs.length → headsV vs = ((hds vs).map short, 0) := fun h => heads_small (by omega)
  have hlen : ∀ h : ¬ (256 : Int) < vs.length, ((headsV vs).1.length : Int) = (hds vs).length := fun h => by rw [hb h]; simp
  have hle : (hds vs).length ≤ vs.length := hdN_len _ _ _
  refine walk14 vs hs hl (fun h => absurd heads_lit h) (fun h h1 => ?_) (fun h h1 h2 => ?_) (fun h h1 h2 => ⟨by omega, by omega⟩) (fun h h1 h2 i h3 h4 h5 => ⟨by omega, by omega⟩)
    (fun h h1 h2 i h3 h4 h5 j k0 k1 k2 k3 => ?_) (fun h h1 h2 i h3 h4 h5 j k0 k1 k2 k3 => by have := hlen h1; omega) (fun h h1 h2 i h3 h4 h5 j k0 k1 k2 k3 => ⟨by omega, by omega⟩)
    (fun h h1 h2 i h3 h4 h5 j k0 k1 k2 => by have := hlen h1; omega) (fun h h1 h2 i h3 h4 h5 j k0 k1 k2 => ⟨by omega, by omega⟩) (fun h h1 h2 i h3 h4 h5 => ⟨by omega, by omega⟩)
    (fun h h1 h2 i h3 h4 h5 j k0 k1 k2 => ⟨by omega, by omega, ?_⟩) (fun h h1 h2 i h3 h4 h5 j k0 k1 k2 f q c0 c1 c2 c3 c4 => by have := hlen h1; omega)
    (fun h h1 h2 i h3 h4 h5 j k0 k1 k2 f q c0 c1 c2 c3 c4 => ⟨by omega, by omega, ?_⟩) (fun h h1 h2 i h3 h4 h5 j k0 k1 k2 f q c0 c1 c2 c3 c4 => by have := hlen h1; omega)
    (fun h h1 h2 i h3 h4 h5 j k0 k1 k2 f q c0 c1 c2 c3 c4 => ⟨by omega, by omega, cover_step c0 c2 c4⟩) (fun h h1 h2 i h3 h4 h5 j k0 k1 k2 f q c0 c1 c2 c3 c4 => ?_)
    (fun h h1 h2 i h3 h4 h5 j k0 k1 k2 f q c0 c1 c2 c3 c4 => ⟨by omega, by omega⟩) (fun h h1 h2 i h3 h4 h5 j k0 k1 k2 => ?_)
  · unfold headsV
    rw [if_pos (by omega)]; rfl
  · exact absurd (by rw [hb h1]) h2
  · have e := hlen h1
    rw [hb h1] at k3
    rw [hd_of (by omega), hd_of (by omega)] at k3
    exact absurd (heads_apart (by omega) (by omega) (by omega)) k3.2
  · constructor
    · intro g; cases g
    · rintro ⟨k, hk, _⟩; omega
  · constructor
    · intro _; exact ⟨q.toNat, by omega, c4⟩
    · intro _; rfl
  · refine absurd (c2.2 ?_) c4
    have e := hlen h1
    rw [hb h1]
    exact cover_all (bang_mem (by omega)) (by omega)
  · rw [hb h1, merge_heads, decide_eq_true rfl]
end Go.Proofs.Ytoeifjooljkpaaa
