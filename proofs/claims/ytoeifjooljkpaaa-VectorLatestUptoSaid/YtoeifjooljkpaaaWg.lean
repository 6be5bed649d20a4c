/- Wg: walks, written by a program of this claim's own, and what each function hands back. Conditions: none. -/
import Derived.Test.YtoeifjooljkpaaaWf
import Derived.Test.YtoeifjooljkpaaaEP
set_option linter.unusedVariables false
set_option linter.unusedSimpArgs false
namespace Go.Proofs.Ytoeifjooljkpaaa
open Go.E
set_option maxRecDepth 100000
set_option maxHeartbeats 4000000
theorem walk54 (v : Vector Int (16 : Nat)) (w : Vector Int (16 : Nat))
    (g0 : inv54 max v w (0 : Int) v w (Vector.replicate (16 : Nat) (0 : Int)))
    (g1 : ∀ (i_0 : Int) (a_1 b_2 c_3 : Vector Int (16 : Nat)), (0 : Int) ≤ i_0 → i_0 ≤ (16 : Int) → b_2 = w → (∀ (j : Nat), j < (16 : Nat) → a_1[j]! = if (↑j : Int) < i_0 then max v[j]! w[j]! else v[j]!) → i_0 < (16 : Int) → inv54 max v w (i_0 + (1 : Int)) (a_1.setIfInBounds i_0.toNat (max a_1[i_0.toNat]! b_2[i_0.toNat]!)) b_2 c_3)
    (g2 : ∀ (i_0 : Int) (a_1 b_2 c_3 : Vector Int (16 : Nat)), (0 : Int) ≤ i_0 → i_0 ≤ (16 : Int) → b_2 = w → (∀ (j : Nat), j < (16 : Nat) → a_1[j]! = if (↑j : Int) < i_0 then max v[j]! w[j]! else v[j]!) → ¬i_0 < (16 : Int) → AV.agg (cA (AV.i IntKind.i64) a_1) = AV.agg (c62 (mergeV v w))) :
    Con Try.prog (54 : FuncId) [AV.agg (c62 v), AV.agg (c62 w)] (AV.agg (c62 (mergeV v w))) := by
  refine st_con tab_ok (by kernel_rfl) [.cell 4 62] 20 Go.Proofs.Try.func54 (by kernel_rfl) (by kernel_rfl) ?_
  intro e0 cx
  refine st_seq (by kernel_rfl) ?_
  refine st_reg (A := True) (σ' := ⟨[(2, .ptr (2) (0) (0) (0)), (3, .ptr (3) (0) (0) (0)), (4, .ptr (4) (0) (0) (0))], [(2, ⟨0, 62, .arr (cA (AV.i IntKind.i64) v)⟩), (3, ⟨0, 62, .arr (cA (AV.i IntKind.i64) w)⟩), (4, ⟨0, 62, .arr (cA (AV.i IntKind.i64) (Vector.replicate (16 : Nat) (0 : Int)))⟩)]⟩) cx [] [2, 3, 4] [2, 3, 4] (by kernel_rfl) (by kernel_rfl) trivial ?_
  refine q_seq_normal ?_
  refine st_seq (by kernel_rfl) ?_
  refine st_seq (by kernel_rfl) ?_
  refine st_reg (A := True) (σ' := ⟨[(2, .ptr (2) (0) (0) (0)), (3, .ptr (3) (0) (0) (0)), (4, .ptr (4) (0) (0) (0)), (6, .i .i64 ((0 : Int)))], [(2, ⟨0, 62, .arr (cA (AV.i IntKind.i64) v)⟩), (3, ⟨0, 62, .arr (cA (AV.i IntKind.i64) w)⟩), (4, ⟨0, 62, .arr (cA (AV.i IntKind.i64) (Vector.replicate (16 : Nat) (0 : Int)))⟩)]⟩) cx [] [2, 3, 4, 6] [2, 3, 4] (by kernel_rfl) (by kernel_rfl) trivial ?_
  refine q_seq_normal ?_
  refine st_block 0 (by kernel_rfl) ?_
  refine st_loop (X := Int × Vector Int (16 : Nat) × Vector Int (16 : Nat) × Vector Int (16 : Nat)) (fun x => ⟨[(2, .ptr (2) (0) (0) (0)), (3, .ptr (3) (0) (0) (0)), (4, .ptr (4) (0) (0) (0)), (6, .i .i64 (x.fst))], [(2, ⟨0, 62, .arr (cA (AV.i IntKind.i64) x.snd.fst)⟩), (3, ⟨0, 62, .arr (cA (AV.i IntKind.i64) x.snd.snd.fst)⟩), (4, ⟨0, 62, .arr (cA (AV.i IntKind.i64) x.snd.snd.snd)⟩)]⟩) (fun x ↦ dec54 x.fst x.snd.fst x.snd.snd.fst x.snd.snd.snd) (fun x ↦ inv54 max v w x.fst x.snd.fst x.snd.snd.fst x.snd.snd.snd) [2, 3, 4, 6] [2, 3, 4] (((0 : Int), v, w, Vector.replicate (16 : Nat) (0 : Int))) (by kernel_rfl) (by kernel_rfl) g0 ?_
  rintro ⟨i_0, a_1, b_2, c_3⟩ h_4
  obtain ⟨h_5, h_6, h_7, h_8⟩ : (0 : Int) ≤ i_0 ∧ i_0 ≤ (16 : Int) ∧ b_2 = w ∧ ∀ (j : Nat), j < (16 : Nat) → a_1[j]! = if (↑j : Int) < i_0 then max v[j]! w[j]! else v[j]! := h_4
  refine st_seq (by kernel_rfl) ?_
  refine st_reg (A := (AV.b (decide (i_0 < (16 : Int))) = AV.b (decide (i_0 < (16 : Int))))) (σ' := ⟨[(2, .ptr (2) (0) (0) (0)), (3, .ptr (3) (0) (0) (0)), (4, .ptr (4) (0) (0) (0)), (6, .i .i64 (i_0)), (7, .b (decide (i_0 < (16 : Int))))], [(2, ⟨0, 62, .arr (cA (AV.i IntKind.i64) a_1)⟩), (3, ⟨0, 62, .arr (cA (AV.i IntKind.i64) b_2)⟩), (4, ⟨0, 62, .arr (cA (AV.i IntKind.i64) c_3)⟩)]⟩) cx [(0, { tell := some (.b (decide (i_0 < (16 : Int)))) })] [2, 3, 4, 6, 7] [2, 3, 4] (by kernel_rfl) (by kernel_rfl) (by kernel_rfl) ?_
  refine q_seq_normal ?_
  refine st_seq (by kernel_rfl) ?_
  refine st_dec (i_0 < (16 : Int)) (by kernel_rfl) (by kernel_rfl) (fun h_9 => ?_) (fun h_9 => ?_)
  ·
    refine st_skip (by kernel_rfl) ?_
    refine q_seq_normal ?_
    refine st_seq (by kernel_rfl) ?_
    refine st_block 1 (by kernel_rfl) ?_
    refine st_seq (by kernel_rfl) ?_
    refine st_reg (A := True) (σ' := ⟨[(2, .ptr (2) (0) (0) (0)), (3, .ptr (3) (0) (0) (0)), (4, .ptr (4) (0) (0) (0)), (6, .i .i64 (i_0)), (5, .i .i64 (i_0))], [(2, ⟨0, 62, .arr (cA (AV.i IntKind.i64) a_1)⟩), (3, ⟨0, 62, .arr (cA (AV.i IntKind.i64) b_2)⟩), (4, ⟨0, 62, .arr (cA (AV.i IntKind.i64) c_3)⟩)]⟩) cx [] [2, 3, 4, 6, 5] [2, 3, 4] (by kernel_rfl) (by kernel_rfl) trivial ?_
    refine q_seq_normal ?_
    refine st_any (A := ((0 : Int) ≤ i_0) ∧ (i_0 < (↑(16 : Nat) : Int)) ∧ ((cA (AV.i IntKind.i64) a_1)[i_0.toNat * (1 : Nat) + 0]? = some (AV.i IntKind.i64 a_1[i_0.toNat]!)) ∧ ((0 : Int) ≤ i_0) ∧ (i_0 < (↑(16 : Nat) : Int)) ∧ ((cA (AV.i IntKind.i64) b_2)[i_0.toNat * (1 : Nat) + 0]? = some (AV.i IntKind.i64 b_2[i_0.toNat]!)) ∧ (AV.i IntKind.i64 (if b_2[i_0.toNat]! > a_1[i_0.toNat]! then b_2[i_0.toNat]! else a_1[i_0.toNat]!) = AV.i IntKind.i64 (max a_1[i_0.toNat]! b_2[i_0.toNat]!)) ∧ ((0 : Int) ≤ i_0) ∧ (i_0 < (↑(16 : Nat) : Int)) ∧ (i_0.toNat * (1 : Nat) + 0 < (cA (AV.i IntKind.i64) a_1).length) ∧ (cellsA (AV.i IntKind.i64 (max a_1[i_0.toNat]! b_2[i_0.toNat]!)) = [(cellsA (AV.i IntKind.i64 (max a_1[i_0.toNat]! b_2[i_0.toNat]!))).headD AV.dead]) ∧ ((cA (AV.i IntKind.i64) a_1).set (i_0.toNat * (1 : Nat) + 0) ((cellsA (AV.i IntKind.i64 (max a_1[i_0.toNat]! b_2[i_0.toNat]!))).headD AV.dead) = cA (AV.i IntKind.i64) (a_1.setIfInBounds i_0.toNat (max a_1[i_0.toNat]! b_2[i_0.toNat]!)))) (σ' := ⟨[(2, .ptr (2) (0) (0) (0)), (3, .ptr (3) (0) (0) (0)), (4, .ptr (4) (0) (0) (0)), (6, .i .i64 (i_0))], [(2, ⟨0, 62, .arr (cA (AV.i IntKind.i64) (a_1.setIfInBounds i_0.toNat (max a_1[i_0.toNat]! b_2[i_0.toNat]!)))⟩), (3, ⟨0, 62, .arr (cA (AV.i IntKind.i64) b_2)⟩), (4, ⟨0, 62, .arr (cA (AV.i IntKind.i64) c_3)⟩)]⟩) cx [(3, { row := [.i .i64 (a_1[i_0.toNat]!)] }), (6, { row := [.i .i64 (b_2[i_0.toNat]!)] }), (7, { tell := some (.i .i64 (max a_1[i_0.toNat]! b_2[i_0.toNat]!)) }), (9, { rows := some [(cA (AV.i IntKind.i64) (a_1.setIfInBounds i_0.toNat (max a_1[i_0.toNat]! b_2[i_0.toNat]!)))] })] [2, 3, 4, 6] [2, 3, 4] (by kernel_rfl) (by kernel_rfl) ⟨(by (with_reducible assumption)), (by omega), (by (simp only [Nat.mul_one, Nat.add_zero, Nat.zero_add]; with_reducible refine get_cA ?_; omega)), (by (with_reducible assumption)), (by omega), (by (simp only [Nat.mul_one, Nat.add_zero, Nat.zero_add]; with_reducible refine get_cA ?_; omega)), (told_max), (by (with_reducible assumption)), (by omega), (by (simp only [List.length_set, List.length_map, List.length_append, List.length_replicate, List.length_cons, List.length_nil, Go.maxLen, Nat.mul_one, Nat.add_zero, Nat.zero_add, Nat.one_mul, len_cA]; omega)), (by kernel_rfl), (by (simp only [Nat.mul_one, Nat.add_zero, Nat.zero_add]; with_reducible refine set_cA ?_; kernel_rfl))⟩ ?_
    refine q_blk_normal ?_
    refine q_seq_normal ?_
    refine st_reg (A := (AV.i IntKind.i64 (IntKind.i64.wrap (i_0 + (1 : Int))) = AV.i IntKind.i64 (i_0 + (1 : Int)))) (σ' := ⟨[(2, .ptr (2) (0) (0) (0)), (3, .ptr (3) (0) (0) (0)), (4, .ptr (4) (0) (0) (0)), (6, .i .i64 (i_0 + (1 : Int)))], [(2, ⟨0, 62, .arr (cA (AV.i IntKind.i64) (a_1.setIfInBounds i_0.toNat (max a_1[i_0.toNat]! b_2[i_0.toNat]!)))⟩), (3, ⟨0, 62, .arr (cA (AV.i IntKind.i64) b_2)⟩), (4, ⟨0, 62, .arr (cA (AV.i IntKind.i64) c_3)⟩)]⟩) cx [(0, { tell := some (.i .i64 (i_0 + (1 : Int))) })] [2, 3, 4, 6] [2, 3, 4] (by kernel_rfl) (by kernel_rfl) (told_i64 (by omega) (by omega)) ?_
    refine q_seq_normal ?_
    exact loop_next ((i_0 + (1 : Int), a_1.setIfInBounds i_0.toNat (max a_1[i_0.toNat]! b_2[i_0.toNat]!), b_2, c_3)) (by kernel_rfl) (show ((16 : Int) - (i_0 + (1 : Int))).toNat < ((16 : Int) - i_0).toNat from (by omega)) (g1 i_0 a_1 b_2 c_3 h_5 h_6 h_7 h_8 h_9)
  ·
    refine st_exit 0 (by kernel_rfl) ?_
    refine q_seq_exit ?_
    refine q_seq_exit ?_
    refine q_blk_hit ?_
    refine q_seq_normal ?_
    refine st_seq (by kernel_rfl) ?_
    refine st_reg (A := ((cA (AV.i IntKind.i64) a_1).length = (16 : Nat)) ∧ ((cA (AV.i IntKind.i64) a_1).length = (cA (AV.i IntKind.i64) c_3).length) ∧ ((cA (AV.i IntKind.i64) a_1).length = (16 : Nat))) (σ' := ⟨[(4, .ptr (4) (0) (0) (0))], [(4, ⟨0, 62, .arr (cA (AV.i IntKind.i64) a_1)⟩)]⟩) cx [] [4] [4] (by kernel_rfl) (by kernel_rfl) ⟨(by (simp only [len_cA]; done)), (by (simp only [len_cA]; done)), (by (simp only [len_cA]; done))⟩ ?_
    refine q_seq_normal ?_
    refine st_ret (by kernel_rfl) ?_
    exact q_ret (r := .agg (cA (AV.i IntKind.i64) a_1)) (obl := [(cA (AV.i IntKind.i64) a_1).length = (16 : Nat)]) (by kernel_rfl) (show ((cA (AV.i IntKind.i64) a_1).length = (16 : Nat)) from (by (simp only [len_cA]; done))) (AVle.eq (g2 i_0 a_1 b_2 c_3 h_5 h_6 h_7 h_8 h_9))
theorem con54 (v w : Vector Int 16) : Con Try.prog 54 [.agg (c62 v), .agg (c62 w)] (.agg (c62 (mergeV v w))) :=
  walk54 v w ⟨by decide, by decide, rfl, fun j hj => by rw [if_neg (by omega)]⟩
    (fun i a b c h0 h1 h2 h3 h4 => inv54_step h0 h2 h3 h4 rfl)
    (fun i a b c h0 h1 h2 h3 h4 => by
      have : a = mergeV v w := vext fun j hj => by rw [h3 j hj, if_pos (by omega), get_mergeV v w j hj]
      rw [this]; rfl)
theorem walk26 (vs : List (List Int))
    (g0 : inv26 vs (0 : Int) (Vector.replicate (16 : Nat) (0 : Int)))
    (g1 : ∀ (i_0 : Int) (m_1 : Vector Int (16 : Nat)), (0 : Int) ≤ i_0 → i_0 ≤ (↑vs.length : Int) → m_1 = mergeL (Vector.replicate (16 : Nat) (0 : Int)) (List.take i_0.toNat vs) → i_0 < (↑vs.length : Int) → inv26 vs (i_0 + (1 : Int)) (mergeV m_1 (of vs[i_0.toNat]!)))
    (g2 : ∀ (i_0 : Int) (m_1 : Vector Int (16 : Nat)), (0 : Int) ≤ i_0 → i_0 ≤ (↑vs.length : Int) → m_1 = mergeL (Vector.replicate (16 : Nat) (0 : Int)) (List.take i_0.toNat vs) → ¬i_0 < (↑vs.length : Int) → AV.sl (List.map c3 (short m_1)) = AV.sl (List.map c3 (short (mergeL (Vector.replicate (16 : Nat) (0 : Int)) vs)))) :
    Con Try.prog (26 : FuncId) [AV.sl (List.map c22 vs)] (AV.sl (List.map c3 (short (mergeL (Vector.replicate (16 : Nat) (0 : Int)) vs)))) := by
  refine con_lens 0 (c22) (vs) (by kernel_rfl) Go.Proofs.Try.func26 (by kernel_rfl) fun hl_0 => ?_
  refine st_con tab_ok (by kernel_rfl) [.tmp 2] 19 Go.Proofs.Try.func26 (by kernel_rfl) (by kernel_rfl) ?_
  intro e0 cx
  refine st_seq (by kernel_rfl) ?_
  refine st_reg (A := True) (σ' := ⟨[(0, .sl (List.map c22 vs))], []⟩) cx [] [0] [] (by kernel_rfl) (by kernel_rfl) trivial ?_
  refine q_seq_normal ?_
  refine st_seq (by kernel_rfl) ?_
  refine st_reg (A := True) (σ' := ⟨[(0, .sl (List.map c22 vs)), (3, .ptr (3) (0) (0) (0))], [(3, ⟨0, 62, .arr (cA (AV.i IntKind.i64) (Vector.replicate (16 : Nat) (0 : Int)))⟩)]⟩) cx [] [0, 3] [3] (by kernel_rfl) (by kernel_rfl) trivial ?_
  refine q_seq_normal ?_
  refine st_seq (by kernel_rfl) ?_
  refine st_seq (by kernel_rfl) ?_
  refine st_reg (A := (AV.i IntKind.i64 (↑(List.map c22 vs).length : Int) = AV.i IntKind.i64 (↑vs.length : Int))) (σ' := ⟨[(3, .ptr (3) (0) (0) (0)), (6, .sl (List.map c22 vs)), (7, .i .i64 ((↑vs.length : Int))), (8, .i .i64 ((0 : Int)))], [(3, ⟨0, 62, .arr (cA (AV.i IntKind.i64) (Vector.replicate (16 : Nat) (0 : Int)))⟩)]⟩) cx [(1, { tell := some (.i .i64 ((↑vs.length : Int))) })] [3, 6, 7, 8] [3] (by kernel_rfl) (by kernel_rfl) (told_len c22 vs) ?_
  refine q_seq_normal ?_
  refine st_block 0 (by kernel_rfl) ?_
  refine st_loop (X := Int × Vector Int (16 : Nat)) (fun x => ⟨[(3, .ptr (3) (0) (0) (0)), (6, .sl (List.map c22 vs)), (7, .i .i64 ((↑vs.length : Int))), (8, .i .i64 (x.fst))], [(3, ⟨0, 62, .arr (cA (AV.i IntKind.i64) x.snd)⟩)]⟩) (fun x ↦ dec26 vs x.fst x.snd) (fun x ↦ inv26 vs x.fst x.snd) [3, 6, 7, 8] [3] (((0 : Int), Vector.replicate (16 : Nat) (0 : Int))) (by kernel_rfl) (by kernel_rfl) g0 ?_
  rintro ⟨i_0, m_1⟩ h_2
  obtain ⟨h_3, h_4, h_5⟩ : (0 : Int) ≤ i_0 ∧ i_0 ≤ (↑vs.length : Int) ∧ m_1 = mergeL (Vector.replicate (16 : Nat) (0 : Int)) (List.take i_0.toNat vs) := h_2
  refine st_seq (by kernel_rfl) ?_
  refine st_reg (A := (AV.b (decide (i_0 < (↑vs.length : Int))) = AV.b (decide (i_0 < (↑vs.length : Int))))) (σ' := ⟨[(3, .ptr (3) (0) (0) (0)), (6, .sl (List.map c22 vs)), (7, .i .i64 ((↑vs.length : Int))), (8, .i .i64 (i_0)), (9, .b (decide (i_0 < (↑vs.length : Int))))], [(3, ⟨0, 62, .arr (cA (AV.i IntKind.i64) m_1)⟩)]⟩) cx [(0, { tell := some (.b (decide (i_0 < (↑vs.length : Int)))) })] [3, 6, 7, 8, 9] [3] (by kernel_rfl) (by kernel_rfl) (by kernel_rfl) ?_
  refine q_seq_normal ?_
  refine st_seq (by kernel_rfl) ?_
  refine st_dec (i_0 < (↑vs.length : Int)) (by kernel_rfl) (by kernel_rfl) (fun h_6 => ?_) (fun h_6 => ?_)
  ·
    refine st_skip (by kernel_rfl) ?_
    refine q_seq_normal ?_
    refine st_seq (by kernel_rfl) ?_
    refine st_block 1 (by kernel_rfl) ?_
    refine st_seq (by kernel_rfl) ?_
    refine st_reg (A := ((0 : Int) ≤ i_0) ∧ ((List.map c22 vs)[i_0.toNat]? = some (c22 vs[i_0.toNat]!)) ∧ ((c22 vs[i_0.toNat]!).length = (1 : Nat))) (σ' := ⟨[(3, .ptr (3) (0) (0) (0)), (6, .sl (List.map c22 vs)), (7, .i .i64 ((↑vs.length : Int))), (8, .i .i64 (i_0)), (5, .sl (List.map c3 vs[i_0.toNat]!))], [(3, ⟨0, 62, .arr (cA (AV.i IntKind.i64) m_1)⟩)]⟩) cx [(0, { row := (c22 vs[i_0.toNat]!) })] [3, 6, 7, 8, 5] [3] (by kernel_rfl) (by kernel_rfl) ⟨(by (with_reducible assumption)), (by (with_reducible refine get_map ?_; omega)), (by kernel_rfl)⟩ ?_
    refine q_seq_normal ?_
    refine st_any (A := ((cA (AV.i IntKind.i64) m_1).length = (16 : Nat)) ∧ (Con Try.prog (49 : FuncId) [AV.sl (List.map c3 vs[i_0.toNat]!)] (AV.agg (c62 (of vs[i_0.toNat]!)))) ∧ (Con Try.prog (54 : FuncId) [AV.agg (c62 m_1), AV.agg (c62 (of vs[i_0.toNat]!))] (AV.agg (c62 (mergeV m_1 (of vs[i_0.toNat]!))))) ∧ ((cA (AV.i IntKind.i64) (mergeV m_1 (of vs[i_0.toNat]!))).length = (cA (AV.i IntKind.i64) m_1).length) ∧ ((cA (AV.i IntKind.i64) (mergeV m_1 (of vs[i_0.toNat]!))).length = (16 : Nat))) (σ' := ⟨[(3, .ptr (3) (0) (0) (0)), (6, .sl (List.map c22 vs)), (7, .i .i64 ((↑vs.length : Int))), (8, .i .i64 (i_0))], [(3, ⟨0, 62, .arr (cA (AV.i IntKind.i64) (mergeV m_1 (of vs[i_0.toNat]!)))⟩)]⟩) cx [(2, { val := some (.agg (cA (AV.i IntKind.i64) (of vs[i_0.toNat]!))) }), (3, { val := some (.agg (cA (AV.i IntKind.i64) (mergeV m_1 (of vs[i_0.toNat]!)))) })] [3, 6, 7, 8] [3] (by kernel_rfl) (by kernel_rfl) ⟨(by (simp only [len_cA]; done)), (con49 (vs[i_0.toNat]!)), (con54 (m_1) (of vs[i_0.toNat]!)), (by (simp only [len_cA]; done)), (by kernel_rfl)⟩ ?_
    refine q_blk_normal ?_
    refine q_seq_normal ?_
    refine st_reg (A := (AV.i IntKind.i64 (IntKind.i64.wrap (i_0 + (1 : Int))) = AV.i IntKind.i64 (i_0 + (1 : Int)))) (σ' := ⟨[(3, .ptr (3) (0) (0) (0)), (6, .sl (List.map c22 vs)), (7, .i .i64 ((↑vs.length : Int))), (8, .i .i64 (i_0 + (1 : Int)))], [(3, ⟨0, 62, .arr (cA (AV.i IntKind.i64) (mergeV m_1 (of vs[i_0.toNat]!)))⟩)]⟩) cx [(0, { tell := some (.i .i64 (i_0 + (1 : Int))) })] [3, 6, 7, 8] [3] (by kernel_rfl) (by kernel_rfl) (told_i64 (by omega) (by omega)) ?_
    refine q_seq_normal ?_
    exact loop_next ((i_0 + (1 : Int), mergeV m_1 (of vs[i_0.toNat]!))) (by kernel_rfl) (show ((↑vs.length : Int) - (i_0 + (1 : Int))).toNat < ((↑vs.length : Int) - i_0).toNat from (by omega)) (g1 i_0 m_1 h_3 h_4 h_5 h_6)
  ·
    refine st_exit 0 (by kernel_rfl) ?_
    refine q_seq_exit ?_
    refine q_seq_exit ?_
    refine q_blk_hit ?_
    refine q_seq_normal ?_
    refine st_seq (by kernel_rfl) ?_
    refine st_reg (A := ((cA (AV.i IntKind.i64) m_1).length = (16 : Nat)) ∧ (Con Try.prog (51 : FuncId) [AV.agg (c62 m_1)] (AV.sl (List.map c3 (short m_1))))) (σ' := ⟨[(2, .sl (List.map c3 (short m_1)))], []⟩) cx [(1, { val := some (.sl (List.map c3 (short m_1))) })] [2] [] (by kernel_rfl) (by kernel_rfl) ⟨(by (simp only [len_cA]; done)), (con51 (m_1))⟩ ?_
    refine q_seq_normal ?_
    refine st_ret (by kernel_rfl) ?_
    exact q_ret (r := .sl (List.map c3 (short m_1))) (obl := []) (by kernel_rfl) trivial (AVle.eq (g2 i_0 m_1 h_3 h_4 h_5 h_6))
theorem con26 (vs : List (List Int)) : Con Try.prog 26 [.sl (vs.map c22)] (.sl ((short (mergeL (Vector.replicate 16 0) vs)).map c3)) :=
  by
  refine walk26 vs ⟨by decide, by omega, rfl⟩ (fun i m h0 h1 h2 h3 => ⟨by omega, by omega, ?_⟩) (fun i m h0 h1 h2 h3 => ?_)
  · rw [h2, mergeL_step _ _ _ h0 h3]
  · have : i.toNat = vs.length := by omega
    rw [h2, this, List.take_length]
theorem walk24  :
    Con Try.prog (24 : FuncId) [] (AV.b true) := by
  refine st_con tab_ok (by kernel_rfl) [.tmp 0] 7 Go.Proofs.Try.func24 (by kernel_rfl) (by kernel_rfl) ?_
  intro e0 cx
  refine st_seq (by kernel_rfl) ?_
  refine st_reg (A := True) (σ' := ⟨[], []⟩) cx [] [] [] (by kernel_rfl) (by kernel_rfl) trivial ?_
  refine q_seq_normal ?_
  refine st_seq (by kernel_rfl) ?_
  refine st_reg (A := (Con Try.prog (26 : FuncId) [AV.sl (List.map c22 [[(1 : Int), (5 : Int)], [(2 : Int), (3 : Int), (4 : Int)]])] (AV.sl (List.map c3 (short (mergeL (Vector.replicate (16 : Nat) (0 : Int)) [[(1 : Int), (5 : Int)], [(2 : Int), (3 : Int), (4 : Int)]]))))) ∧ (Flat (AV.b true)) ∧ (Con Try.prog (20 : FuncId) [AV.sl (List.map c3 (short (mergeL (Vector.replicate (16 : Nat) (0 : Int)) [[(1 : Int), (5 : Int)], [(2 : Int), (3 : Int), (4 : Int)]]))), AV.sl (List.map c3 [(2 : Int), (5 : Int), (4 : Int)])] (AV.b (decide (short (mergeL (Vector.replicate (16 : Nat) (0 : Int)) [[(1 : Int), (5 : Int)], [(2 : Int), (3 : Int), (4 : Int)]]) = [(2 : Int), (5 : Int), (4 : Int)]))))) (σ' := ⟨[(0, .b (true))], []⟩) cx [(3, { val := some (.sl (List.map c3 (short (mergeL (Vector.replicate (16 : Nat) (0 : Int)) [[(1 : Int), (5 : Int)], [(2 : Int), (3 : Int), (4 : Int)]])))) }), (5, { val := some (.b (true)), flat := true })] [0] [] (by kernel_rfl) (by kernel_rfl) ⟨(con26 ([[(1 : Int), (5 : Int)], [(2 : Int), (3 : Int), (4 : Int)]])), (by exact Flat.b _), (con20 (short (mergeL (Vector.replicate (16 : Nat) (0 : Int)) [[(1 : Int), (5 : Int)], [(2 : Int), (3 : Int), (4 : Int)]])) ([(2 : Int), (5 : Int), (4 : Int)]))⟩ ?_
  refine q_seq_normal ?_
  refine st_ret (by kernel_rfl) ?_
  exact q_ret (r := .b (true)) (obl := []) (by kernel_rfl) trivial (AVle.refl _)
theorem con24  : Con Try.prog 24 [] (.b true) :=
  walk24
end Go.Proofs.Ytoeifjooljkpaaa
