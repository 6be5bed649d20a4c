/- Wc: walks, written by a program of this claim's own, and what each function hands back. Conditions: none. -/
import Derived.Test.YtoeifjooljkpaaaWb
import Derived.Test.YtoeifjooljkpaaaEP
set_option linter.unusedVariables false
set_option linter.unusedSimpArgs false
namespace Go.Proofs.Ytoeifjooljkpaaa
open Go.E
set_option maxRecDepth 100000
set_option maxHeartbeats 4000000
theorem walk49 (v : List Int)
    (g0 : inv49 v (0 : Int) (Vector.replicate (16 : Nat) (0 : Int)) (Vector.replicate (16 : Nat) (0 : Int)))
    (g1 : ∀ (i_0 : Int) (a_1 b_2 : Vector Int (16 : Nat)), (0 : Int) ≤ i_0 → i_0 ≤ (16 : Int) → (∀ (j : Nat), j < (16 : Nat) → b_2[j]! = if (↑j : Int) < i_0 then (of v)[j]! else (0 : Int)) → i_0 < (16 : Int) → i_0 < (↑v.length : Int) → inv49 v (i_0 + (1 : Int)) a_1 (b_2.setIfInBounds i_0.toNat (min (max v[i_0.toNat]! (0 : Int)) (1000000000 : Int))))
    (g2 : ∀ (i_0 : Int) (a_1 b_2 : Vector Int (16 : Nat)), (0 : Int) ≤ i_0 → i_0 ≤ (16 : Int) → (∀ (j : Nat), j < (16 : Nat) → b_2[j]! = if (↑j : Int) < i_0 then (of v)[j]! else (0 : Int)) → i_0 < (16 : Int) → ¬i_0 < (↑v.length : Int) → inv49 v (i_0 + (1 : Int)) a_1 b_2)
    (g3 : ∀ (i_0 : Int) (a_1 b_2 : Vector Int (16 : Nat)), (0 : Int) ≤ i_0 → i_0 ≤ (16 : Int) → (∀ (j : Nat), j < (16 : Nat) → b_2[j]! = if (↑j : Int) < i_0 then (of v)[j]! else (0 : Int)) → ¬i_0 < (16 : Int) → AV.agg (cA (AV.i IntKind.i64) b_2) = AV.agg (c62 (of v))) :
    Con Try.prog (49 : FuncId) [AV.sl (List.map c3 v)] (AV.agg (c62 (of v))) := by
  refine con_lens 0 (c3) (v) (by kernel_rfl) Go.Proofs.Try.func49 (by kernel_rfl) fun hl_0 => ?_
  refine st_con tab_ok (by kernel_rfl) [.cell 2 62] 22 Go.Proofs.Try.func49 (by kernel_rfl) (by kernel_rfl) ?_
  intro e0 cx
  refine st_seq (by kernel_rfl) ?_
  refine st_reg (A := True) (σ' := ⟨[(0, .sl (List.map c3 v)), (2, .ptr (2) (0) (0) (0))], [(2, ⟨0, 62, .arr (cA (AV.i IntKind.i64) (Vector.replicate (16 : Nat) (0 : Int)))⟩)]⟩) cx [] [0, 2] [2] (by kernel_rfl) (by kernel_rfl) trivial ?_
  refine q_seq_normal ?_
  refine st_seq (by kernel_rfl) ?_
  refine st_reg (A := True) (σ' := ⟨[(0, .sl (List.map c3 v)), (2, .ptr (2) (0) (0) (0)), (3, .ptr (3) (0) (0) (0))], [(2, ⟨0, 62, .arr (cA (AV.i IntKind.i64) (Vector.replicate (16 : Nat) (0 : Int)))⟩), (3, ⟨0, 62, .arr (cA (AV.i IntKind.i64) (Vector.replicate (16 : Nat) (0 : Int)))⟩)]⟩) cx [] [0, 2, 3] [2, 3] (by kernel_rfl) (by kernel_rfl) trivial ?_
  refine q_seq_normal ?_
  refine st_seq (by kernel_rfl) ?_
  refine st_seq (by kernel_rfl) ?_
  refine st_reg (A := True) (σ' := ⟨[(0, .sl (List.map c3 v)), (2, .ptr (2) (0) (0) (0)), (3, .ptr (3) (0) (0) (0)), (5, .i .i64 ((0 : Int)))], [(2, ⟨0, 62, .arr (cA (AV.i IntKind.i64) (Vector.replicate (16 : Nat) (0 : Int)))⟩), (3, ⟨0, 62, .arr (cA (AV.i IntKind.i64) (Vector.replicate (16 : Nat) (0 : Int)))⟩)]⟩) cx [] [0, 2, 3, 5] [2, 3] (by kernel_rfl) (by kernel_rfl) trivial ?_
  refine q_seq_normal ?_
  refine st_block 0 (by kernel_rfl) ?_
  refine st_loop (X := Int × Vector Int (16 : Nat) × Vector Int (16 : Nat)) (fun x => ⟨[(0, .sl (List.map c3 v)), (2, .ptr (2) (0) (0) (0)), (3, .ptr (3) (0) (0) (0)), (5, .i .i64 (x.fst))], [(2, ⟨0, 62, .arr (cA (AV.i IntKind.i64) x.snd.fst)⟩), (3, ⟨0, 62, .arr (cA (AV.i IntKind.i64) x.snd.snd)⟩)]⟩) (fun x ↦ dec49 x.fst x.snd.fst x.snd.snd) (fun x ↦ inv49 v x.fst x.snd.fst x.snd.snd) [0, 2, 3, 5] [2, 3] (((0 : Int), Vector.replicate (16 : Nat) (0 : Int), Vector.replicate (16 : Nat) (0 : Int))) (by kernel_rfl) (by kernel_rfl) g0 ?_
  rintro ⟨i_0, a_1, b_2⟩ h_3
  obtain ⟨h_4, h_5, h_6⟩ : (0 : Int) ≤ i_0 ∧ i_0 ≤ (16 : Int) ∧ ∀ (j : Nat), j < (16 : Nat) → b_2[j]! = if (↑j : Int) < i_0 then (of v)[j]! else (0 : Int) := h_3
  refine st_seq (by kernel_rfl) ?_
  refine st_reg (A := (AV.b (decide (i_0 < (16 : Int))) = AV.b (decide (i_0 < (16 : Int))))) (σ' := ⟨[(0, .sl (List.map c3 v)), (2, .ptr (2) (0) (0) (0)), (3, .ptr (3) (0) (0) (0)), (5, .i .i64 (i_0)), (6, .b (decide (i_0 < (16 : Int))))], [(2, ⟨0, 62, .arr (cA (AV.i IntKind.i64) a_1)⟩), (3, ⟨0, 62, .arr (cA (AV.i IntKind.i64) b_2)⟩)]⟩) cx [(0, { tell := some (.b (decide (i_0 < (16 : Int)))) })] [0, 2, 3, 5, 6] [2, 3] (by kernel_rfl) (by kernel_rfl) (by kernel_rfl) ?_
  refine q_seq_normal ?_
  refine st_seq (by kernel_rfl) ?_
  refine st_dec (i_0 < (16 : Int)) (by kernel_rfl) (by kernel_rfl) (fun h_7 => ?_) (fun h_7 => ?_)
  ·
    refine st_skip (by kernel_rfl) ?_
    refine q_seq_normal ?_
    refine st_seq (by kernel_rfl) ?_
    refine st_block 1 (by kernel_rfl) ?_
    refine st_seq (by kernel_rfl) ?_
    refine st_reg (A := True) (σ' := ⟨[(0, .sl (List.map c3 v)), (2, .ptr (2) (0) (0) (0)), (3, .ptr (3) (0) (0) (0)), (5, .i .i64 (i_0)), (4, .i .i64 (i_0))], [(2, ⟨0, 62, .arr (cA (AV.i IntKind.i64) a_1)⟩), (3, ⟨0, 62, .arr (cA (AV.i IntKind.i64) b_2)⟩)]⟩) cx [] [0, 2, 3, 5, 4] [2, 3] (by kernel_rfl) (by kernel_rfl) trivial ?_
    refine q_seq_normal ?_
    refine st_seq (by kernel_rfl) ?_
    refine st_reg (A := (AV.i IntKind.i64 (↑(List.map c3 v).length : Int) = AV.i IntKind.i64 (↑v.length : Int)) ∧ (AV.b (decide (i_0 < (↑v.length : Int))) = AV.b (decide (i_0 < (↑v.length : Int))))) (σ' := ⟨[(0, .sl (List.map c3 v)), (2, .ptr (2) (0) (0) (0)), (3, .ptr (3) (0) (0) (0)), (5, .i .i64 (i_0)), (4, .i .i64 (i_0)), (11, .b (decide (i_0 < (↑v.length : Int))))], [(2, ⟨0, 62, .arr (cA (AV.i IntKind.i64) a_1)⟩), (3, ⟨0, 62, .arr (cA (AV.i IntKind.i64) b_2)⟩)]⟩) cx [(2, { tell := some (.i .i64 ((↑v.length : Int))) }), (3, { tell := some (.b (decide (i_0 < (↑v.length : Int)))) })] [0, 2, 3, 5, 4, 11] [2, 3] (by kernel_rfl) (by kernel_rfl) ⟨(told_len c3 v), (by kernel_rfl)⟩ ?_
    refine q_seq_normal ?_
    refine st_dec (i_0 < (↑v.length : Int)) (by kernel_rfl) (by kernel_rfl) (fun h_8 => ?_) (fun h_8 => ?_)
    ·
      refine st_reg (A := ((0 : Int) ≤ i_0) ∧ ((List.map c3 v)[i_0.toNat]? = some (c3 v[i_0.toNat]!)) ∧ ((c3 v[i_0.toNat]!).length = (1 : Nat)) ∧ (AV.i IntKind.i64 (if (0 : Int) > v[i_0.toNat]! then (0 : Int) else v[i_0.toNat]!) = AV.i IntKind.i64 (max v[i_0.toNat]! (0 : Int))) ∧ (AV.i IntKind.i64 (if (1000000000 : Int) < max v[i_0.toNat]! (0 : Int) then (1000000000 : Int) else max v[i_0.toNat]! (0 : Int)) = AV.i IntKind.i64 (min (max v[i_0.toNat]! (0 : Int)) (1000000000 : Int))) ∧ ((0 : Int) ≤ i_0) ∧ (i_0 < (↑(16 : Nat) : Int)) ∧ (i_0.toNat * (1 : Nat) + 0 < (cA (AV.i IntKind.i64) b_2).length) ∧ (cellsA (AV.i IntKind.i64 (min (max v[i_0.toNat]! (0 : Int)) (1000000000 : Int))) = [(cellsA (AV.i IntKind.i64 (min (max v[i_0.toNat]! (0 : Int)) (1000000000 : Int)))).headD AV.dead]) ∧ ((cA (AV.i IntKind.i64) b_2).set (i_0.toNat * (1 : Nat) + 0) ((cellsA (AV.i IntKind.i64 (min (max v[i_0.toNat]! (0 : Int)) (1000000000 : Int)))).headD AV.dead) = cA (AV.i IntKind.i64) (b_2.setIfInBounds i_0.toNat (min (max v[i_0.toNat]! (0 : Int)) (1000000000 : Int))))) (σ' := ⟨[(0, .sl (List.map c3 v)), (2, .ptr (2) (0) (0) (0)), (3, .ptr (3) (0) (0) (0)), (5, .i .i64 (i_0))], [(2, ⟨0, 62, .arr (cA (AV.i IntKind.i64) a_1)⟩), (3, ⟨0, 62, .arr (cA (AV.i IntKind.i64) (b_2.setIfInBounds i_0.toNat (min (max v[i_0.toNat]! (0 : Int)) (1000000000 : Int))))⟩)]⟩) cx [(3, { row := (c3 v[i_0.toNat]!) }), (5, { tell := some (.i .i64 (max v[i_0.toNat]! (0 : Int))) }), (6, { tell := some (.i .i64 (min (max v[i_0.toNat]! (0 : Int)) (1000000000 : Int))) }), (8, { rows := some [(cA (AV.i IntKind.i64) (b_2.setIfInBounds i_0.toNat (min (max v[i_0.toNat]! (0 : Int)) (1000000000 : Int))))] })] [0, 2, 3, 5] [2, 3] (by kernel_rfl) (by kernel_rfl) ⟨(by (with_reducible assumption)), (by (with_reducible refine get_map ?_; omega)), (by kernel_rfl), (told_max), (told_min), (by (with_reducible assumption)), (by omega), (by (simp only [List.length_set, List.length_map, List.length_append, List.length_replicate, List.length_cons, List.length_nil, Go.maxLen, Nat.mul_one, Nat.add_zero, Nat.zero_add, Nat.one_mul, len_cA]; omega)), (by kernel_rfl), (by (simp only [Nat.mul_one, Nat.add_zero, Nat.zero_add]; with_reducible refine set_cA ?_; kernel_rfl))⟩ ?_
      refine q_blk_normal ?_
      refine q_seq_normal ?_
      refine st_reg (A := (AV.i IntKind.i64 (IntKind.i64.wrap (i_0 + (1 : Int))) = AV.i IntKind.i64 (i_0 + (1 : Int)))) (σ' := ⟨[(0, .sl (List.map c3 v)), (2, .ptr (2) (0) (0) (0)), (3, .ptr (3) (0) (0) (0)), (5, .i .i64 (i_0 + (1 : Int)))], [(2, ⟨0, 62, .arr (cA (AV.i IntKind.i64) a_1)⟩), (3, ⟨0, 62, .arr (cA (AV.i IntKind.i64) (b_2.setIfInBounds i_0.toNat (min (max v[i_0.toNat]! (0 : Int)) (1000000000 : Int))))⟩)]⟩) cx [(0, { tell := some (.i .i64 (i_0 + (1 : Int))) })] [0, 2, 3, 5] [2, 3] (by kernel_rfl) (by kernel_rfl) (told_i64 (by omega) (by omega)) ?_
      refine q_seq_normal ?_
      exact loop_next ((i_0 + (1 : Int), a_1, b_2.setIfInBounds i_0.toNat (min (max v[i_0.toNat]! (0 : Int)) (1000000000 : Int)))) (by kernel_rfl) (show ((16 : Int) - (i_0 + (1 : Int))).toNat < ((16 : Int) - i_0).toNat from (by omega)) (g1 i_0 a_1 b_2 h_4 h_5 h_6 h_7 h_8)
    ·
      refine st_skip (by kernel_rfl) ?_
      refine q_blk_normal ?_
      refine q_seq_normal ?_
      refine st_reg (A := (AV.i IntKind.i64 (IntKind.i64.wrap (i_0 + (1 : Int))) = AV.i IntKind.i64 (i_0 + (1 : Int)))) (σ' := ⟨[(0, .sl (List.map c3 v)), (2, .ptr (2) (0) (0) (0)), (3, .ptr (3) (0) (0) (0)), (5, .i .i64 (i_0 + (1 : Int)))], [(2, ⟨0, 62, .arr (cA (AV.i IntKind.i64) a_1)⟩), (3, ⟨0, 62, .arr (cA (AV.i IntKind.i64) b_2)⟩)]⟩) cx [(0, { tell := some (.i .i64 (i_0 + (1 : Int))) })] [0, 2, 3, 5] [2, 3] (by kernel_rfl) (by kernel_rfl) (told_i64 (by omega) (by omega)) ?_
      refine q_seq_normal ?_
      exact loop_next ((i_0 + (1 : Int), a_1, b_2)) (by kernel_rfl) (show ((16 : Int) - (i_0 + (1 : Int))).toNat < ((16 : Int) - i_0).toNat from (by omega)) (g2 i_0 a_1 b_2 h_4 h_5 h_6 h_7 h_8)
  ·
    refine st_exit 0 (by kernel_rfl) ?_
    refine q_seq_exit ?_
    refine q_seq_exit ?_
    refine q_blk_hit ?_
    refine q_seq_normal ?_
    refine st_seq (by kernel_rfl) ?_
    refine st_reg (A := ((cA (AV.i IntKind.i64) b_2).length = (16 : Nat)) ∧ ((cA (AV.i IntKind.i64) b_2).length = (cA (AV.i IntKind.i64) a_1).length) ∧ ((cA (AV.i IntKind.i64) b_2).length = (16 : Nat))) (σ' := ⟨[(2, .ptr (2) (0) (0) (0))], [(2, ⟨0, 62, .arr (cA (AV.i IntKind.i64) b_2)⟩)]⟩) cx [] [2] [2] (by kernel_rfl) (by kernel_rfl) ⟨(by (simp only [len_cA]; done)), (by (simp only [len_cA]; done)), (by (simp only [len_cA]; done))⟩ ?_
    refine q_seq_normal ?_
    refine st_ret (by kernel_rfl) ?_
    exact q_ret (r := .agg (cA (AV.i IntKind.i64) b_2)) (obl := [(cA (AV.i IntKind.i64) b_2).length = (16 : Nat)]) (by kernel_rfl) (show ((cA (AV.i IntKind.i64) b_2).length = (16 : Nat)) from (by (simp only [len_cA]; done))) (AVle.eq (g3 i_0 a_1 b_2 h_4 h_5 h_6 h_7))
theorem inv49_init (v : List Int) : inv49 v 0 (Vector.replicate 16 0) (Vector.replicate 16 0) := by
  refine ⟨by decide, by decide, fun j hj => ?_⟩
  rw [if_neg (by omega)]
  simp [hj]
theorem inv49_skip {v : List Int} {i0 : Int} {a1 b2 : Vector Int 16} (h1 : 0 ≤ i0) (h3 : ∀ j : Nat, j < 16 → b2[j]! = if (j : Int) < i0 then (of v)[j]! else 0) (hi : i0 < 16) (hl : ¬ i0 < v.length) : inv49 v (i0 + 1) a1 b2 := by
  refine ⟨by omega, by omega, fun j hj => ?_⟩
  rw [h3 j hj]
  by_cases hji : (j : Int) < i0
  · rw [if_pos hji, if_pos (by omega)]
  · rw [if_neg hji]
    split
    · rw [get_of _ _ hj, List.getD_eq_getElem?_getD, List.getElem?_eq_none (by omega)]
      rfl
    · rfl
theorem con49 (v : List Int) : Con Try.prog 49 [.sl (v.map c3)] (.agg (c62 (of v))) :=
  walk49 v (inv49_init v)
    (fun i0 a1 b2 h1 h2 h3 hi hl => ⟨by omega, by omega, of_step h1 h3 hi (by rw [getD_bang]; rfl)⟩)
    (fun i0 a1 b2 h1 h2 h3 hi hl => inv49_skip h1 h3 hi hl)
    (fun i0 a1 b2 h1 h2 h3 hi => by rw [of_done h3 (.inl hi)]; rfl)
theorem walk50 (v : List Int)
    (g0 : inv49 v (0 : Int) (Vector.replicate (16 : Nat) (0 : Int)) (Vector.replicate (16 : Nat) (0 : Int)))
    (g1 : ∀ (i_0 : Int) (a_1 b_2 : Vector Int (16 : Nat)), (0 : Int) ≤ i_0 → i_0 ≤ (16 : Int) → (∀ (j : Nat), j < (16 : Nat) → b_2[j]! = if (↑j : Int) < i_0 then (of v)[j]! else (0 : Int)) → i_0 < (16 : Int) ∧ i_0 < (↑v.length : Int) → v[i_0.toNat]! < (0 : Int) → inv49 v (i_0 + (1 : Int)) a_1 (b_2.setIfInBounds i_0.toNat (0 : Int)))
    (g2 : ∀ (i_0 : Int) (a_1 b_2 : Vector Int (16 : Nat)), (0 : Int) ≤ i_0 → i_0 ≤ (16 : Int) → (∀ (j : Nat), j < (16 : Nat) → b_2[j]! = if (↑j : Int) < i_0 then (of v)[j]! else (0 : Int)) → i_0 < (16 : Int) ∧ i_0 < (↑v.length : Int) → ¬v[i_0.toNat]! < (0 : Int) → (1000000000 : Int) < v[i_0.toNat]! → inv49 v (i_0 + (1 : Int)) a_1 (b_2.setIfInBounds i_0.toNat (1000000000 : Int)))
    (g3 : ∀ (i_0 : Int) (a_1 b_2 : Vector Int (16 : Nat)), (0 : Int) ≤ i_0 → i_0 ≤ (16 : Int) → (∀ (j : Nat), j < (16 : Nat) → b_2[j]! = if (↑j : Int) < i_0 then (of v)[j]! else (0 : Int)) → i_0 < (16 : Int) ∧ i_0 < (↑v.length : Int) → ¬v[i_0.toNat]! < (0 : Int) → ¬(1000000000 : Int) < v[i_0.toNat]! → inv49 v (i_0 + (1 : Int)) a_1 (b_2.setIfInBounds i_0.toNat v[i_0.toNat]!))
    (g4 : ∀ (i_0 : Int) (a_1 b_2 : Vector Int (16 : Nat)), (0 : Int) ≤ i_0 → i_0 ≤ (16 : Int) → (∀ (j : Nat), j < (16 : Nat) → b_2[j]! = if (↑j : Int) < i_0 then (of v)[j]! else (0 : Int)) → ¬(i_0 < (16 : Int) ∧ i_0 < (↑v.length : Int)) → AV.agg (cA (AV.i IntKind.i64) b_2) = AV.agg (c61 (of v))) :
    Con Try.prog (50 : FuncId) [AV.sl (List.map c3 v)] (AV.agg (c61 (of v))) := by
  refine con_lens 0 (c3) (v) (by kernel_rfl) Go.Proofs.Try.func50 (by kernel_rfl) fun hl_0 => ?_
  refine st_con tab_ok (by kernel_rfl) [.cell 2 61] 28 Go.Proofs.Try.func50 (by kernel_rfl) (by kernel_rfl) ?_
  intro e0 cx
  refine st_seq (by kernel_rfl) ?_
  refine st_reg (A := True) (σ' := ⟨[(0, .sl (List.map c3 v)), (2, .ptr (2) (0) (0) (0))], [(2, ⟨0, 61, .arr (cA (AV.i IntKind.i64) (Vector.replicate (16 : Nat) (0 : Int)))⟩)]⟩) cx [] [0, 2] [2] (by kernel_rfl) (by kernel_rfl) trivial ?_
  refine q_seq_normal ?_
  refine st_seq (by kernel_rfl) ?_
  refine st_reg (A := True) (σ' := ⟨[(0, .sl (List.map c3 v)), (2, .ptr (2) (0) (0) (0)), (3, .ptr (3) (0) (0) (0))], [(2, ⟨0, 61, .arr (cA (AV.i IntKind.i64) (Vector.replicate (16 : Nat) (0 : Int)))⟩), (3, ⟨0, 61, .arr (cA (AV.i IntKind.i64) (Vector.replicate (16 : Nat) (0 : Int)))⟩)]⟩) cx [] [0, 2, 3] [2, 3] (by kernel_rfl) (by kernel_rfl) trivial ?_
  refine q_seq_normal ?_
  refine st_seq (by kernel_rfl) ?_
  refine st_seq (by kernel_rfl) ?_
  refine st_reg (A := True) (σ' := ⟨[(0, .sl (List.map c3 v)), (2, .ptr (2) (0) (0) (0)), (3, .ptr (3) (0) (0) (0)), (4, .i .i64 ((0 : Int)))], [(2, ⟨0, 61, .arr (cA (AV.i IntKind.i64) (Vector.replicate (16 : Nat) (0 : Int)))⟩), (3, ⟨0, 61, .arr (cA (AV.i IntKind.i64) (Vector.replicate (16 : Nat) (0 : Int)))⟩)]⟩) cx [] [0, 2, 3, 4] [2, 3] (by kernel_rfl) (by kernel_rfl) trivial ?_
  refine q_seq_normal ?_
  refine st_block 0 (by kernel_rfl) ?_
  refine st_loop (X := Int × Vector Int (16 : Nat) × Vector Int (16 : Nat)) (fun x => ⟨[(0, .sl (List.map c3 v)), (2, .ptr (2) (0) (0) (0)), (3, .ptr (3) (0) (0) (0)), (4, .i .i64 (x.fst))], [(2, ⟨0, 61, .arr (cA (AV.i IntKind.i64) x.snd.fst)⟩), (3, ⟨0, 61, .arr (cA (AV.i IntKind.i64) x.snd.snd)⟩)]⟩) (fun x ↦ dec49 x.fst x.snd.fst x.snd.snd) (fun x ↦ inv49 v x.fst x.snd.fst x.snd.snd) [0, 2, 3, 4] [2, 3] (((0 : Int), Vector.replicate (16 : Nat) (0 : Int), Vector.replicate (16 : Nat) (0 : Int))) (by kernel_rfl) (by kernel_rfl) g0 ?_
  rintro ⟨i_0, a_1, b_2⟩ h_3
  obtain ⟨h_4, h_5, h_6⟩ : (0 : Int) ≤ i_0 ∧ i_0 ≤ (16 : Int) ∧ ∀ (j : Nat), j < (16 : Nat) → b_2[j]! = if (↑j : Int) < i_0 then (of v)[j]! else (0 : Int) := h_3
  refine st_seq (by kernel_rfl) ?_
  refine st_seq (by kernel_rfl) ?_
  refine st_join (σ' := ⟨[(0, .sl (List.map c3 v)), (2, .ptr (2) (0) (0) (0)), (3, .ptr (3) (0) (0) (0)), (4, .i .i64 (i_0)), (13, .b (decide (i_0 < (16 : Int) ∧ i_0 < (↑v.length : Int))))], [(2, ⟨0, 61, .arr (cA (AV.i IntKind.i64) a_1)⟩), (3, ⟨0, 61, .arr (cA (AV.i IntKind.i64) b_2)⟩)]⟩) ?_ ?_
  ·
    refine st_split (i_0 < (16 : Int)) (fun h_8 => ?_) (fun h_8 => ?_)
    ·
      refine st_reg (A := (AV.b (decide (i_0 < (16 : Int))) = AV.b true) ∧ (AV.i IntKind.i64 (↑(List.map c3 v).length : Int) = AV.i IntKind.i64 (↑v.length : Int)) ∧ (AV.b (decide (i_0 < (↑v.length : Int))) = AV.b (decide (i_0 < (↑v.length : Int)))) ∧ (AV.b (decide (i_0 < (↑v.length : Int))) = AV.b (decide (i_0 < (16 : Int) ∧ i_0 < (↑v.length : Int))))) (σ' := ⟨[(0, .sl (List.map c3 v)), (2, .ptr (2) (0) (0) (0)), (3, .ptr (3) (0) (0) (0)), (4, .i .i64 (i_0)), (13, .b (decide (i_0 < (16 : Int) ∧ i_0 < (↑v.length : Int))))], [(2, ⟨0, 61, .arr (cA (AV.i IntKind.i64) a_1)⟩), (3, ⟨0, 61, .arr (cA (AV.i IntKind.i64) b_2)⟩)]⟩) cx [(1, { tell := some (.b (true)) }), (5, { tell := some (.i .i64 ((↑v.length : Int))) }), (6, { tell := some (.b (decide (i_0 < (↑v.length : Int)))) }), (7, { tell := some (.b (decide (i_0 < (16 : Int) ∧ i_0 < (↑v.length : Int)))) })] [0, 2, 3, 4, 13] [2, 3] (by kernel_rfl) (by kernel_rfl) ⟨(told_true h_8), (told_len c3 v), (by kernel_rfl), (by simp only [eq_true h_8, told_simp1, told_simp2, and_true, true_and, and_false, false_and, or_true, true_or, or_false, false_or, not_true_eq_false, not_false_eq_true, decide_true, decide_false, Bool.decide_eq_true])⟩ ?_
      exact ⟨rfl, rfl⟩
    ·
      refine st_reg (A := (AV.b (decide (i_0 < (16 : Int))) = AV.b false) ∧ (AV.b false = AV.b (decide (i_0 < (16 : Int) ∧ i_0 < (↑v.length : Int))))) (σ' := ⟨[(0, .sl (List.map c3 v)), (2, .ptr (2) (0) (0) (0)), (3, .ptr (3) (0) (0) (0)), (4, .i .i64 (i_0)), (13, .b (decide (i_0 < (16 : Int) ∧ i_0 < (↑v.length : Int))))], [(2, ⟨0, 61, .arr (cA (AV.i IntKind.i64) a_1)⟩), (3, ⟨0, 61, .arr (cA (AV.i IntKind.i64) b_2)⟩)]⟩) cx [(1, { tell := some (.b (false)) }), (7, { tell := some (.b (decide (i_0 < (16 : Int) ∧ i_0 < (↑v.length : Int)))) })] [0, 2, 3, 4, 13] [2, 3] (by kernel_rfl) (by kernel_rfl) ⟨(told_false h_8), (by simp only [eq_false h_8, told_simp1, told_simp2, and_true, true_and, and_false, false_and, or_true, true_or, or_false, false_or, not_true_eq_false, not_false_eq_true, decide_true, decide_false, Bool.decide_eq_true])⟩ ?_
      exact ⟨rfl, rfl⟩
  ·
    refine q_seq_normal ?_
    refine st_dec (i_0 < (16 : Int) ∧ i_0 < (↑v.length : Int)) (by kernel_rfl) (by kernel_rfl) (fun h_9 => ?_) (fun h_9 => ?_)
    ·
      refine st_skip (by kernel_rfl) ?_
      refine q_seq_normal ?_
      refine st_seq (by kernel_rfl) ?_
      refine st_block 1 (by kernel_rfl) ?_
      refine st_seq (by kernel_rfl) ?_
      refine st_reg (A := ((0 : Int) ≤ i_0) ∧ ((List.map c3 v)[i_0.toNat]? = some (c3 v[i_0.toNat]!)) ∧ ((c3 v[i_0.toNat]!).length = (1 : Nat))) (σ' := ⟨[(0, .sl (List.map c3 v)), (2, .ptr (2) (0) (0) (0)), (3, .ptr (3) (0) (0) (0)), (4, .i .i64 (i_0)), (5, .i .i64 (v[i_0.toNat]!))], [(2, ⟨0, 61, .arr (cA (AV.i IntKind.i64) a_1)⟩), (3, ⟨0, 61, .arr (cA (AV.i IntKind.i64) b_2)⟩)]⟩) cx [(2, { row := (c3 v[i_0.toNat]!) })] [0, 2, 3, 4, 5] [2, 3] (by kernel_rfl) (by kernel_rfl) ⟨(by (with_reducible assumption)), (by (with_reducible refine get_map ?_; omega)), (by kernel_rfl)⟩ ?_
      refine q_seq_normal ?_
      refine st_seq (by kernel_rfl) ?_
      refine st_seq (by kernel_rfl) ?_
      refine st_reg (A := (AV.b (decide (v[i_0.toNat]! < (0 : Int))) = AV.b (decide (v[i_0.toNat]! < (0 : Int))))) (σ' := ⟨[(0, .sl (List.map c3 v)), (2, .ptr (2) (0) (0) (0)), (3, .ptr (3) (0) (0) (0)), (4, .i .i64 (i_0)), (5, .i .i64 (v[i_0.toNat]!)), (21, .b (decide (v[i_0.toNat]! < (0 : Int))))], [(2, ⟨0, 61, .arr (cA (AV.i IntKind.i64) a_1)⟩), (3, ⟨0, 61, .arr (cA (AV.i IntKind.i64) b_2)⟩)]⟩) cx [(1, { tell := some (.b (decide (v[i_0.toNat]! < (0 : Int)))) })] [0, 2, 3, 4, 5, 21] [2, 3] (by kernel_rfl) (by kernel_rfl) (by kernel_rfl) ?_
      refine q_seq_normal ?_
      refine st_dec (v[i_0.toNat]! < (0 : Int)) (by kernel_rfl) (by kernel_rfl) (fun h_10 => ?_) (fun h_10 => ?_)
      ·
        refine st_reg (A := True) (σ' := ⟨[(0, .sl (List.map c3 v)), (2, .ptr (2) (0) (0) (0)), (3, .ptr (3) (0) (0) (0)), (4, .i .i64 (i_0)), (5, .i .i64 ((0 : Int)))], [(2, ⟨0, 61, .arr (cA (AV.i IntKind.i64) a_1)⟩), (3, ⟨0, 61, .arr (cA (AV.i IntKind.i64) b_2)⟩)]⟩) cx [] [0, 2, 3, 4, 5] [2, 3] (by kernel_rfl) (by kernel_rfl) trivial ?_
        refine q_seq_normal ?_
        refine st_seq (by kernel_rfl) ?_
        refine st_seq (by kernel_rfl) ?_
        refine st_reg (A := True) (σ' := ⟨[(0, .sl (List.map c3 v)), (2, .ptr (2) (0) (0) (0)), (3, .ptr (3) (0) (0) (0)), (4, .i .i64 (i_0)), (5, .i .i64 ((0 : Int))), (23, .b (false))], [(2, ⟨0, 61, .arr (cA (AV.i IntKind.i64) a_1)⟩), (3, ⟨0, 61, .arr (cA (AV.i IntKind.i64) b_2)⟩)]⟩) cx [] [0, 2, 3, 4, 5, 23] [2, 3] (by kernel_rfl) (by kernel_rfl) trivial ?_
        refine q_seq_normal ?_
        refine st_false (by kernel_rfl) (by kernel_rfl) ?_
        refine st_skip (by kernel_rfl) ?_
        refine q_seq_normal ?_
        refine st_reg (A := ((0 : Int) ≤ i_0) ∧ (i_0 < (↑(16 : Nat) : Int)) ∧ (i_0.toNat * (1 : Nat) + 0 < (cA (AV.i IntKind.i64) b_2).length) ∧ (cellsA (AV.i IntKind.i64 (0 : Int)) = [(cellsA (AV.i IntKind.i64 (0 : Int))).headD AV.dead]) ∧ ((cA (AV.i IntKind.i64) b_2).set (i_0.toNat * (1 : Nat) + 0) ((cellsA (AV.i IntKind.i64 (0 : Int))).headD AV.dead) = cA (AV.i IntKind.i64) (b_2.setIfInBounds i_0.toNat (0 : Int)))) (σ' := ⟨[(0, .sl (List.map c3 v)), (2, .ptr (2) (0) (0) (0)), (3, .ptr (3) (0) (0) (0)), (4, .i .i64 (i_0))], [(2, ⟨0, 61, .arr (cA (AV.i IntKind.i64) a_1)⟩), (3, ⟨0, 61, .arr (cA (AV.i IntKind.i64) (b_2.setIfInBounds i_0.toNat (0 : Int)))⟩)]⟩) cx [(3, { rows := some [(cA (AV.i IntKind.i64) (b_2.setIfInBounds i_0.toNat (0 : Int)))] })] [0, 2, 3, 4] [2, 3] (by kernel_rfl) (by kernel_rfl) ⟨(by (with_reducible assumption)), (by omega), (by (simp only [List.length_set, List.length_map, List.length_append, List.length_replicate, List.length_cons, List.length_nil, Go.maxLen, Nat.mul_one, Nat.add_zero, Nat.zero_add, Nat.one_mul, len_cA]; omega)), (by kernel_rfl), (by (simp only [Nat.mul_one, Nat.add_zero, Nat.zero_add]; with_reducible refine set_cA ?_; kernel_rfl))⟩ ?_
        refine q_blk_normal ?_
        refine q_seq_normal ?_
        refine st_reg (A := (AV.i IntKind.i64 (IntKind.i64.wrap (i_0 + (1 : Int))) = AV.i IntKind.i64 (i_0 + (1 : Int)))) (σ' := ⟨[(0, .sl (List.map c3 v)), (2, .ptr (2) (0) (0) (0)), (3, .ptr (3) (0) (0) (0)), (4, .i .i64 (i_0 + (1 : Int)))], [(2, ⟨0, 61, .arr (cA (AV.i IntKind.i64) a_1)⟩), (3, ⟨0, 61, .arr (cA (AV.i IntKind.i64) (b_2.setIfInBounds i_0.toNat (0 : Int)))⟩)]⟩) cx [(1, { tell := some (.i .i64 (i_0 + (1 : Int))) })] [0, 2, 3, 4] [2, 3] (by kernel_rfl) (by kernel_rfl) (told_i64 (by omega) (by omega)) ?_
        refine q_seq_normal ?_
        exact loop_next ((i_0 + (1 : Int), a_1, b_2.setIfInBounds i_0.toNat (0 : Int))) (by kernel_rfl) (show ((16 : Int) - (i_0 + (1 : Int))).toNat < ((16 : Int) - i_0).toNat from (by omega)) (g1 i_0 a_1 b_2 h_4 h_5 h_6 h_9 h_10)
      ·
        refine st_skip (by kernel_rfl) ?_
        refine q_seq_normal ?_
        refine st_seq (by kernel_rfl) ?_
        refine st_seq (by kernel_rfl) ?_
        refine st_reg (A := (AV.b (decide (v[i_0.toNat]! > (1000000000 : Int))) = AV.b (decide ((1000000000 : Int) < v[i_0.toNat]!)))) (σ' := ⟨[(0, .sl (List.map c3 v)), (2, .ptr (2) (0) (0) (0)), (3, .ptr (3) (0) (0) (0)), (4, .i .i64 (i_0)), (5, .i .i64 (v[i_0.toNat]!)), (23, .b (decide ((1000000000 : Int) < v[i_0.toNat]!)))], [(2, ⟨0, 61, .arr (cA (AV.i IntKind.i64) a_1)⟩), (3, ⟨0, 61, .arr (cA (AV.i IntKind.i64) b_2)⟩)]⟩) cx [(1, { tell := some (.b (decide ((1000000000 : Int) < v[i_0.toNat]!))) })] [0, 2, 3, 4, 5, 23] [2, 3] (by kernel_rfl) (by kernel_rfl) (by kernel_rfl) ?_
        refine q_seq_normal ?_
        refine st_dec ((1000000000 : Int) < v[i_0.toNat]!) (by kernel_rfl) (by kernel_rfl) (fun h_11 => ?_) (fun h_11 => ?_)
        ·
          refine st_reg (A := True) (σ' := ⟨[(0, .sl (List.map c3 v)), (2, .ptr (2) (0) (0) (0)), (3, .ptr (3) (0) (0) (0)), (4, .i .i64 (i_0)), (5, .i .i64 ((1000000000 : Int)))], [(2, ⟨0, 61, .arr (cA (AV.i IntKind.i64) a_1)⟩), (3, ⟨0, 61, .arr (cA (AV.i IntKind.i64) b_2)⟩)]⟩) cx [] [0, 2, 3, 4, 5] [2, 3] (by kernel_rfl) (by kernel_rfl) trivial ?_
          refine q_seq_normal ?_
          refine st_reg (A := ((0 : Int) ≤ i_0) ∧ (i_0 < (↑(16 : Nat) : Int)) ∧ (i_0.toNat * (1 : Nat) + 0 < (cA (AV.i IntKind.i64) b_2).length) ∧ (cellsA (AV.i IntKind.i64 (1000000000 : Int)) = [(cellsA (AV.i IntKind.i64 (1000000000 : Int))).headD AV.dead]) ∧ ((cA (AV.i IntKind.i64) b_2).set (i_0.toNat * (1 : Nat) + 0) ((cellsA (AV.i IntKind.i64 (1000000000 : Int))).headD AV.dead) = cA (AV.i IntKind.i64) (b_2.setIfInBounds i_0.toNat (1000000000 : Int)))) (σ' := ⟨[(0, .sl (List.map c3 v)), (2, .ptr (2) (0) (0) (0)), (3, .ptr (3) (0) (0) (0)), (4, .i .i64 (i_0))], [(2, ⟨0, 61, .arr (cA (AV.i IntKind.i64) a_1)⟩), (3, ⟨0, 61, .arr (cA (AV.i IntKind.i64) (b_2.setIfInBounds i_0.toNat (1000000000 : Int)))⟩)]⟩) cx [(3, { rows := some [(cA (AV.i IntKind.i64) (b_2.setIfInBounds i_0.toNat (1000000000 : Int)))] })] [0, 2, 3, 4] [2, 3] (by kernel_rfl) (by kernel_rfl) ⟨(by (with_reducible assumption)), (by omega), (by (simp only [List.length_set, List.length_map, List.length_append, List.length_replicate, List.length_cons, List.length_nil, Go.maxLen, Nat.mul_one, Nat.add_zero, Nat.zero_add, Nat.one_mul, len_cA]; omega)), (by kernel_rfl), (by (simp only [Nat.mul_one, Nat.add_zero, Nat.zero_add]; with_reducible refine set_cA ?_; kernel_rfl))⟩ ?_
          refine q_blk_normal ?_
          refine q_seq_normal ?_
          refine st_reg (A := (AV.i IntKind.i64 (IntKind.i64.wrap (i_0 + (1 : Int))) = AV.i IntKind.i64 (i_0 + (1 : Int)))) (σ' := ⟨[(0, .sl (List.map c3 v)), (2, .ptr (2) (0) (0) (0)), (3, .ptr (3) (0) (0) (0)), (4, .i .i64 (i_0 + (1 : Int)))], [(2, ⟨0, 61, .arr (cA (AV.i IntKind.i64) a_1)⟩), (3, ⟨0, 61, .arr (cA (AV.i IntKind.i64) (b_2.setIfInBounds i_0.toNat (1000000000 : Int)))⟩)]⟩) cx [(1, { tell := some (.i .i64 (i_0 + (1 : Int))) })] [0, 2, 3, 4] [2, 3] (by kernel_rfl) (by kernel_rfl) (told_i64 (by omega) (by omega)) ?_
          refine q_seq_normal ?_
          exact loop_next ((i_0 + (1 : Int), a_1, b_2.setIfInBounds i_0.toNat (1000000000 : Int))) (by kernel_rfl) (show ((16 : Int) - (i_0 + (1 : Int))).toNat < ((16 : Int) - i_0).toNat from (by omega)) (g2 i_0 a_1 b_2 h_4 h_5 h_6 h_9 h_10 h_11)
        ·
          refine st_skip (by kernel_rfl) ?_
          refine q_seq_normal ?_
          refine st_reg (A := ((0 : Int) ≤ i_0) ∧ (i_0 < (↑(16 : Nat) : Int)) ∧ (i_0.toNat * (1 : Nat) + 0 < (cA (AV.i IntKind.i64) b_2).length) ∧ (cellsA (AV.i IntKind.i64 v[i_0.toNat]!) = [(cellsA (AV.i IntKind.i64 v[i_0.toNat]!)).headD AV.dead]) ∧ ((cA (AV.i IntKind.i64) b_2).set (i_0.toNat * (1 : Nat) + 0) ((cellsA (AV.i IntKind.i64 v[i_0.toNat]!)).headD AV.dead) = cA (AV.i IntKind.i64) (b_2.setIfInBounds i_0.toNat v[i_0.toNat]!))) (σ' := ⟨[(0, .sl (List.map c3 v)), (2, .ptr (2) (0) (0) (0)), (3, .ptr (3) (0) (0) (0)), (4, .i .i64 (i_0))], [(2, ⟨0, 61, .arr (cA (AV.i IntKind.i64) a_1)⟩), (3, ⟨0, 61, .arr (cA (AV.i IntKind.i64) (b_2.setIfInBounds i_0.toNat v[i_0.toNat]!))⟩)]⟩) cx [(3, { rows := some [(cA (AV.i IntKind.i64) (b_2.setIfInBounds i_0.toNat v[i_0.toNat]!))] })] [0, 2, 3, 4] [2, 3] (by kernel_rfl) (by kernel_rfl) ⟨(by (with_reducible assumption)), (by omega), (by (simp only [List.length_set, List.length_map, List.length_append, List.length_replicate, List.length_cons, List.length_nil, Go.maxLen, Nat.mul_one, Nat.add_zero, Nat.zero_add, Nat.one_mul, len_cA]; omega)), (by kernel_rfl), (by (simp only [Nat.mul_one, Nat.add_zero, Nat.zero_add]; with_reducible refine set_cA ?_; kernel_rfl))⟩ ?_
          refine q_blk_normal ?_
          refine q_seq_normal ?_
          refine st_reg (A := (AV.i IntKind.i64 (IntKind.i64.wrap (i_0 + (1 : Int))) = AV.i IntKind.i64 (i_0 + (1 : Int)))) (σ' := ⟨[(0, .sl (List.map c3 v)), (2, .ptr (2) (0) (0) (0)), (3, .ptr (3) (0) (0) (0)), (4, .i .i64 (i_0 + (1 : Int)))], [(2, ⟨0, 61, .arr (cA (AV.i IntKind.i64) a_1)⟩), (3, ⟨0, 61, .arr (cA (AV.i IntKind.i64) (b_2.setIfInBounds i_0.toNat v[i_0.toNat]!))⟩)]⟩) cx [(1, { tell := some (.i .i64 (i_0 + (1 : Int))) })] [0, 2, 3, 4] [2, 3] (by kernel_rfl) (by kernel_rfl) (told_i64 (by omega) (by omega)) ?_
          refine q_seq_normal ?_
          exact loop_next ((i_0 + (1 : Int), a_1, b_2.setIfInBounds i_0.toNat v[i_0.toNat]!)) (by kernel_rfl) (show ((16 : Int) - (i_0 + (1 : Int))).toNat < ((16 : Int) - i_0).toNat from (by omega)) (g3 i_0 a_1 b_2 h_4 h_5 h_6 h_9 h_10 h_11)
    ·
      refine st_exit 0 (by kernel_rfl) ?_
      refine q_seq_exit ?_
      refine q_seq_exit ?_
      refine q_blk_hit ?_
      refine q_seq_normal ?_
      refine st_seq (by kernel_rfl) ?_
      refine st_reg (A := ((cA (AV.i IntKind.i64) b_2).length = (16 : Nat)) ∧ ((cA (AV.i IntKind.i64) b_2).length = (cA (AV.i IntKind.i64) a_1).length) ∧ ((cA (AV.i IntKind.i64) b_2).length = (16 : Nat))) (σ' := ⟨[(2, .ptr (2) (0) (0) (0))], [(2, ⟨0, 61, .arr (cA (AV.i IntKind.i64) b_2)⟩)]⟩) cx [] [2] [2] (by kernel_rfl) (by kernel_rfl) ⟨(by (simp only [len_cA]; done)), (by (simp only [len_cA]; done)), (by (simp only [len_cA]; done))⟩ ?_
      refine q_seq_normal ?_
      refine st_ret (by kernel_rfl) ?_
      exact q_ret (r := .agg (cA (AV.i IntKind.i64) b_2)) (obl := [(cA (AV.i IntKind.i64) b_2).length = (16 : Nat)]) (by kernel_rfl) (show ((cA (AV.i IntKind.i64) b_2).length = (16 : Nat)) from (by (simp only [len_cA]; done))) (AVle.eq (g4 i_0 a_1 b_2 h_4 h_5 h_6 h_9))
theorem con50 (v : List Int) : Con Try.prog 50 [.sl (v.map c3)] (.agg (c61 (of v))) :=
  walk50 v (inv49_init v)
    (fun i0 a1 b2 h1 h2 h3 hi hx => ⟨by omega, by omega, of_step h1 h3 hi.1 (by rw [getD_bang]; simp only [cap]; omega)⟩)
    (fun i0 a1 b2 h1 h2 h3 hi hx hy => ⟨by omega, by omega, of_step h1 h3 hi.1 (by rw [getD_bang]; simp only [cap]; omega)⟩)
    (fun i0 a1 b2 h1 h2 h3 hi hx hy => ⟨by omega, by omega, of_step h1 h3 hi.1 (by rw [getD_bang]; simp only [cap]; omega)⟩)
    (fun i0 a1 b2 h1 h2 h3 hi => by rw [of_done h3 (by omega)]; rfl)
theorem walk15 (v : List Int) (rep : Int)
    (g0 : rep < (0 : Int) ∨ (16 : Int) ≤ rep → AV.i IntKind.i64 (0 : Int) = AV.i IntKind.i64 (at' v rep))
    (g1 : ¬(rep < (0 : Int) ∨ (16 : Int) ≤ rep) → AV.i IntKind.i64 (of v)[rep.toNat]! = AV.i IntKind.i64 (at' v rep)) :
    Con Try.prog (15 : FuncId) [AV.sl (List.map c3 v), AV.i IntKind.i64 rep] (AV.i IntKind.i64 (at' v rep)) := by
  refine con_lens 0 (c3) (v) (by kernel_rfl) Go.Proofs.Try.func15 (by kernel_rfl) fun hl_0 => ?_
  refine st_con tab_ok (by kernel_rfl) [.tmp 4] 15 Go.Proofs.Try.func15 (by kernel_rfl) (by kernel_rfl) ?_
  intro e0 cx
  refine st_seq (by kernel_rfl) ?_
  refine st_reg (A := True) (σ' := ⟨[(0, .sl (List.map c3 v)), (1, .i .i64 (rep))], []⟩) cx [] [0, 1] [] (by kernel_rfl) (by kernel_rfl) trivial ?_
  refine q_seq_normal ?_
  refine st_seq (by kernel_rfl) ?_
  refine st_seq (by kernel_rfl) ?_
  refine st_join (σ' := ⟨[(0, .sl (List.map c3 v)), (1, .i .i64 (rep)), (10, .b (decide (rep < (0 : Int) ∨ (16 : Int) ≤ rep)))], []⟩) ?_ ?_
  ·
    refine st_split (rep < (0 : Int)) (fun h_1 => ?_) (fun h_1 => ?_)
    ·
      refine st_reg (A := (AV.b (decide (rep < (0 : Int))) = AV.b true) ∧ (AV.b true = AV.b (decide (rep < (0 : Int) ∨ (16 : Int) ≤ rep)))) (σ' := ⟨[(0, .sl (List.map c3 v)), (1, .i .i64 (rep)), (10, .b (decide (rep < (0 : Int) ∨ (16 : Int) ≤ rep)))], []⟩) cx [(1, { tell := some (.b (true)) }), (5, { tell := some (.b (decide (rep < (0 : Int) ∨ (16 : Int) ≤ rep))) })] [0, 1, 10] [] (by kernel_rfl) (by kernel_rfl) ⟨(told_true h_1), (by simp only [eq_true h_1, told_simp1, told_simp2, and_true, true_and, and_false, false_and, or_true, true_or, or_false, false_or, not_true_eq_false, not_false_eq_true, decide_true, decide_false, Bool.decide_eq_true])⟩ ?_
      exact ⟨rfl, rfl⟩
    ·
      refine st_reg (A := (AV.b (decide (rep < (0 : Int))) = AV.b false) ∧ (AV.b (decide (rep ≥ (16 : Int))) = AV.b (decide ((16 : Int) ≤ rep))) ∧ (AV.b (decide ((16 : Int) ≤ rep)) = AV.b (decide (rep < (0 : Int) ∨ (16 : Int) ≤ rep)))) (σ' := ⟨[(0, .sl (List.map c3 v)), (1, .i .i64 (rep)), (10, .b (decide (rep < (0 : Int) ∨ (16 : Int) ≤ rep)))], []⟩) cx [(1, { tell := some (.b (false)) }), (4, { tell := some (.b (decide ((16 : Int) ≤ rep))) }), (5, { tell := some (.b (decide (rep < (0 : Int) ∨ (16 : Int) ≤ rep))) })] [0, 1, 10] [] (by kernel_rfl) (by kernel_rfl) ⟨(told_false h_1), (by kernel_rfl), (by simp only [eq_false h_1, told_simp1, told_simp2, and_true, true_and, and_false, false_and, or_true, true_or, or_false, false_or, not_true_eq_false, not_false_eq_true, decide_true, decide_false, Bool.decide_eq_true])⟩ ?_
      exact ⟨rfl, rfl⟩
  ·
    refine q_seq_normal ?_
    refine st_dec (rep < (0 : Int) ∨ (16 : Int) ≤ rep) (by kernel_rfl) (by kernel_rfl) (fun h_2 => ?_) (fun h_2 => ?_)
    ·
      refine st_seq (by kernel_rfl) ?_
      refine st_reg (A := True) (σ' := ⟨[(4, .i .i64 ((0 : Int)))], []⟩) cx [] [4] [] (by kernel_rfl) (by kernel_rfl) trivial ?_
      refine q_seq_normal ?_
      refine st_ret (by kernel_rfl) ?_
      refine q_seq_ret ?_
      exact q_ret (r := .i .i64 ((0 : Int))) (obl := []) (by kernel_rfl) trivial (AVle.eq (g0 h_2))
    ·
      refine st_skip (by kernel_rfl) ?_
      refine q_seq_normal ?_
      refine st_seq (by kernel_rfl) ?_
      refine st_reg (A := (Con Try.prog (49 : FuncId) [AV.sl (List.map c3 v)] (AV.agg (c62 (of v)))) ∧ ((0 : Int) ≤ rep) ∧ (rep < (↑(16 : Nat) : Int)) ∧ ((cA (AV.i IntKind.i64) (of v))[rep.toNat * (1 : Nat)]? = some (AV.i IntKind.i64 (of v)[rep.toNat]!))) (σ' := ⟨[(4, .i .i64 ((of v)[rep.toNat]!))], []⟩) cx [(1, { val := some (.agg (cA (AV.i IntKind.i64) (of v))) }), (3, { row := [.i .i64 ((of v)[rep.toNat]!)] })] [4] [] (by kernel_rfl) (by kernel_rfl) ⟨(con49 (v)), (by omega), (by omega), (by (simp only [Nat.mul_one, Nat.add_zero, Nat.zero_add]; with_reducible refine get_cA ?_; omega))⟩ ?_
      refine q_seq_normal ?_
      refine st_ret (by kernel_rfl) ?_
      exact q_ret (r := .i .i64 ((of v)[rep.toNat]!)) (obl := []) (by kernel_rfl) trivial (AVle.eq (g1 h_2))
theorem con15 (v : List Int) (rep : Int) : Con Try.prog 15 [.sl (v.map c3), .i .i64 rep] (.i .i64 (at' v rep)) :=
  walk15 v rep (fun h => by rw [at_out (by omega)]) (fun h => by rw [at_in (by omega)])
theorem walk17 (v : List Int) (rep : Int)
    (g0 : rep < (0 : Int) ∨ (16 : Int) ≤ rep → AV.i IntKind.i64 (0 : Int) = AV.i IntKind.i64 (at' v rep))
    (g1 : ¬(rep < (0 : Int) ∨ (16 : Int) ≤ rep) → AV.i IntKind.i64 (of v)[rep.toNat]! = AV.i IntKind.i64 (at' v rep)) :
    Con Try.prog (17 : FuncId) [AV.sl (List.map c3 v), AV.i IntKind.i64 rep] (AV.i IntKind.i64 (at' v rep)) := by
  refine con_lens 0 (c3) (v) (by kernel_rfl) Go.Proofs.Try.func17 (by kernel_rfl) fun hl_0 => ?_
  refine st_con tab_ok (by kernel_rfl) [.tmp 4] 17 Go.Proofs.Try.func17 (by kernel_rfl) (by kernel_rfl) ?_
  intro e0 cx
  refine st_seq (by kernel_rfl) ?_
  refine st_reg (A := True) (σ' := ⟨[(0, .sl (List.map c3 v)), (1, .i .i64 (rep))], []⟩) cx [] [0, 1] [] (by kernel_rfl) (by kernel_rfl) trivial ?_
  refine q_seq_normal ?_
  refine st_seq (by kernel_rfl) ?_
  refine st_seq (by kernel_rfl) ?_
  refine st_join (σ' := ⟨[(0, .sl (List.map c3 v)), (1, .i .i64 (rep)), (11, .b (decide (rep < (0 : Int) ∨ (16 : Int) ≤ rep)))], []⟩) ?_ ?_
  ·
    refine st_split (rep < (0 : Int)) (fun h_1 => ?_) (fun h_1 => ?_)
    ·
      refine st_reg (A := (AV.b (decide (rep < (0 : Int))) = AV.b true) ∧ (AV.b true = AV.b (decide (rep < (0 : Int) ∨ (16 : Int) ≤ rep)))) (σ' := ⟨[(0, .sl (List.map c3 v)), (1, .i .i64 (rep)), (11, .b (decide (rep < (0 : Int) ∨ (16 : Int) ≤ rep)))], []⟩) cx [(1, { tell := some (.b (true)) }), (5, { tell := some (.b (decide (rep < (0 : Int) ∨ (16 : Int) ≤ rep))) })] [0, 1, 11] [] (by kernel_rfl) (by kernel_rfl) ⟨(told_true h_1), (by simp only [eq_true h_1, told_simp1, told_simp2, and_true, true_and, and_false, false_and, or_true, true_or, or_false, false_or, not_true_eq_false, not_false_eq_true, decide_true, decide_false, Bool.decide_eq_true])⟩ ?_
      exact ⟨rfl, rfl⟩
    ·
      refine st_reg (A := (AV.b (decide (rep < (0 : Int))) = AV.b false) ∧ (AV.b (decide (rep ≥ (16 : Int))) = AV.b (decide ((16 : Int) ≤ rep))) ∧ (AV.b (decide ((16 : Int) ≤ rep)) = AV.b (decide (rep < (0 : Int) ∨ (16 : Int) ≤ rep)))) (σ' := ⟨[(0, .sl (List.map c3 v)), (1, .i .i64 (rep)), (11, .b (decide (rep < (0 : Int) ∨ (16 : Int) ≤ rep)))], []⟩) cx [(1, { tell := some (.b (false)) }), (4, { tell := some (.b (decide ((16 : Int) ≤ rep))) }), (5, { tell := some (.b (decide (rep < (0 : Int) ∨ (16 : Int) ≤ rep))) })] [0, 1, 11] [] (by kernel_rfl) (by kernel_rfl) ⟨(told_false h_1), (by kernel_rfl), (by simp only [eq_false h_1, told_simp1, told_simp2, and_true, true_and, and_false, false_and, or_true, true_or, or_false, false_or, not_true_eq_false, not_false_eq_true, decide_true, decide_false, Bool.decide_eq_true])⟩ ?_
      exact ⟨rfl, rfl⟩
  ·
    refine q_seq_normal ?_
    refine st_dec (rep < (0 : Int) ∨ (16 : Int) ≤ rep) (by kernel_rfl) (by kernel_rfl) (fun h_2 => ?_) (fun h_2 => ?_)
    ·
      refine st_seq (by kernel_rfl) ?_
      refine st_reg (A := True) (σ' := ⟨[(4, .i .i64 ((0 : Int)))], []⟩) cx [] [4] [] (by kernel_rfl) (by kernel_rfl) trivial ?_
      refine q_seq_normal ?_
      refine st_ret (by kernel_rfl) ?_
      refine q_seq_ret ?_
      exact q_ret (r := .i .i64 ((0 : Int))) (obl := []) (by kernel_rfl) trivial (AVle.eq (g0 h_2))
    ·
      refine st_skip (by kernel_rfl) ?_
      refine q_seq_normal ?_
      refine st_seq (by kernel_rfl) ?_
      refine st_reg (A := (Con Try.prog (50 : FuncId) [AV.sl (List.map c3 v)] (AV.agg (c61 (of v)))) ∧ ((cA (AV.i IntKind.i64) (of v)).length = (cA (AV.i IntKind.i64) (Vector.replicate (16 : Nat) (0 : Int))).length) ∧ ((cA (AV.i IntKind.i64) (of v)).length = (16 : Nat))) (σ' := ⟨[(1, .i .i64 (rep)), (5, .ptr (5) (0) (0) (0))], [(5, ⟨0, 61, .arr (cA (AV.i IntKind.i64) (of v))⟩)]⟩) cx [(1, { val := some (.agg (cA (AV.i IntKind.i64) (of v))) })] [1, 5] [5] (by kernel_rfl) (by kernel_rfl) ⟨(con50 (v)), (by kernel_rfl), (by kernel_rfl)⟩ ?_
      refine q_seq_normal ?_
      refine st_seq (by kernel_rfl) ?_
      refine st_reg (A := ((0 : Int) ≤ rep) ∧ (rep < (↑(16 : Nat) : Int)) ∧ ((cA (AV.i IntKind.i64) (of v))[rep.toNat * (1 : Nat) + 0]? = some (AV.i IntKind.i64 (of v)[rep.toNat]!))) (σ' := ⟨[(4, .i .i64 ((of v)[rep.toNat]!))], []⟩) cx [(2, { row := [.i .i64 ((of v)[rep.toNat]!)] })] [4] [] (by kernel_rfl) (by kernel_rfl) ⟨(by omega), (by omega), (by (simp only [Nat.mul_one, Nat.add_zero, Nat.zero_add]; with_reducible refine get_cA ?_; omega))⟩ ?_
      refine q_seq_normal ?_
      refine st_ret (by kernel_rfl) ?_
      exact q_ret (r := .i .i64 ((of v)[rep.toNat]!)) (obl := []) (by kernel_rfl) trivial (AVle.eq (g1 h_2))
theorem con17 (v : List Int) (rep : Int) : Con Try.prog 17 [.sl (v.map c3), .i .i64 rep] (.i .i64 (at' v rep)) :=
  walk17 v rep (fun h => by rw [at_out (by omega)]) (fun h => by rw [at_in (by omega)])
theorem walk16 (v : List Int) (d : Dot)
    (g0 : AV.b (decide ((1 : Int) ≤ d.num ∧ d.num ≤ at' v d.rep)) = AV.b (has v d)) :
    Con Try.prog (16 : FuncId) [AV.sl (List.map c3 v), AV.agg (c24 d)] (AV.b (has v d)) := by
  refine con_lens 0 (c3) (v) (by kernel_rfl) Go.Proofs.Try.func16 (by kernel_rfl) fun hl_0 => ?_
  refine st_con tab_ok (by kernel_rfl) [.tmp 4] 17 Go.Proofs.Try.func16 (by kernel_rfl) (by kernel_rfl) ?_
  intro e0 cx
  refine st_seq (by kernel_rfl) ?_
  refine st_reg (A := True) (σ' := ⟨[(0, .sl (List.map c3 v)), (3, .ptr (3) (0) (0) (0))], [(3, ⟨0, 24, .var [.i .i64 (d.rep), .i .i64 (d.num)]⟩)]⟩) cx [] [0, 3] [3] (by kernel_rfl) (by kernel_rfl) trivial ?_
  refine q_seq_normal ?_
  refine st_seq (by kernel_rfl) ?_
  refine st_join (σ' := ⟨[(4, .b (decide ((1 : Int) ≤ d.num ∧ d.num ≤ at' v d.rep)))], []⟩) ?_ ?_
  ·
    refine st_split ((1 : Int) ≤ d.num) (fun h_1 => ?_) (fun h_1 => ?_)
    ·
      refine st_any (A := (AV.b (decide (d.num ≥ (1 : Int))) = AV.b true) ∧ (Con Try.prog (15 : FuncId) [AV.sl (List.map c3 v), AV.i IntKind.i64 d.rep] (AV.i IntKind.i64 (at' v d.rep))) ∧ (AV.b (decide (d.num ≤ at' v d.rep)) = AV.b (decide (d.num ≤ at' v d.rep))) ∧ (AV.b (decide (d.num ≤ at' v d.rep)) = AV.b (decide ((1 : Int) ≤ d.num ∧ d.num ≤ at' v d.rep)))) (σ' := ⟨[(4, .b (decide ((1 : Int) ≤ d.num ∧ d.num ≤ at' v d.rep)))], []⟩) cx [(2, { tell := some (.b (true)) }), (9, { val := some (.i .i64 (at' v d.rep)) }), (10, { tell := some (.b (decide (d.num ≤ at' v d.rep))) }), (12, { tell := some (.b (decide ((1 : Int) ≤ d.num ∧ d.num ≤ at' v d.rep))) })] [4] [] (by kernel_rfl) (by kernel_rfl) ⟨(told_true h_1), (con15 (v) (d.rep)), (by kernel_rfl), (by simp only [eq_true h_1, told_simp1, told_simp2, and_true, true_and, and_false, false_and, or_true, true_or, or_false, false_or, not_true_eq_false, not_false_eq_true, decide_true, decide_false, Bool.decide_eq_true])⟩ ?_
      exact ⟨rfl, rfl⟩
    ·
      refine st_any (A := (AV.b (decide (d.num ≥ (1 : Int))) = AV.b false) ∧ (AV.b false = AV.b (decide ((1 : Int) ≤ d.num ∧ d.num ≤ at' v d.rep)))) (σ' := ⟨[(4, .b (decide ((1 : Int) ≤ d.num ∧ d.num ≤ at' v d.rep)))], []⟩) cx [(2, { tell := some (.b (false)) }), (12, { tell := some (.b (decide ((1 : Int) ≤ d.num ∧ d.num ≤ at' v d.rep))) })] [4] [] (by kernel_rfl) (by kernel_rfl) ⟨(told_false h_1), (by simp only [eq_false h_1, told_simp1, told_simp2, and_true, true_and, and_false, false_and, or_true, true_or, or_false, false_or, not_true_eq_false, not_false_eq_true, decide_true, decide_false, Bool.decide_eq_true])⟩ ?_
      exact ⟨rfl, rfl⟩
  ·
    refine q_seq_normal ?_
    refine st_ret (by kernel_rfl) ?_
    exact q_ret (r := .b (decide ((1 : Int) ≤ d.num ∧ d.num ≤ at' v d.rep))) (obl := []) (by kernel_rfl) trivial (AVle.eq g0)
theorem con16 (v : List Int) (d : Dot) : Con Try.prog 16 [.sl (v.map c3), .agg (c24 d)] (.b (has v d)) :=
  walk16 v d rfl
theorem walk18 (v : List Int) (d : Dot)
    (g0 : d.rep < (0 : Int) ∨ (16 : Int) ≤ d.rep ∨ d.num < (1 : Int) → AV.b false = AV.b (has v d))
    (g1 : ¬(d.rep < (0 : Int) ∨ (16 : Int) ≤ d.rep ∨ d.num < (1 : Int)) → AV.b (decide (d.num ≤ (of v)[d.rep.toNat]!)) = AV.b (has v d)) :
    Con Try.prog (18 : FuncId) [AV.sl (List.map c3 v), AV.agg (c24 d)] (AV.b (has v d)) := by
  refine con_lens 0 (c3) (v) (by kernel_rfl) Go.Proofs.Try.func18 (by kernel_rfl) fun hl_0 => ?_
  refine st_con tab_ok (by kernel_rfl) [.tmp 4] 28 Go.Proofs.Try.func18 (by kernel_rfl) (by kernel_rfl) ?_
  intro e0 cx
  refine st_seq (by kernel_rfl) ?_
  refine st_reg (A := True) (σ' := ⟨[(0, .sl (List.map c3 v)), (3, .ptr (3) (0) (0) (0))], [(3, ⟨0, 24, .var [.i .i64 (d.rep), .i .i64 (d.num)]⟩)]⟩) cx [] [0, 3] [3] (by kernel_rfl) (by kernel_rfl) trivial ?_
  refine q_seq_normal ?_
  refine st_seq (by kernel_rfl) ?_
  refine st_seq (by kernel_rfl) ?_
  refine st_join (σ' := ⟨[(0, .sl (List.map c3 v)), (3, .ptr (3) (0) (0) (0)), (18, .b (decide (d.rep < (0 : Int) ∨ (16 : Int) ≤ d.rep ∨ d.num < (1 : Int))))], [(3, ⟨0, 24, .var [.i .i64 (d.rep), .i .i64 (d.num)]⟩)]⟩) ?_ ?_
  ·
    refine st_split (d.rep < (0 : Int)) (fun h_1 => ?_) (fun h_1 => ?_)
    ·
      refine st_reg (A := (AV.b (decide (d.rep < (0 : Int))) = AV.b true) ∧ (AV.b true = AV.b (decide (d.rep < (0 : Int) ∨ (16 : Int) ≤ d.rep ∨ d.num < (1 : Int))))) (σ' := ⟨[(0, .sl (List.map c3 v)), (3, .ptr (3) (0) (0) (0)), (18, .b (decide (d.rep < (0 : Int) ∨ (16 : Int) ≤ d.rep ∨ d.num < (1 : Int))))], [(3, ⟨0, 24, .var [.i .i64 (d.rep), .i .i64 (d.num)]⟩)]⟩) cx [(2, { tell := some (.b (true)) }), (12, { tell := some (.b (decide (d.rep < (0 : Int) ∨ (16 : Int) ≤ d.rep ∨ d.num < (1 : Int)))) })] [0, 3, 18] [3] (by kernel_rfl) (by kernel_rfl) ⟨(told_true h_1), (by simp only [eq_true h_1, told_simp1, told_simp2, and_true, true_and, and_false, false_and, or_true, true_or, or_false, false_or, not_true_eq_false, not_false_eq_true, decide_true, decide_false, Bool.decide_eq_true])⟩ ?_
      exact ⟨rfl, rfl⟩
    ·
      refine st_split ((16 : Int) ≤ d.rep) (fun h_2 => ?_) (fun h_2 => ?_)
      ·
        refine st_reg (A := (AV.b (decide (d.rep < (0 : Int))) = AV.b false) ∧ (AV.b (decide (d.rep ≥ (16 : Int))) = AV.b true) ∧ (AV.b true = AV.b (decide (d.rep < (0 : Int) ∨ (16 : Int) ≤ d.rep ∨ d.num < (1 : Int))))) (σ' := ⟨[(0, .sl (List.map c3 v)), (3, .ptr (3) (0) (0) (0)), (18, .b (decide (d.rep < (0 : Int) ∨ (16 : Int) ≤ d.rep ∨ d.num < (1 : Int))))], [(3, ⟨0, 24, .var [.i .i64 (d.rep), .i .i64 (d.num)]⟩)]⟩) cx [(2, { tell := some (.b (false)) }), (6, { tell := some (.b (true)) }), (12, { tell := some (.b (decide (d.rep < (0 : Int) ∨ (16 : Int) ≤ d.rep ∨ d.num < (1 : Int)))) })] [0, 3, 18] [3] (by kernel_rfl) (by kernel_rfl) ⟨(told_false h_1), (told_true h_2), (by simp only [eq_false h_1, eq_true h_2, told_simp1, told_simp2, and_true, true_and, and_false, false_and, or_true, true_or, or_false, false_or, not_true_eq_false, not_false_eq_true, decide_true, decide_false, Bool.decide_eq_true])⟩ ?_
        exact ⟨rfl, rfl⟩
      ·
        refine st_reg (A := (AV.b (decide (d.rep < (0 : Int))) = AV.b false) ∧ (AV.b (decide (d.rep ≥ (16 : Int))) = AV.b false) ∧ (AV.b (decide (d.num < (1 : Int))) = AV.b (decide (d.num < (1 : Int)))) ∧ (AV.b (decide (d.num < (1 : Int))) = AV.b (decide (d.rep < (0 : Int) ∨ (16 : Int) ≤ d.rep ∨ d.num < (1 : Int))))) (σ' := ⟨[(0, .sl (List.map c3 v)), (3, .ptr (3) (0) (0) (0)), (18, .b (decide (d.rep < (0 : Int) ∨ (16 : Int) ≤ d.rep ∨ d.num < (1 : Int))))], [(3, ⟨0, 24, .var [.i .i64 (d.rep), .i .i64 (d.num)]⟩)]⟩) cx [(2, { tell := some (.b (false)) }), (6, { tell := some (.b (false)) }), (11, { tell := some (.b (decide (d.num < (1 : Int)))) }), (12, { tell := some (.b (decide (d.rep < (0 : Int) ∨ (16 : Int) ≤ d.rep ∨ d.num < (1 : Int)))) })] [0, 3, 18] [3] (by kernel_rfl) (by kernel_rfl) ⟨(told_false h_1), (told_false h_2), (by kernel_rfl), (by simp only [eq_false h_1, eq_false h_2, told_simp1, told_simp2, and_true, true_and, and_false, false_and, or_true, true_or, or_false, false_or, not_true_eq_false, not_false_eq_true, decide_true, decide_false, Bool.decide_eq_true])⟩ ?_
        exact ⟨rfl, rfl⟩
  ·
    refine q_seq_normal ?_
    refine st_dec (d.rep < (0 : Int) ∨ (16 : Int) ≤ d.rep ∨ d.num < (1 : Int)) (by kernel_rfl) (by kernel_rfl) (fun h_3 => ?_) (fun h_3 => ?_)
    ·
      refine st_seq (by kernel_rfl) ?_
      refine st_reg (A := True) (σ' := ⟨[(4, .b (false))], []⟩) cx [] [4] [] (by kernel_rfl) (by kernel_rfl) trivial ?_
      refine q_seq_normal ?_
      refine st_ret (by kernel_rfl) ?_
      refine q_seq_ret ?_
      exact q_ret (r := .b (false)) (obl := []) (by kernel_rfl) trivial (AVle.eq (g0 h_3))
    ·
      refine st_skip (by kernel_rfl) ?_
      refine q_seq_normal ?_
      refine st_seq (by kernel_rfl) ?_
      refine st_reg (A := (Con Try.prog (50 : FuncId) [AV.sl (List.map c3 v)] (AV.agg (c61 (of v)))) ∧ ((cA (AV.i IntKind.i64) (of v)).length = (cA (AV.i IntKind.i64) (Vector.replicate (16 : Nat) (0 : Int))).length) ∧ ((cA (AV.i IntKind.i64) (of v)).length = (16 : Nat))) (σ' := ⟨[(3, .ptr (3) (0) (0) (0)), (5, .ptr (5) (0) (0) (0))], [(3, ⟨0, 24, .var [.i .i64 (d.rep), .i .i64 (d.num)]⟩), (5, ⟨0, 61, .arr (cA (AV.i IntKind.i64) (of v))⟩)]⟩) cx [(1, { val := some (.agg (cA (AV.i IntKind.i64) (of v))) })] [3, 5] [3, 5] (by kernel_rfl) (by kernel_rfl) ⟨(con50 (v)), (by kernel_rfl), (by kernel_rfl)⟩ ?_
      refine q_seq_normal ?_
      refine st_seq (by kernel_rfl) ?_
      refine st_any (A := ((0 : Int) ≤ d.rep) ∧ (d.rep < (↑(16 : Nat) : Int)) ∧ ((cA (AV.i IntKind.i64) (of v))[d.rep.toNat * (1 : Nat) + 0]? = some (AV.i IntKind.i64 (of v)[d.rep.toNat]!)) ∧ (AV.b (decide (d.num ≤ (of v)[d.rep.toNat]!)) = AV.b (decide (d.num ≤ (of v)[d.rep.toNat]!)))) (σ' := ⟨[(4, .b (decide (d.num ≤ (of v)[d.rep.toNat]!)))], []⟩) cx [(5, { row := [.i .i64 ((of v)[d.rep.toNat]!)] }), (6, { tell := some (.b (decide (d.num ≤ (of v)[d.rep.toNat]!))) })] [4] [] (by kernel_rfl) (by kernel_rfl) ⟨(by omega), (by omega), (by (simp only [Nat.mul_one, Nat.add_zero, Nat.zero_add]; with_reducible refine get_cA ?_; omega)), (by kernel_rfl)⟩ ?_
      refine q_seq_normal ?_
      refine st_ret (by kernel_rfl) ?_
      exact q_ret (r := .b (decide (d.num ≤ (of v)[d.rep.toNat]!))) (obl := []) (by kernel_rfl) trivial (AVle.eq (g1 h_3))
theorem con18 (v : List Int) (d : Dot) : Con Try.prog 18 [.sl (v.map c3), .agg (c24 d)] (.b (has v d)) :=
  walk18 v d
    (fun h => by
      have : has v d = false := by
        unfold has; rw [decide_eq_false_iff_not]
        by_cases e : 0 ≤ d.rep ∧ d.rep < 16
        · omega
        · rw [at_out e]; omega
      rw [this])
    (fun h => by unfold has; rw [at_in (by omega)]; congr 1; rw [decide_eq_decide]; omega)
theorem walk3 (v : List Int) (d : Dot) :
    Con Try.prog (3 : FuncId) [AV.sl (List.map c3 v), AV.agg (c24 d)] (AV.b true) := by
  refine con_lens 0 (c3) (v) (by kernel_rfl) Go.Proofs.Try.func3 (by kernel_rfl) fun hl_0 => ?_
  refine st_con tab_ok (by kernel_rfl) [.tmp 4] 41 Go.Proofs.Try.func3 (by kernel_rfl) (by kernel_rfl) ?_
  intro e0 cx
  refine st_seq (by kernel_rfl) ?_
  refine st_reg (A := True) (σ' := ⟨[(0, .sl (List.map c3 v)), (3, .ptr (3) (0) (0) (0))], [(3, ⟨0, 24, .var [.i .i64 (d.rep), .i .i64 (d.num)]⟩)]⟩) cx [] [0, 3] [3] (by kernel_rfl) (by kernel_rfl) trivial ?_
  refine q_seq_normal ?_
  refine st_seq (by kernel_rfl) ?_
  refine st_seq (by kernel_rfl) ?_
  refine st_reg (A := (Flat (AV.i IntKind.i64 (12 : Int))) ∧ (Con Try.prog (15 : FuncId) [AV.sl (List.map c3 [(3 : Int), (0 : Int), (12 : Int)]), AV.i IntKind.i64 (2 : Int)] (AV.i IntKind.i64 (at' [(3 : Int), (0 : Int), (12 : Int)] (2 : Int)))) ∧ (Flat (AV.b true)) ∧ (Con Try.prog (16 : FuncId) [AV.sl (List.map c3 [(3 : Int), (0 : Int), (12 : Int)]), AV.agg (c24 { rep := (0 : Int), num := (3 : Int) : Dot })] (AV.b (has [(3 : Int), (0 : Int), (12 : Int)] { rep := (0 : Int), num := (3 : Int) : Dot }))) ∧ (Flat (AV.b false)) ∧ (Con Try.prog (16 : FuncId) [AV.sl (List.map c3 [(3 : Int), (0 : Int), (12 : Int)]), AV.agg (c24 { rep := (0 : Int), num := (4 : Int) : Dot })] (AV.b (has [(3 : Int), (0 : Int), (12 : Int)] { rep := (0 : Int), num := (4 : Int) : Dot })))) (σ' := ⟨[(0, .sl (List.map c3 v)), (3, .ptr (3) (0) (0) (0)), (20, .b (false))], [(3, ⟨0, 24, .var [.i .i64 (d.rep), .i .i64 (d.num)]⟩)]⟩) cx [(1, { val := some (.i .i64 ((12 : Int))), flat := true }), (6, { val := some (.b (true)), flat := true }), (12, { val := some (.b (false)), flat := true })] [0, 3, 20] [3] (by kernel_rfl) (by kernel_rfl) ⟨(by exact Flat.i _ _), (con15 ([(3 : Int), (0 : Int), (12 : Int)]) ((2 : Int))), (by exact Flat.b _), (con16 ([(3 : Int), (0 : Int), (12 : Int)]) ({ rep := (0 : Int), num := (3 : Int) : Dot })), (by exact Flat.b _), (con16 ([(3 : Int), (0 : Int), (12 : Int)]) ({ rep := (0 : Int), num := (4 : Int) : Dot }))⟩ ?_
  refine q_seq_normal ?_
  refine st_false (by kernel_rfl) (by kernel_rfl) ?_
  refine st_skip (by kernel_rfl) ?_
  refine q_seq_normal ?_
  refine st_seq (by kernel_rfl) ?_
  refine st_reg (A := (Con Try.prog (17 : FuncId) [AV.sl (List.map c3 v), AV.i IntKind.i64 d.rep] (AV.i IntKind.i64 (at' v d.rep)))) (σ' := ⟨[(0, .sl (List.map c3 v)), (3, .ptr (3) (0) (0) (0)), (5, .i .i64 (at' v d.rep))], [(3, ⟨0, 24, .var [.i .i64 (d.rep), .i .i64 (d.num)]⟩)]⟩) cx [(3, { val := some (.i .i64 (at' v d.rep)) })] [0, 3, 5] [3] (by kernel_rfl) (by kernel_rfl) (con17 (v) (d.rep)) ?_
  refine q_seq_normal ?_
  refine st_seq (by kernel_rfl) ?_
  refine st_reg (A := (Con Try.prog (18 : FuncId) [AV.sl (List.map c3 v), AV.agg (c24 d)] (AV.b (has v d)))) (σ' := ⟨[(0, .sl (List.map c3 v)), (3, .ptr (3) (0) (0) (0)), (5, .i .i64 (at' v d.rep)), (6, .b (has v d))], [(3, ⟨0, 24, .var [.i .i64 (d.rep), .i .i64 (d.num)]⟩)]⟩) cx [(2, { val := some (.b (has v d)) })] [0, 3, 5, 6] [3] (by kernel_rfl) (by kernel_rfl) (con18 (v) (d)) ?_
  refine q_seq_normal ?_
  refine st_seq (by kernel_rfl) ?_
  refine st_reg (A := (Con Try.prog (15 : FuncId) [AV.sl (List.map c3 v), AV.i IntKind.i64 d.rep] (AV.i IntKind.i64 (at' v d.rep))) ∧ (AV.b (at' v d.rep == at' v d.rep) = AV.b true) ∧ (Con Try.prog (16 : FuncId) [AV.sl (List.map c3 v), AV.agg (c24 d)] (AV.b (has v d))) ∧ (AV.b (has v d == has v d) = AV.b true)) (σ' := ⟨[(4, .b (true))], []⟩) cx [(3, { val := some (.i .i64 (at' v d.rep)) }), (5, { tell := some (.b (true)) }), (9, { val := some (.b (has v d)) }), (11, { tell := some (.b (true)) })] [4] [] (by kernel_rfl) (by kernel_rfl) ⟨(con15 (v) (d.rep)), (told_ies), (con16 (v) (d)), (told_beqs)⟩ ?_
  refine q_seq_normal ?_
  refine st_ret (by kernel_rfl) ?_
  exact q_ret (r := .b (true)) (obl := []) (by kernel_rfl) trivial (AVle.refl _)
theorem con3 (v : List Int) (d : Dot) : Con Try.prog 3 [.sl (v.map c3), .agg (c24 d)] (.b true) :=
  walk3 v d
end Go.Proofs.Ytoeifjooljkpaaa
