/- Wf: walks, written by a program of this claim's own, and what each function hands back. Conditions: none. -/
import Derived.Test.YtoeifjooljkpaaaWe
import Derived.Test.YtoeifjooljkpaaaEP
set_option linter.unusedVariables false
set_option linter.unusedSimpArgs false
namespace Go.Proofs.Ytoeifjooljkpaaa
open Go.E
set_option maxRecDepth 100000
set_option maxHeartbeats 4000000
theorem walk55 (v : Vector Int (16 : Nat)) (hv : inRange v)
    (g0 : inv55 v (0 : Int) (0 : Int))
    (g1 : ∀ (n_0 i_1 : Int), (0 : Int) ≤ i_1 → i_1 ≤ (16 : Int) → n_0 = sumN v i_1.toNat → i_1 < (16 : Int) → (-9223372036854775808 : Int) ≤ n_0 + v[i_1.toNat]!)
    (g2 : ∀ (n_0 i_1 : Int), (0 : Int) ≤ i_1 → i_1 ≤ (16 : Int) → n_0 = sumN v i_1.toNat → i_1 < (16 : Int) → n_0 + v[i_1.toNat]! ≤ (9223372036854775807 : Int))
    (g3 : ∀ (n_0 i_1 : Int), (0 : Int) ≤ i_1 → i_1 ≤ (16 : Int) → n_0 = sumN v i_1.toNat → i_1 < (16 : Int) → inv55 v (n_0 + v[i_1.toNat]!) (i_1 + (1 : Int)))
    (g4 : ∀ (n_0 i_1 : Int), (0 : Int) ≤ i_1 → i_1 ≤ (16 : Int) → n_0 = sumN v i_1.toNat → ¬i_1 < (16 : Int) → AV.i IntKind.i64 n_0 = AV.i IntKind.i64 (sumN v (16 : Nat))) :
    Con Try.prog (55 : FuncId) [AV.agg (c62 v)] (AV.i IntKind.i64 (sumN v (16 : Nat))) := by
  refine st_con tab_ok (by kernel_rfl) [.tmp 2] 15 Go.Proofs.Try.func55 (by kernel_rfl) (by kernel_rfl) ?_
  intro e0 cx
  refine st_seq (by kernel_rfl) ?_
  refine st_reg (A := True) (σ' := ⟨[(1, .ptr (1) (0) (0) (0))], [(1, ⟨0, 62, .arr (cA (AV.i IntKind.i64) v)⟩)]⟩) cx [] [1] [1] (by kernel_rfl) (by kernel_rfl) trivial ?_
  refine q_seq_normal ?_
  refine st_seq (by kernel_rfl) ?_
  refine st_reg (A := True) (σ' := ⟨[(1, .ptr (1) (0) (0) (0)), (3, .i .i64 ((0 : Int)))], [(1, ⟨0, 62, .arr (cA (AV.i IntKind.i64) v)⟩)]⟩) cx [] [1, 3] [1] (by kernel_rfl) (by kernel_rfl) trivial ?_
  refine q_seq_normal ?_
  refine st_seq (by kernel_rfl) ?_
  refine st_seq (by kernel_rfl) ?_
  refine st_reg (A := ((cA (AV.i IntKind.i64) v).length = (16 : Nat))) (σ' := ⟨[(3, .i .i64 ((0 : Int))), (6, .agg (cA (AV.i IntKind.i64) v)), (7, .i .i64 ((0 : Int)))], []⟩) cx [] [3, 6, 7] [] (by kernel_rfl) (by kernel_rfl) (by (simp only [len_cA]; done)) ?_
  refine q_seq_normal ?_
  refine st_block 0 (by kernel_rfl) ?_
  refine st_loop (X := Int × Int) (fun x => ⟨[(3, .i .i64 (x.fst)), (6, .agg (cA (AV.i IntKind.i64) v)), (7, .i .i64 (x.snd))], []⟩) (fun x ↦ dec55 x.fst x.snd) (fun x ↦ inv55 v x.fst x.snd) [3, 6, 7] [] (((0 : Int), (0 : Int))) (by kernel_rfl) (by kernel_rfl) g0 ?_
  rintro ⟨n_0, i_1⟩ h_2
  obtain ⟨h_3, h_4, h_5⟩ : (0 : Int) ≤ i_1 ∧ i_1 ≤ (16 : Int) ∧ n_0 = sumN v i_1.toNat := h_2
  refine st_seq (by kernel_rfl) ?_
  refine st_reg (A := (AV.b (decide (i_1 < (16 : Int))) = AV.b (decide (i_1 < (16 : Int))))) (σ' := ⟨[(3, .i .i64 (n_0)), (6, .agg (cA (AV.i IntKind.i64) v)), (7, .i .i64 (i_1)), (8, .b (decide (i_1 < (16 : Int))))], []⟩) cx [(0, { tell := some (.b (decide (i_1 < (16 : Int)))) })] [3, 6, 7, 8] [] (by kernel_rfl) (by kernel_rfl) (by kernel_rfl) ?_
  refine q_seq_normal ?_
  refine st_seq (by kernel_rfl) ?_
  refine st_dec (i_1 < (16 : Int)) (by kernel_rfl) (by kernel_rfl) (fun h_6 => ?_) (fun h_6 => ?_)
  ·
    refine st_skip (by kernel_rfl) ?_
    refine q_seq_normal ?_
    refine st_seq (by kernel_rfl) ?_
    refine st_block 1 (by kernel_rfl) ?_
    refine st_seq (by kernel_rfl) ?_
    refine st_reg (A := ((0 : Int) ≤ i_1) ∧ (i_1 < (↑(16 : Nat) : Int)) ∧ ((cA (AV.i IntKind.i64) v)[i_1.toNat * (1 : Nat)]? = some (AV.i IntKind.i64 v[i_1.toNat]!))) (σ' := ⟨[(3, .i .i64 (n_0)), (6, .agg (cA (AV.i IntKind.i64) v)), (7, .i .i64 (i_1)), (5, .i .i64 (v[i_1.toNat]!))], []⟩) cx [(0, { row := [.i .i64 (v[i_1.toNat]!)] })] [3, 6, 7, 5] [] (by kernel_rfl) (by kernel_rfl) ⟨(by (with_reducible assumption)), (by omega), (by (simp only [Nat.mul_one, Nat.add_zero, Nat.zero_add]; with_reducible refine get_cA ?_; omega))⟩ ?_
    refine q_seq_normal ?_
    refine st_reg (A := (AV.i IntKind.i64 (IntKind.i64.wrap (n_0 + v[i_1.toNat]!)) = AV.i IntKind.i64 (n_0 + v[i_1.toNat]!))) (σ' := ⟨[(3, .i .i64 (n_0 + v[i_1.toNat]!)), (6, .agg (cA (AV.i IntKind.i64) v)), (7, .i .i64 (i_1))], []⟩) cx [(2, { tell := some (.i .i64 (n_0 + v[i_1.toNat]!)) })] [3, 6, 7] [] (by kernel_rfl) (by kernel_rfl) (told_i64 (g1 n_0 i_1 h_3 h_4 h_5 h_6) (g2 n_0 i_1 h_3 h_4 h_5 h_6)) ?_
    refine q_blk_normal ?_
    refine q_seq_normal ?_
    refine st_reg (A := (AV.i IntKind.i64 (IntKind.i64.wrap (i_1 + (1 : Int))) = AV.i IntKind.i64 (i_1 + (1 : Int)))) (σ' := ⟨[(3, .i .i64 (n_0 + v[i_1.toNat]!)), (6, .agg (cA (AV.i IntKind.i64) v)), (7, .i .i64 (i_1 + (1 : Int)))], []⟩) cx [(0, { tell := some (.i .i64 (i_1 + (1 : Int))) })] [3, 6, 7] [] (by kernel_rfl) (by kernel_rfl) (told_i64 (by omega) (by omega)) ?_
    refine q_seq_normal ?_
    exact loop_next ((n_0 + v[i_1.toNat]!, i_1 + (1 : Int))) (by kernel_rfl) (show ((16 : Int) - (i_1 + (1 : Int))).toNat < ((16 : Int) - i_1).toNat from (by omega)) (g3 n_0 i_1 h_3 h_4 h_5 h_6)
  ·
    refine st_exit 0 (by kernel_rfl) ?_
    refine q_seq_exit ?_
    refine q_seq_exit ?_
    refine q_blk_hit ?_
    refine q_seq_normal ?_
    refine st_seq (by kernel_rfl) ?_
    refine st_reg (A := True) (σ' := ⟨[(2, .i .i64 (n_0))], []⟩) cx [] [2] [] (by kernel_rfl) (by kernel_rfl) trivial ?_
    refine q_seq_normal ?_
    refine st_ret (by kernel_rfl) ?_
    exact q_ret (r := .i .i64 (n_0)) (obl := []) (by kernel_rfl) trivial (AVle.eq (g4 n_0 i_1 h_3 h_4 h_5 h_6))
theorem con55 (v : Vector Int 16) (hv : inRange v) : Con Try.prog 55 [.agg (c62 v)] (.i .i64 (sumN v 16)) :=
  by
  have key : ∀ i : Int, 0 ≤ i → i < 16 → 0 ≤ sumN v i.toNat + v[i.toNat]! ∧ sumN v i.toNat + v[i.toNat]! ≤ 16000000000 := fun i h0 h1 => by
    have := sumN_range hv (i + 1).toNat (by omega)
    rw [sumN_step h0] at this
    omega
  refine walk55 v hv ⟨by decide, by decide, rfl⟩ (fun n i h0 h1 h2 h3 => ?_) (fun n i h0 h1 h2 h3 => ?_) (fun n i h0 h1 h2 h3 => ⟨by omega, by omega, ?_⟩) (fun n i h0 h1 h2 h3 => ?_)
  · have := key i h0 h3; omega
  · have := key i h0 h3; omega
  · rw [sumN_step h0, h2]
  · have : i = 16 := by omega
    subst this
    rw [h2]
    rfl
theorem walk35 (v : List Int)
    (g0 : inv35 v (0 : Int) (0 : Int) (of v))
    (g1 : ∀ (n_0 i_1 : Int) (f_2 : Vector Int (16 : Nat)), (0 : Int) ≤ i_1 → i_1 ≤ (16 : Int) → n_0 = sumN (of v) i_1.toNat → f_2 = of v → i_1 < (16 : Int) → (-9223372036854775808 : Int) ≤ n_0 + f_2[i_1.toNat]!)
    (g2 : ∀ (n_0 i_1 : Int) (f_2 : Vector Int (16 : Nat)), (0 : Int) ≤ i_1 → i_1 ≤ (16 : Int) → n_0 = sumN (of v) i_1.toNat → f_2 = of v → i_1 < (16 : Int) → n_0 + f_2[i_1.toNat]! ≤ (9223372036854775807 : Int))
    (g3 : ∀ (n_0 i_1 : Int) (f_2 : Vector Int (16 : Nat)), (0 : Int) ≤ i_1 → i_1 ≤ (16 : Int) → n_0 = sumN (of v) i_1.toNat → f_2 = of v → i_1 < (16 : Int) → inv35 v (n_0 + f_2[i_1.toNat]!) (i_1 + (1 : Int)) f_2)
    (g4 : ∀ (n_0 i_1 : Int) (f_2 : Vector Int (16 : Nat)), (0 : Int) ≤ i_1 → i_1 ≤ (16 : Int) → n_0 = sumN (of v) i_1.toNat → f_2 = of v → ¬i_1 < (16 : Int) → AV.i IntKind.i64 n_0 = AV.i IntKind.i64 (sumN (of v) (16 : Nat))) :
    Con Try.prog (35 : FuncId) [AV.sl (List.map c3 v)] (AV.i IntKind.i64 (sumN (of v) (16 : Nat))) := by
  refine con_lens 0 (c3) (v) (by kernel_rfl) Go.Proofs.Try.func35 (by kernel_rfl) fun hl_0 => ?_
  refine st_con tab_ok (by kernel_rfl) [.tmp 2] 18 Go.Proofs.Try.func35 (by kernel_rfl) (by kernel_rfl) ?_
  intro e0 cx
  refine st_seq (by kernel_rfl) ?_
  refine st_reg (A := True) (σ' := ⟨[(0, .sl (List.map c3 v))], []⟩) cx [] [0] [] (by kernel_rfl) (by kernel_rfl) trivial ?_
  refine q_seq_normal ?_
  refine st_seq (by kernel_rfl) ?_
  refine st_reg (A := (Con Try.prog (50 : FuncId) [AV.sl (List.map c3 v)] (AV.agg (c61 (of v)))) ∧ ((cA (AV.i IntKind.i64) (of v)).length = (cA (AV.i IntKind.i64) (Vector.replicate (16 : Nat) (0 : Int))).length) ∧ ((cA (AV.i IntKind.i64) (of v)).length = (16 : Nat))) (σ' := ⟨[(3, .ptr (3) (0) (0) (0))], [(3, ⟨0, 61, .arr (cA (AV.i IntKind.i64) (of v))⟩)]⟩) cx [(1, { val := some (.agg (cA (AV.i IntKind.i64) (of v))) })] [3] [3] (by kernel_rfl) (by kernel_rfl) ⟨(con50 (v)), (by kernel_rfl), (by kernel_rfl)⟩ ?_
  refine q_seq_normal ?_
  refine st_seq (by kernel_rfl) ?_
  refine st_reg (A := True) (σ' := ⟨[(3, .ptr (3) (0) (0) (0)), (4, .i .i64 ((0 : Int)))], [(3, ⟨0, 61, .arr (cA (AV.i IntKind.i64) (of v))⟩)]⟩) cx [] [3, 4] [3] (by kernel_rfl) (by kernel_rfl) trivial ?_
  refine q_seq_normal ?_
  refine st_seq (by kernel_rfl) ?_
  refine st_seq (by kernel_rfl) ?_
  refine st_reg (A := True) (σ' := ⟨[(3, .ptr (3) (0) (0) (0)), (4, .i .i64 ((0 : Int))), (5, .i .i64 ((0 : Int)))], [(3, ⟨0, 61, .arr (cA (AV.i IntKind.i64) (of v))⟩)]⟩) cx [] [3, 4, 5] [3] (by kernel_rfl) (by kernel_rfl) trivial ?_
  refine q_seq_normal ?_
  refine st_block 0 (by kernel_rfl) ?_
  refine st_loop (X := Int × Int × Vector Int (16 : Nat)) (fun x => ⟨[(3, .ptr (3) (0) (0) (0)), (4, .i .i64 (x.fst)), (5, .i .i64 (x.snd.fst))], [(3, ⟨0, 61, .arr (cA (AV.i IntKind.i64) x.snd.snd)⟩)]⟩) (fun x ↦ dec35 x.fst x.snd.fst x.snd.snd) (fun x ↦ inv35 v x.fst x.snd.fst x.snd.snd) [3, 4, 5] [3] (((0 : Int), (0 : Int), of v)) (by kernel_rfl) (by kernel_rfl) g0 ?_
  rintro ⟨n_0, i_1, f_2⟩ h_3
  obtain ⟨h_4, h_5, h_6, h_7⟩ : (0 : Int) ≤ i_1 ∧ i_1 ≤ (16 : Int) ∧ n_0 = sumN (of v) i_1.toNat ∧ f_2 = of v := h_3
  refine st_seq (by kernel_rfl) ?_
  refine st_seq (by kernel_rfl) ?_
  refine st_reg (A := (AV.b (decide (i_1 < (16 : Int))) = AV.b (decide (i_1 < (16 : Int))))) (σ' := ⟨[(3, .ptr (3) (0) (0) (0)), (4, .i .i64 (n_0)), (5, .i .i64 (i_1)), (9, .b (decide (i_1 < (16 : Int))))], [(3, ⟨0, 61, .arr (cA (AV.i IntKind.i64) f_2)⟩)]⟩) cx [(1, { tell := some (.b (decide (i_1 < (16 : Int)))) })] [3, 4, 5, 9] [3] (by kernel_rfl) (by kernel_rfl) (by kernel_rfl) ?_
  refine q_seq_normal ?_
  refine st_dec (i_1 < (16 : Int)) (by kernel_rfl) (by kernel_rfl) (fun h_8 => ?_) (fun h_8 => ?_)
  ·
    refine st_skip (by kernel_rfl) ?_
    refine q_seq_normal ?_
    refine st_seq (by kernel_rfl) ?_
    refine st_block 1 (by kernel_rfl) ?_
    refine st_reg (A := ((0 : Int) ≤ i_1) ∧ (i_1 < (↑(16 : Nat) : Int)) ∧ ((cA (AV.i IntKind.i64) f_2)[i_1.toNat * (1 : Nat) + 0]? = some (AV.i IntKind.i64 f_2[i_1.toNat]!)) ∧ (AV.i IntKind.i64 (IntKind.i64.wrap (n_0 + f_2[i_1.toNat]!)) = AV.i IntKind.i64 (n_0 + f_2[i_1.toNat]!))) (σ' := ⟨[(3, .ptr (3) (0) (0) (0)), (4, .i .i64 (n_0 + f_2[i_1.toNat]!)), (5, .i .i64 (i_1))], [(3, ⟨0, 61, .arr (cA (AV.i IntKind.i64) f_2)⟩)]⟩) cx [(3, { row := [.i .i64 (f_2[i_1.toNat]!)] }), (4, { tell := some (.i .i64 (n_0 + f_2[i_1.toNat]!)) })] [3, 4, 5] [3] (by kernel_rfl) (by kernel_rfl) ⟨(by (with_reducible assumption)), (by omega), (by (simp only [Nat.mul_one, Nat.add_zero, Nat.zero_add]; with_reducible refine get_cA ?_; omega)), (told_i64 (g1 n_0 i_1 f_2 h_4 h_5 h_6 h_7 h_8) (g2 n_0 i_1 f_2 h_4 h_5 h_6 h_7 h_8))⟩ ?_
    refine q_blk_normal ?_
    refine q_seq_normal ?_
    refine st_reg (A := (AV.i IntKind.i64 (IntKind.i64.wrap (i_1 + (1 : Int))) = AV.i IntKind.i64 (i_1 + (1 : Int)))) (σ' := ⟨[(3, .ptr (3) (0) (0) (0)), (4, .i .i64 (n_0 + f_2[i_1.toNat]!)), (5, .i .i64 (i_1 + (1 : Int)))], [(3, ⟨0, 61, .arr (cA (AV.i IntKind.i64) f_2)⟩)]⟩) cx [(1, { tell := some (.i .i64 (i_1 + (1 : Int))) })] [3, 4, 5] [3] (by kernel_rfl) (by kernel_rfl) (told_i64 (by omega) (by omega)) ?_
    refine q_seq_normal ?_
    exact loop_next ((n_0 + f_2[i_1.toNat]!, i_1 + (1 : Int), f_2)) (by kernel_rfl) (show ((16 : Int) - (i_1 + (1 : Int))).toNat < ((16 : Int) - i_1).toNat from (by omega)) (g3 n_0 i_1 f_2 h_4 h_5 h_6 h_7 h_8)
  ·
    refine st_exit 0 (by kernel_rfl) ?_
    refine q_seq_exit ?_
    refine q_seq_exit ?_
    refine q_blk_hit ?_
    refine q_seq_normal ?_
    refine st_seq (by kernel_rfl) ?_
    refine st_reg (A := True) (σ' := ⟨[(2, .i .i64 (n_0))], []⟩) cx [] [2] [] (by kernel_rfl) (by kernel_rfl) trivial ?_
    refine q_seq_normal ?_
    refine st_ret (by kernel_rfl) ?_
    exact q_ret (r := .i .i64 (n_0)) (obl := []) (by kernel_rfl) trivial (AVle.eq (g4 n_0 i_1 f_2 h_4 h_5 h_6 h_7 h_8))
theorem con35 (v : List Int) : Con Try.prog 35 [.sl (v.map c3)] (.i .i64 (sumN (of v) 16)) :=
  by
  have key : ∀ i : Int, 0 ≤ i → i < 16 → 0 ≤ sumN (of v) i.toNat + (of v)[i.toNat]! ∧ sumN (of v) i.toNat + (of v)[i.toNat]! ≤ 16000000000 := fun i h0 h1 => by
    have := sumN_range (of_range v) (i + 1).toNat (by omega)
    rw [sumN_step h0] at this
    omega
  refine walk35 v ⟨by decide, by decide, rfl, rfl⟩ (fun n i f h0 h1 h2 h4 h3 => ?_) (fun n i f h0 h1 h2 h4 h3 => ?_) (fun n i f h0 h1 h2 h4 h3 => ⟨by omega, by omega, ?_, h4⟩) (fun n i f h0 h1 h2 h4 h3 => ?_)
  · subst h4; have := key i h0 h3; omega
  · subst h4; have := key i h0 h3; omega
  · subst h4; rw [sumN_step h0, h2]
  · have : i = 16 := by omega
    subst this
    rw [h2]
    rfl
theorem walk32 (v : List Int)
    (g0 : inRange (of v)) :
    Con Try.prog (32 : FuncId) [AV.sl (List.map c3 v)] (AV.i IntKind.i64 (sumN (of v) (16 : Nat))) := by
  refine con_lens 0 (c3) (v) (by kernel_rfl) Go.Proofs.Try.func32 (by kernel_rfl) fun hl_0 => ?_
  refine st_con tab_ok (by kernel_rfl) [.tmp 2] 6 Go.Proofs.Try.func32 (by kernel_rfl) (by kernel_rfl) ?_
  intro e0 cx
  refine st_seq (by kernel_rfl) ?_
  refine st_reg (A := True) (σ' := ⟨[(0, .sl (List.map c3 v))], []⟩) cx [] [0] [] (by kernel_rfl) (by kernel_rfl) trivial ?_
  refine q_seq_normal ?_
  refine st_seq (by kernel_rfl) ?_
  refine st_reg (A := (Con Try.prog (49 : FuncId) [AV.sl (List.map c3 v)] (AV.agg (c62 (of v)))) ∧ (Con Try.prog (55 : FuncId) [AV.agg (c62 (of v))] (AV.i IntKind.i64 (sumN (of v) (16 : Nat))))) (σ' := ⟨[(2, .i .i64 (sumN (of v) (16 : Nat)))], []⟩) cx [(1, { val := some (.agg (cA (AV.i IntKind.i64) (of v))) }), (2, { val := some (.i .i64 (sumN (of v) (16 : Nat))) })] [2] [] (by kernel_rfl) (by kernel_rfl) ⟨(con49 (v)), (con55 (of v) g0)⟩ ?_
  refine q_seq_normal ?_
  refine st_ret (by kernel_rfl) ?_
  exact q_ret (r := .i .i64 (sumN (of v) (16 : Nat))) (obl := []) (by kernel_rfl) trivial (AVle.refl _)
theorem con32 (v : List Int) : Con Try.prog 32 [.sl (v.map c3)] (.i .i64 (sumN (of v) 16)) :=
  walk32 v (of_range v)
end Go.Proofs.Ytoeifjooljkpaaa
