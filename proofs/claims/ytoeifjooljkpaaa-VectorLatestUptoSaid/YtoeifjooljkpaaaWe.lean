/- We: walks, written by a program of this claim's own, and what each function hands back. Conditions: none. -/
import Derived.Test.YtoeifjooljkpaaaWp
import Derived.Test.YtoeifjooljkpaaaEP
import Derived.Test.YtoeifjooljkpaaaWc
set_option linter.unusedVariables false
set_option linter.unusedSimpArgs false
namespace Go.Proofs.Ytoeifjooljkpaaa
open Go.E
set_option maxRecDepth 100000
set_option maxHeartbeats 4000000
theorem walk20 (a : List Int) (b : List Int)
    (g0 : ¬(↑a.length : Int) = (↑b.length : Int) → AV.b false = AV.b (decide (a = b)))
    (g1 : ¬¬(↑a.length : Int) = (↑b.length : Int) → inv20 a b (0 : Int))
    (g2 : ¬¬(↑a.length : Int) = (↑b.length : Int) → ∀ (i_1 : Int), (0 : Int) ≤ i_1 → i_1 ≤ (↑a.length : Int) → (∀ (j : Nat), (↑j : Int) < i_1 → a[j]! = b[j]!) → i_1 < (↑a.length : Int) → ¬a[i_1.toNat]! = b[i_1.toNat]! → AV.b false = AV.b (decide (a = b)))
    (g3 : ¬¬(↑a.length : Int) = (↑b.length : Int) → ∀ (i_1 : Int), (0 : Int) ≤ i_1 → i_1 ≤ (↑a.length : Int) → (∀ (j : Nat), (↑j : Int) < i_1 → a[j]! = b[j]!) → i_1 < (↑a.length : Int) → ¬¬a[i_1.toNat]! = b[i_1.toNat]! → inv20 a b (i_1 + (1 : Int)))
    (g4 : ¬¬(↑a.length : Int) = (↑b.length : Int) → ∀ (i_1 : Int), (0 : Int) ≤ i_1 → i_1 ≤ (↑a.length : Int) → (∀ (j : Nat), (↑j : Int) < i_1 → a[j]! = b[j]!) → ¬i_1 < (↑a.length : Int) → AV.b true = AV.b (decide (a = b))) :
    Con Try.prog (20 : FuncId) [AV.sl (List.map c3 a), AV.sl (List.map c3 b)] (AV.b (decide (a = b))) := by
  refine con_lens 0 (c3) (a) (by kernel_rfl) Go.Proofs.Try.func20 (by kernel_rfl) fun hl_0 => ?_
  refine con_lens 1 (c3) (b) (by kernel_rfl) Go.Proofs.Try.func20 (by kernel_rfl) fun hl_1 => ?_
  refine st_con tab_ok (by kernel_rfl) [.tmp 4] 26 Go.Proofs.Try.func20 (by kernel_rfl) (by kernel_rfl) ?_
  intro e0 cx
  refine st_seq (by kernel_rfl) ?_
  refine st_reg (A := True) (σ' := ⟨[(0, .sl (List.map c3 a)), (1, .sl (List.map c3 b))], []⟩) cx [] [0, 1] [] (by kernel_rfl) (by kernel_rfl) trivial ?_
  refine q_seq_normal ?_
  refine st_seq (by kernel_rfl) ?_
  refine st_seq (by kernel_rfl) ?_
  refine st_reg (A := (AV.i IntKind.i64 (↑(List.map c3 a).length : Int) = AV.i IntKind.i64 (↑a.length : Int)) ∧ (AV.i IntKind.i64 (↑(List.map c3 b).length : Int) = AV.i IntKind.i64 (↑b.length : Int)) ∧ (AV.b ((↑a.length : Int) != (↑b.length : Int)) = AV.b (decide ¬(↑a.length : Int) = (↑b.length : Int)))) (σ' := ⟨[(0, .sl (List.map c3 a)), (1, .sl (List.map c3 b)), (10, .b (decide ¬(↑a.length : Int) = (↑b.length : Int)))], []⟩) cx [(1, { tell := some (.i .i64 ((↑a.length : Int))) }), (3, { tell := some (.i .i64 ((↑b.length : Int))) }), (4, { tell := some (.b (decide ¬(↑a.length : Int) = (↑b.length : Int))) })] [0, 1, 10] [] (by kernel_rfl) (by kernel_rfl) ⟨(told_len c3 a), (told_len c3 b), (told_neq)⟩ ?_
  refine q_seq_normal ?_
  refine st_dec (¬(↑a.length : Int) = (↑b.length : Int)) (by kernel_rfl) (by kernel_rfl) (fun h_0 => ?_) (fun h_0 => ?_)
  ·
    refine st_seq (by kernel_rfl) ?_
    refine st_reg (A := True) (σ' := ⟨[(4, .b (false))], []⟩) cx [] [4] [] (by kernel_rfl) (by kernel_rfl) trivial ?_
    refine q_seq_normal ?_
    refine st_ret (by kernel_rfl) ?_
    refine q_seq_ret ?_
    exact q_ret (r := .b (false)) (obl := []) (by kernel_rfl) trivial (AVle.eq (g0 h_0))
  ·
    refine st_skip (by kernel_rfl) ?_
    refine q_seq_normal ?_
    refine st_seq (by kernel_rfl) ?_
    refine st_seq (by kernel_rfl) ?_
    refine st_reg (A := True) (σ' := ⟨[(0, .sl (List.map c3 a)), (1, .sl (List.map c3 b)), (5, .i .i64 ((0 : Int)))], []⟩) cx [] [0, 1, 5] [] (by kernel_rfl) (by kernel_rfl) trivial ?_
    refine q_seq_normal ?_
    refine st_block 0 (by kernel_rfl) ?_
    refine st_loop (X := Int) (fun x => ⟨[(0, .sl (List.map c3 a)), (1, .sl (List.map c3 b)), (5, .i .i64 (x))], []⟩) (fun x ↦ dec20 a x) (fun x ↦ inv20 a b x) [0, 1, 5] [] ((0 : Int)) (by kernel_rfl) (by kernel_rfl) (g1 h_0) ?_
    intro i_1 h_2
    obtain ⟨h_3, h_4, h_5⟩ : (0 : Int) ≤ i_1 ∧ i_1 ≤ (↑a.length : Int) ∧ ∀ (j : Nat), (↑j : Int) < i_1 → a[j]! = b[j]! := h_2
    refine st_seq (by kernel_rfl) ?_
    refine st_seq (by kernel_rfl) ?_
    refine st_reg (A := (AV.i IntKind.i64 (↑(List.map c3 a).length : Int) = AV.i IntKind.i64 (↑a.length : Int)) ∧ (AV.b (decide (i_1 < (↑a.length : Int))) = AV.b (decide (i_1 < (↑a.length : Int))))) (σ' := ⟨[(0, .sl (List.map c3 a)), (1, .sl (List.map c3 b)), (5, .i .i64 (i_1)), (14, .b (decide (i_1 < (↑a.length : Int))))], []⟩) cx [(2, { tell := some (.i .i64 ((↑a.length : Int))) }), (3, { tell := some (.b (decide (i_1 < (↑a.length : Int)))) })] [0, 1, 5, 14] [] (by kernel_rfl) (by kernel_rfl) ⟨(told_len c3 a), (by kernel_rfl)⟩ ?_
    refine q_seq_normal ?_
    refine st_dec (i_1 < (↑a.length : Int)) (by kernel_rfl) (by kernel_rfl) (fun h_6 => ?_) (fun h_6 => ?_)
    ·
      refine st_skip (by kernel_rfl) ?_
      refine q_seq_normal ?_
      refine st_seq (by kernel_rfl) ?_
      refine st_block 1 (by kernel_rfl) ?_
      refine st_seq (by kernel_rfl) ?_
      refine st_any (A := ((0 : Int) ≤ i_1) ∧ ((List.map c3 a)[i_1.toNat]? = some (c3 a[i_1.toNat]!)) ∧ ((c3 a[i_1.toNat]!).length = (1 : Nat)) ∧ ((0 : Int) ≤ i_1) ∧ ((List.map c3 b)[i_1.toNat]? = some (c3 b[i_1.toNat]!)) ∧ ((c3 b[i_1.toNat]!).length = (1 : Nat)) ∧ (AV.b (a[i_1.toNat]! != b[i_1.toNat]!) = AV.b (decide ¬a[i_1.toNat]! = b[i_1.toNat]!))) (σ' := ⟨[(0, .sl (List.map c3 a)), (1, .sl (List.map c3 b)), (5, .i .i64 (i_1)), (25, .b (decide ¬a[i_1.toNat]! = b[i_1.toNat]!))], []⟩) cx [(2, { row := (c3 a[i_1.toNat]!) }), (6, { row := (c3 b[i_1.toNat]!) }), (8, { tell := some (.b (decide ¬a[i_1.toNat]! = b[i_1.toNat]!)) })] [0, 1, 5, 25] [] (by kernel_rfl) (by kernel_rfl) ⟨(by (with_reducible assumption)), (by (with_reducible refine get_map ?_; omega)), (by kernel_rfl), (by (with_reducible assumption)), (by (with_reducible refine get_map ?_; omega)), (by kernel_rfl), (told_neq)⟩ ?_
      refine q_seq_normal ?_
      refine st_dec (¬a[i_1.toNat]! = b[i_1.toNat]!) (by kernel_rfl) (by kernel_rfl) (fun h_7 => ?_) (fun h_7 => ?_)
      ·
        refine st_seq (by kernel_rfl) ?_
        refine st_reg (A := True) (σ' := ⟨[(4, .b (false))], []⟩) cx [] [4] [] (by kernel_rfl) (by kernel_rfl) trivial ?_
        refine q_seq_normal ?_
        refine st_ret (by kernel_rfl) ?_
        refine q_blk_ret ?_
        refine q_seq_ret ?_
        refine q_seq_ret ?_
        refine q_blk_ret ?_
        refine q_seq_ret ?_
        exact q_ret (r := .b (false)) (obl := []) (by kernel_rfl) trivial (AVle.eq (g2 h_0 i_1 h_3 h_4 h_5 h_6 h_7))
      ·
        refine st_skip (by kernel_rfl) ?_
        refine q_blk_normal ?_
        refine q_seq_normal ?_
        refine st_reg (A := (AV.i IntKind.i64 (IntKind.i64.wrap (i_1 + (1 : Int))) = AV.i IntKind.i64 (i_1 + (1 : Int)))) (σ' := ⟨[(0, .sl (List.map c3 a)), (1, .sl (List.map c3 b)), (5, .i .i64 (i_1 + (1 : Int)))], []⟩) cx [(1, { tell := some (.i .i64 (i_1 + (1 : Int))) })] [0, 1, 5] [] (by kernel_rfl) (by kernel_rfl) (told_i64 (by omega) (by omega)) ?_
        refine q_seq_normal ?_
        exact loop_next (i_1 + (1 : Int)) (by kernel_rfl) (show ((↑a.length : Int) - (i_1 + (1 : Int))).toNat < ((↑a.length : Int) - i_1).toNat from (by omega)) (g3 h_0 i_1 h_3 h_4 h_5 h_6 h_7)
    ·
      refine st_exit 0 (by kernel_rfl) ?_
      refine q_seq_exit ?_
      refine q_seq_exit ?_
      refine q_blk_hit ?_
      refine q_seq_normal ?_
      refine st_seq (by kernel_rfl) ?_
      refine st_reg (A := True) (σ' := ⟨[(4, .b (true))], []⟩) cx [] [4] [] (by kernel_rfl) (by kernel_rfl) trivial ?_
      refine q_seq_normal ?_
      refine st_ret (by kernel_rfl) ?_
      exact q_ret (r := .b (true)) (obl := []) (by kernel_rfl) trivial (AVle.eq (g4 h_0 i_1 h_3 h_4 h_5 h_6))
theorem eq_of_bang {a b : List Int} (hl : (a.length : Int) = b.length) (h : ∀ j : Nat, (j : Int) < a.length → a[j]! = b[j]!) : a = b := by
  apply List.ext_getElem (by omega)
  intro j h1 h2
  have := h j (by omega)
  simpa [h1, h2] using this
theorem con20 (a b : List Int) : Con Try.prog 20 [.sl (a.map c3), .sl (b.map c3)] (.b (decide (a = b))) :=
  by
  refine walk20 a b (fun h => ?_) (fun h => ⟨by omega, by omega, fun j hj => by omega⟩) (fun h i h1 h2 h3 h4 h5 => ?_) (fun h i h1 h2 h3 h4 h5 => ⟨by omega, by omega, fun j hj => ?_⟩) (fun h i h1 h2 h3 h4 => ?_)
  · congr 1; symm; rw [decide_eq_false_iff_not]; rintro rfl; exact h rfl
  · congr 1; symm; rw [decide_eq_false_iff_not]; rintro rfl; exact h5 rfl
  · by_cases e : j = i.toNat
    · subst e; exact Classical.not_not.1 h5
    · exact h3 j (by omega)
  · congr 1; symm; rw [decide_eq_true_iff]; exact eq_of_bang (Classical.not_not.1 h) fun j hj => h3 j (by omega)
theorem walk51 (v : Vector Int (16 : Nat))
    (g0 : inv51 v (16 : Int) v)
    (g1 : ∀ (n_0 : Int) (w_1 : Vector Int (16 : Nat)), (0 : Int) ≤ n_0 → n_0 ≤ (16 : Int) → topN v (16 : Nat) = topN v n_0.toNat → w_1 = v → (0 : Int) < n_0 ∧ w_1[(n_0 - (1 : Int)).toNat]! = (0 : Int) → inv51 v (n_0 - (1 : Int)) w_1)
    (g2 : ∀ (n_0 : Int) (w_1 : Vector Int (16 : Nat)), (0 : Int) ≤ n_0 → n_0 ≤ (16 : Int) → topN v (16 : Nat) = topN v n_0.toNat → w_1 = v → ¬((0 : Int) < n_0 ∧ w_1[(n_0 - (1 : Int)).toNat]! = (0 : Int)) → AV.sl (List.map c3 (List.take (List.replicate n_0.toNat (0 : Int)).length (List.take (n_0 - (0 : Int)).toNat (List.drop (0) w_1.toList)) ++ List.drop (List.take (n_0 - (0 : Int)).toNat (List.drop (0) w_1.toList)).length (List.replicate n_0.toNat (0 : Int)))) = AV.sl (List.map c3 (short v))) :
    Con Try.prog (51 : FuncId) [AV.agg (c62 v)] (AV.sl (List.map c3 (short v))) := by
  refine st_con tab_ok (by kernel_rfl) [.tmp 2] 23 Go.Proofs.Try.func51 (by kernel_rfl) (by kernel_rfl) ?_
  intro e0 cx
  refine st_seq (by kernel_rfl) ?_
  refine st_reg (A := True) (σ' := ⟨[(1, .ptr (1) (0) (0) (0))], [(1, ⟨0, 62, .arr (cA (AV.i IntKind.i64) v)⟩)]⟩) cx [] [1] [1] (by kernel_rfl) (by kernel_rfl) trivial ?_
  refine q_seq_normal ?_
  refine st_seq (by kernel_rfl) ?_
  refine st_reg (A := True) (σ' := ⟨[(1, .ptr (1) (0) (0) (0)), (3, .i .i64 ((16 : Int)))], [(1, ⟨0, 62, .arr (cA (AV.i IntKind.i64) v)⟩)]⟩) cx [] [1, 3] [1] (by kernel_rfl) (by kernel_rfl) trivial ?_
  refine q_seq_normal ?_
  refine st_seq (by kernel_rfl) ?_
  refine st_block 0 (by kernel_rfl) ?_
  refine st_loop (X := Int × Vector Int (16 : Nat)) (fun x => ⟨[(1, .ptr (1) (0) (0) (0)), (3, .i .i64 (x.fst))], [(1, ⟨0, 62, .arr (cA (AV.i IntKind.i64) x.snd)⟩)]⟩) (fun x ↦ dec51 x.fst x.snd) (fun x ↦ inv51 v x.fst x.snd) [1, 3] [1] (((16 : Int), v)) (by kernel_rfl) (by kernel_rfl) g0 ?_
  rintro ⟨n_0, w_1⟩ h_2
  obtain ⟨h_3, h_4, h_5, h_6⟩ : (0 : Int) ≤ n_0 ∧ n_0 ≤ (16 : Int) ∧ topN v (16 : Nat) = topN v n_0.toNat ∧ w_1 = v := h_2
  refine st_seq (by kernel_rfl) ?_
  refine st_seq (by kernel_rfl) ?_
  refine st_join (σ' := ⟨[(1, .ptr (1) (0) (0) (0)), (3, .i .i64 (n_0)), (13, .b (decide ((0 : Int) < n_0 ∧ w_1[(n_0 - (1 : Int)).toNat]! = (0 : Int))))], [(1, ⟨0, 62, .arr (cA (AV.i IntKind.i64) w_1)⟩)]⟩) ?_ ?_
  ·
    refine st_split ((0 : Int) < n_0) (fun h_8 => ?_) (fun h_8 => ?_)
    ·
      refine st_reg (A := (AV.b (decide (n_0 > (0 : Int))) = AV.b true) ∧ (AV.i IntKind.i64 (IntKind.i64.wrap (n_0 - (1 : Int))) = AV.i IntKind.i64 (n_0 - (1 : Int))) ∧ ((0 : Int) ≤ n_0 - (1 : Int)) ∧ (n_0 - (1 : Int) < (↑(16 : Nat) : Int)) ∧ ((cA (AV.i IntKind.i64) w_1)[(n_0 - (1 : Int)).toNat * (1 : Nat) + 0]? = some (AV.i IntKind.i64 w_1[(n_0 - (1 : Int)).toNat]!)) ∧ (AV.b (w_1[(n_0 - (1 : Int)).toNat]! == (0 : Int)) = AV.b (decide (w_1[(n_0 - (1 : Int)).toNat]! = (0 : Int)))) ∧ (AV.b (decide (w_1[(n_0 - (1 : Int)).toNat]! = (0 : Int))) = AV.b (decide ((0 : Int) < n_0 ∧ w_1[(n_0 - (1 : Int)).toNat]! = (0 : Int))))) (σ' := ⟨[(1, .ptr (1) (0) (0) (0)), (3, .i .i64 (n_0)), (13, .b (decide ((0 : Int) < n_0 ∧ w_1[(n_0 - (1 : Int)).toNat]! = (0 : Int))))], [(1, ⟨0, 62, .arr (cA (AV.i IntKind.i64) w_1)⟩)]⟩) cx [(1, { tell := some (.b (true)) }), (4, { tell := some (.i .i64 (n_0 - (1 : Int))) }), (6, { row := [.i .i64 (w_1[(n_0 - (1 : Int)).toNat]!)] }), (7, { tell := some (.b (decide (w_1[(n_0 - (1 : Int)).toNat]! = (0 : Int)))) }), (8, { tell := some (.b (decide ((0 : Int) < n_0 ∧ w_1[(n_0 - (1 : Int)).toNat]! = (0 : Int)))) })] [1, 3, 13] [1] (by kernel_rfl) (by kernel_rfl) ⟨(told_true h_8), (told_i64 (by omega) (by omega)), (by omega), (by omega), (by (simp only [Nat.mul_one, Nat.add_zero, Nat.zero_add]; with_reducible refine get_cA ?_; omega)), (by kernel_rfl), (by simp only [eq_true h_8, told_simp1, told_simp2, and_true, true_and, and_false, false_and, or_true, true_or, or_false, false_or, not_true_eq_false, not_false_eq_true, decide_true, decide_false, Bool.decide_eq_true])⟩ ?_
      exact ⟨rfl, rfl⟩
    ·
      refine st_reg (A := (AV.b (decide (n_0 > (0 : Int))) = AV.b false) ∧ (AV.b false = AV.b (decide ((0 : Int) < n_0 ∧ w_1[(n_0 - (1 : Int)).toNat]! = (0 : Int))))) (σ' := ⟨[(1, .ptr (1) (0) (0) (0)), (3, .i .i64 (n_0)), (13, .b (decide ((0 : Int) < n_0 ∧ w_1[(n_0 - (1 : Int)).toNat]! = (0 : Int))))], [(1, ⟨0, 62, .arr (cA (AV.i IntKind.i64) w_1)⟩)]⟩) cx [(1, { tell := some (.b (false)) }), (8, { tell := some (.b (decide ((0 : Int) < n_0 ∧ w_1[(n_0 - (1 : Int)).toNat]! = (0 : Int)))) })] [1, 3, 13] [1] (by kernel_rfl) (by kernel_rfl) ⟨(told_false h_8), (by simp only [eq_false h_8, told_simp1, told_simp2, and_true, true_and, and_false, false_and, or_true, true_or, or_false, false_or, not_true_eq_false, not_false_eq_true, decide_true, decide_false, Bool.decide_eq_true])⟩ ?_
      exact ⟨rfl, rfl⟩
  ·
    refine q_seq_normal ?_
    refine st_dec ((0 : Int) < n_0 ∧ w_1[(n_0 - (1 : Int)).toNat]! = (0 : Int)) (by kernel_rfl) (by kernel_rfl) (fun h_9 => ?_) (fun h_9 => ?_)
    ·
      refine st_skip (by kernel_rfl) ?_
      refine q_seq_normal ?_
      refine st_block 1 (by kernel_rfl) ?_
      refine st_reg (A := (AV.i IntKind.i64 (IntKind.i64.wrap (n_0 - (1 : Int))) = AV.i IntKind.i64 (n_0 - (1 : Int)))) (σ' := ⟨[(1, .ptr (1) (0) (0) (0)), (3, .i .i64 (n_0 - (1 : Int)))], [(1, ⟨0, 62, .arr (cA (AV.i IntKind.i64) w_1)⟩)]⟩) cx [(1, { tell := some (.i .i64 (n_0 - (1 : Int))) })] [1, 3] [1] (by kernel_rfl) (by kernel_rfl) (told_i64 (by omega) (by omega)) ?_
      refine q_blk_normal ?_
      refine q_seq_normal ?_
      exact loop_next ((n_0 - (1 : Int), w_1)) (by kernel_rfl) (show (n_0 - (1 : Int)).toNat < n_0.toNat from (by omega)) (g1 n_0 w_1 h_3 h_4 h_5 h_6 h_9)
    ·
      refine st_exit 0 (by kernel_rfl) ?_
      refine q_seq_exit ?_
      refine q_seq_exit ?_
      refine q_blk_hit ?_
      refine q_seq_normal ?_
      refine st_seq (by kernel_rfl) ?_
      refine st_reg (A := (n_0 = (↑n_0.toNat : Int)) ∧ (n_0 = (↑n_0.toNat : Int)) ∧ ((8 : Nat) * n_0.toNat ≤ (281474976710656 : Nat)) ∧ (n_0.toNat ≤ maxLen) ∧ ([AV.i IntKind.i64 (0 : Int)].length = (1 : Nat)) ∧ (ZLe [AV.i IntKind.i64 (0 : Int)] [AV.i IntKind.i64 (0 : Int)]) ∧ (List.replicate n_0.toNat [AV.i IntKind.i64 (0 : Int)] = List.map c3 (List.replicate n_0.toNat (0 : Int)))) (σ' := ⟨[(1, .ptr (1) (0) (0) (0)), (3, .i .i64 (n_0)), (4, .own 17 0)], [(1, ⟨0, 62, .arr (cA (AV.i IntKind.i64) w_1)⟩), (17, ⟨0, 3, .row 1 (List.map c3 (List.replicate n_0.toNat (0 : Int)))⟩)]⟩) cx [(1, { row := [.i .i64 ((0 : Int))], rows := some (List.map c3 (List.replicate n_0.toNat (0 : Int))), n := n_0.toNat })] [1, 3, 4] [1, 17] (by kernel_rfl) (by kernel_rfl) ⟨(by omega), (by omega), (by omega), (by (simp only [Go.maxLen]; omega)), (by kernel_rfl), (by (with_reducible exact ZLe.refl _)), (by (with_reducible refine rep_map ?_; kernel_rfl))⟩ ?_
      refine q_seq_normal ?_
      refine st_seq (by kernel_rfl) ?_
      refine st_reg (A := ((0 : Int) ≤ (0 : Int)) ∧ ((0 : Int) ≤ n_0) ∧ (n_0 ≤ (↑(16 : Nat) : Int)) ∧ ((0 : Int) < (↑(16 : Nat) : Int)) ∧ ((cA (AV.i IntKind.i64) w_1).length = (16 : Nat)) ∧ (Option.map TI.size (E.look tab (3 : Nat)) = some (1 : Nat)) ∧ ((16 : Nat) ≤ maxLen) ∧ ((1 : Nat) = 1) ∧ (∀ (r : List AV), r ∈ List.map (fun c ↦ [c]) (List.take (n_0 - (0 : Int)).toNat (List.drop (0) (cA (AV.i IntKind.i64) w_1))) → r.length = 1) ∧ (List.take (List.map c3 (List.replicate n_0.toNat (0 : Int))).length (List.map (fun c ↦ [c]) (List.take (n_0 - (0 : Int)).toNat (List.drop (0) (cA (AV.i IntKind.i64) w_1)))) ++ List.drop (List.map (fun c ↦ [c]) (List.take (n_0 - (0 : Int)).toNat (List.drop (0) (cA (AV.i IntKind.i64) w_1)))).length (List.map c3 (List.replicate n_0.toNat (0 : Int))) = List.map c3 (List.take (List.replicate n_0.toNat (0 : Int)).length (List.take (n_0 - (0 : Int)).toNat (List.drop (0) w_1.toList)) ++ List.drop (List.take (n_0 - (0 : Int)).toNat (List.drop (0) w_1.toList)).length (List.replicate n_0.toNat (0 : Int))))) (σ' := ⟨[(4, .own 17 0)], [(17, ⟨0, 3, .row 1 (List.map c3 (List.take (List.replicate n_0.toNat (0 : Int)).length (List.take (n_0 - (0 : Int)).toNat (List.drop (0) w_1.toList)) ++ List.drop (List.take (n_0 - (0 : Int)).toNat (List.drop (0) w_1.toList)).length (List.replicate n_0.toNat (0 : Int))))⟩)]⟩) cx [(3, { rows := some (List.map c3 (List.take (List.replicate n_0.toNat (0 : Int)).length (List.take (n_0 - (0 : Int)).toNat (List.drop (0) w_1.toList)) ++ List.drop (List.take (n_0 - (0 : Int)).toNat (List.drop (0) w_1.toList)).length (List.replicate n_0.toNat (0 : Int)))) })] [4] [17] (by kernel_rfl) (by kernel_rfl) ⟨(by omega), (by (with_reducible assumption)), (by omega), (by omega), (by (simp only [len_cA]; done)), (by kernel_rfl), (by (simp only [Go.maxLen]; omega)), (by kernel_rfl), (by (with_reducible refine len_map (fun _ => ?_) _; kernel_rfl)), (by (with_reducible refine copy_map ?_; with_reducible exact vw_cA (fun _ => rfl)))⟩ ?_
      refine q_seq_normal ?_
      refine st_seq (by kernel_rfl) ?_
      refine st_reg (A := True) (σ' := ⟨[(2, .own 17 0)], [(17, ⟨0, 3, .row 1 (List.map c3 (List.take (List.replicate n_0.toNat (0 : Int)).length (List.take (n_0 - (0 : Int)).toNat (List.drop (0) w_1.toList)) ++ List.drop (List.take (n_0 - (0 : Int)).toNat (List.drop (0) w_1.toList)).length (List.replicate n_0.toNat (0 : Int))))⟩)]⟩) cx [] [2] [17] (by kernel_rfl) (by kernel_rfl) trivial ?_
      refine q_seq_normal ?_
      refine st_ret (by kernel_rfl) ?_
      exact q_ret (r := .sl (List.map c3 (List.take (List.replicate n_0.toNat (0 : Int)).length (List.take (n_0 - (0 : Int)).toNat (List.drop (0) w_1.toList)) ++ List.drop (List.take (n_0 - (0 : Int)).toNat (List.drop (0) w_1.toList)).length (List.replicate n_0.toNat (0 : Int))))) (obl := []) (by kernel_rfl) trivial (AVle.eq (g2 n_0 w_1 h_3 h_4 h_5 h_6 h_9))
theorem topN_step {v : Vector Int 16} {n : Int} (h : 0 < n) : topN v n.toNat = if v[(n - 1).toNat]! = 0 then topN v (n - 1).toNat else n.toNat := by
  obtain ⟨k, hk⟩ : ∃ k, n.toNat = k + 1 := ⟨n.toNat - 1, by omega⟩
  have hk' : (n - 1).toNat = k := by omega
  rw [hk, hk', topN]
theorem fin51 {v : Vector Int 16} {n : Int} (h0 : 0 ≤ n) (h1 : n ≤ 16) (h : topN v 16 = n.toNat) :
    List.take (List.replicate n.toNat (0 : Int)).length (List.take (n - 0).toNat (List.drop 0 v.toList)) ++ List.drop (List.take (n - 0).toNat (List.drop 0 v.toList)).length (List.replicate n.toNat (0 : Int)) = short v := by
  have e : (n - 0).toNat = n.toNat := by omega
  rw [e, short, h]
  have hl : v.toList.length = 16 := by simp
  have h2 : (List.take n.toNat (List.drop 0 v.toList)).length = n.toNat := by rw [List.drop_zero, List.length_take, hl]; omega
  rw [h2, List.length_replicate, List.drop_zero, List.take_take, Nat.min_self, List.drop_eq_nil_of_le (by simp), List.append_nil]
theorem top_end {v : Vector Int 16} {n : Int} (h0 : 0 ≤ n) (h2 : topN v 16 = topN v n.toNat) (h : ¬(0 < n ∧ v[(n - 1).toNat]! = 0)) : topN v 16 = n.toNat := by
  by_cases e : 0 < n
  · rw [h2, topN_step e, if_neg (fun k => h ⟨e, k⟩)]
  · have : n = 0 := by omega
    subst this; rw [h2]; rfl
theorem con51 (v : Vector Int 16) : Con Try.prog 51 [.agg (c62 v)] (.sl ((short v).map c3)) :=
  by
  refine walk51 v ⟨by decide, by decide, rfl, rfl⟩ (fun n w h0 h1 h2 h3 h4 => ⟨by omega, by omega, ?_, h3⟩) (fun n w h0 h1 h2 h3 h4 => ?_)
  · subst h3; rw [h2, topN_step h4.1, if_pos h4.2]
  · subst h3; rw [fin51 h0 h1 (top_end h0 h2 h4)]
theorem walk52 (v : Vector Int (16 : Nat))
    (g0 : inv51 v (16 : Int) v)
    (g1 : ∀ (n_0 : Int) (w_1 : Vector Int (16 : Nat)), (0 : Int) ≤ n_0 → n_0 ≤ (16 : Int) → topN v (16 : Nat) = topN v n_0.toNat → w_1 = v → (0 : Int) < n_0 ∧ w_1[(n_0 - (1 : Int)).toNat]! = (0 : Int) → inv51 v (n_0 - (1 : Int)) w_1)
    (g2 : ∀ (n_0 : Int) (w_1 : Vector Int (16 : Nat)), (0 : Int) ≤ n_0 → n_0 ≤ (16 : Int) → topN v (16 : Nat) = topN v n_0.toNat → w_1 = v → ¬((0 : Int) < n_0 ∧ w_1[(n_0 - (1 : Int)).toNat]! = (0 : Int)) → inv52 v n_0 (0 : Int) w_1 [])
    (g3 : ∀ (n_0 : Int) (w_1 : Vector Int (16 : Nat)), (0 : Int) ≤ n_0 → n_0 ≤ (16 : Int) → topN v (16 : Nat) = topN v n_0.toNat → w_1 = v → ¬((0 : Int) < n_0 ∧ w_1[(n_0 - (1 : Int)).toNat]! = (0 : Int)) → ∀ (i_10 : Int) (w_11 : Vector Int (16 : Nat)) (xs_12 : List Int), (0 : Int) ≤ i_10 → i_10 ≤ n_0 → w_11 = v → xs_12 = List.take i_10.toNat v.toList → xs_12.length ≤ (16 : Nat) → i_10 < n_0 → inv52 v n_0 (i_10 + (1 : Int)) w_11 (xs_12 ++ [w_11[i_10.toNat]!]))
    (g4 : ∀ (n_0 : Int) (w_1 : Vector Int (16 : Nat)), (0 : Int) ≤ n_0 → n_0 ≤ (16 : Int) → topN v (16 : Nat) = topN v n_0.toNat → w_1 = v → ¬((0 : Int) < n_0 ∧ w_1[(n_0 - (1 : Int)).toNat]! = (0 : Int)) → ∀ (i_10 : Int) (w_11 : Vector Int (16 : Nat)) (xs_12 : List Int), (0 : Int) ≤ i_10 → i_10 ≤ n_0 → w_11 = v → xs_12 = List.take i_10.toNat v.toList → xs_12.length ≤ (16 : Nat) → ¬i_10 < n_0 → AV.sl (List.map c3 xs_12) = AV.sl (List.map c3 (short v))) :
    Con Try.prog (52 : FuncId) [AV.agg (c61 v)] (AV.sl (List.map c3 (short v))) := by
  refine st_con tab_ok (by kernel_rfl) [.tmp 2] 29 Go.Proofs.Try.func52 (by kernel_rfl) (by kernel_rfl) ?_
  intro e0 cx
  refine st_seq (by kernel_rfl) ?_
  refine st_reg (A := True) (σ' := ⟨[(1, .ptr (1) (0) (0) (0))], [(1, ⟨0, 61, .arr (cA (AV.i IntKind.i64) v)⟩)]⟩) cx [] [1] [1] (by kernel_rfl) (by kernel_rfl) trivial ?_
  refine q_seq_normal ?_
  refine st_seq (by kernel_rfl) ?_
  refine st_reg (A := True) (σ' := ⟨[(1, .ptr (1) (0) (0) (0)), (3, .i .i64 ((16 : Int)))], [(1, ⟨0, 61, .arr (cA (AV.i IntKind.i64) v)⟩)]⟩) cx [] [1, 3] [1] (by kernel_rfl) (by kernel_rfl) trivial ?_
  refine q_seq_normal ?_
  refine st_seq (by kernel_rfl) ?_
  refine st_block 0 (by kernel_rfl) ?_
  refine st_loop (X := Int × Vector Int (16 : Nat)) (fun x => ⟨[(1, .ptr (1) (0) (0) (0)), (3, .i .i64 (x.fst))], [(1, ⟨0, 61, .arr (cA (AV.i IntKind.i64) x.snd)⟩)]⟩) (fun x ↦ dec51 x.fst x.snd) (fun x ↦ inv51 v x.fst x.snd) [1, 3] [1] (((16 : Int), v)) (by kernel_rfl) (by kernel_rfl) g0 ?_
  rintro ⟨n_0, w_1⟩ h_2
  obtain ⟨h_3, h_4, h_5, h_6⟩ : (0 : Int) ≤ n_0 ∧ n_0 ≤ (16 : Int) ∧ topN v (16 : Nat) = topN v n_0.toNat ∧ w_1 = v := h_2
  refine st_seq (by kernel_rfl) ?_
  refine st_seq (by kernel_rfl) ?_
  refine st_join (σ' := ⟨[(1, .ptr (1) (0) (0) (0)), (3, .i .i64 (n_0)), (14, .b (decide ((0 : Int) < n_0 ∧ w_1[(n_0 - (1 : Int)).toNat]! = (0 : Int))))], [(1, ⟨0, 61, .arr (cA (AV.i IntKind.i64) w_1)⟩)]⟩) ?_ ?_
  ·
    refine st_split ((0 : Int) < n_0) (fun h_8 => ?_) (fun h_8 => ?_)
    ·
      refine st_reg (A := (AV.b (decide (n_0 > (0 : Int))) = AV.b true) ∧ (AV.i IntKind.i64 (IntKind.i64.wrap (n_0 - (1 : Int))) = AV.i IntKind.i64 (n_0 - (1 : Int))) ∧ ((0 : Int) ≤ n_0 - (1 : Int)) ∧ (n_0 - (1 : Int) < (↑(16 : Nat) : Int)) ∧ ((cA (AV.i IntKind.i64) w_1)[(n_0 - (1 : Int)).toNat * (1 : Nat) + 0]? = some (AV.i IntKind.i64 w_1[(n_0 - (1 : Int)).toNat]!)) ∧ (AV.b (w_1[(n_0 - (1 : Int)).toNat]! == (0 : Int)) = AV.b (decide (w_1[(n_0 - (1 : Int)).toNat]! = (0 : Int)))) ∧ (AV.b (decide (w_1[(n_0 - (1 : Int)).toNat]! = (0 : Int))) = AV.b (decide ((0 : Int) < n_0 ∧ w_1[(n_0 - (1 : Int)).toNat]! = (0 : Int))))) (σ' := ⟨[(1, .ptr (1) (0) (0) (0)), (3, .i .i64 (n_0)), (14, .b (decide ((0 : Int) < n_0 ∧ w_1[(n_0 - (1 : Int)).toNat]! = (0 : Int))))], [(1, ⟨0, 61, .arr (cA (AV.i IntKind.i64) w_1)⟩)]⟩) cx [(1, { tell := some (.b (true)) }), (4, { tell := some (.i .i64 (n_0 - (1 : Int))) }), (6, { row := [.i .i64 (w_1[(n_0 - (1 : Int)).toNat]!)] }), (7, { tell := some (.b (decide (w_1[(n_0 - (1 : Int)).toNat]! = (0 : Int)))) }), (8, { tell := some (.b (decide ((0 : Int) < n_0 ∧ w_1[(n_0 - (1 : Int)).toNat]! = (0 : Int)))) })] [1, 3, 14] [1] (by kernel_rfl) (by kernel_rfl) ⟨(told_true h_8), (told_i64 (by omega) (by omega)), (by omega), (by omega), (by (simp only [Nat.mul_one, Nat.add_zero, Nat.zero_add]; with_reducible refine get_cA ?_; omega)), (by kernel_rfl), (by simp only [eq_true h_8, told_simp1, told_simp2, and_true, true_and, and_false, false_and, or_true, true_or, or_false, false_or, not_true_eq_false, not_false_eq_true, decide_true, decide_false, Bool.decide_eq_true])⟩ ?_
      exact ⟨rfl, rfl⟩
    ·
      refine st_reg (A := (AV.b (decide (n_0 > (0 : Int))) = AV.b false) ∧ (AV.b false = AV.b (decide ((0 : Int) < n_0 ∧ w_1[(n_0 - (1 : Int)).toNat]! = (0 : Int))))) (σ' := ⟨[(1, .ptr (1) (0) (0) (0)), (3, .i .i64 (n_0)), (14, .b (decide ((0 : Int) < n_0 ∧ w_1[(n_0 - (1 : Int)).toNat]! = (0 : Int))))], [(1, ⟨0, 61, .arr (cA (AV.i IntKind.i64) w_1)⟩)]⟩) cx [(1, { tell := some (.b (false)) }), (8, { tell := some (.b (decide ((0 : Int) < n_0 ∧ w_1[(n_0 - (1 : Int)).toNat]! = (0 : Int)))) })] [1, 3, 14] [1] (by kernel_rfl) (by kernel_rfl) ⟨(told_false h_8), (by simp only [eq_false h_8, told_simp1, told_simp2, and_true, true_and, and_false, false_and, or_true, true_or, or_false, false_or, not_true_eq_false, not_false_eq_true, decide_true, decide_false, Bool.decide_eq_true])⟩ ?_
      exact ⟨rfl, rfl⟩
  ·
    refine q_seq_normal ?_
    refine st_dec ((0 : Int) < n_0 ∧ w_1[(n_0 - (1 : Int)).toNat]! = (0 : Int)) (by kernel_rfl) (by kernel_rfl) (fun h_9 => ?_) (fun h_9 => ?_)
    ·
      refine st_skip (by kernel_rfl) ?_
      refine q_seq_normal ?_
      refine st_block 1 (by kernel_rfl) ?_
      refine st_reg (A := (AV.i IntKind.i64 (IntKind.i64.wrap (n_0 - (1 : Int))) = AV.i IntKind.i64 (n_0 - (1 : Int)))) (σ' := ⟨[(1, .ptr (1) (0) (0) (0)), (3, .i .i64 (n_0 - (1 : Int)))], [(1, ⟨0, 61, .arr (cA (AV.i IntKind.i64) w_1)⟩)]⟩) cx [(1, { tell := some (.i .i64 (n_0 - (1 : Int))) })] [1, 3] [1] (by kernel_rfl) (by kernel_rfl) (told_i64 (by omega) (by omega)) ?_
      refine q_blk_normal ?_
      refine q_seq_normal ?_
      exact loop_next ((n_0 - (1 : Int), w_1)) (by kernel_rfl) (show (n_0 - (1 : Int)).toNat < n_0.toNat from (by omega)) (g1 n_0 w_1 h_3 h_4 h_5 h_6 h_9)
    ·
      refine st_exit 0 (by kernel_rfl) ?_
      refine q_seq_exit ?_
      refine q_seq_exit ?_
      refine q_blk_hit ?_
      refine q_seq_normal ?_
      refine st_seq (by kernel_rfl) ?_
      refine st_reg (A := True) (σ' := ⟨[(1, .ptr (1) (0) (0) (0)), (3, .i .i64 (n_0)), (4, .nl)], [(1, ⟨0, 61, .arr (cA (AV.i IntKind.i64) w_1)⟩)]⟩) cx [] [1, 3, 4] [1] (by kernel_rfl) (by kernel_rfl) trivial ?_
      refine q_seq_normal ?_
      refine st_seq (by kernel_rfl) ?_
      refine st_seq (by kernel_rfl) ?_
      refine st_reg (A := True) (σ' := ⟨[(1, .ptr (1) (0) (0) (0)), (3, .i .i64 (n_0)), (4, .nl), (5, .i .i64 ((0 : Int)))], [(1, ⟨0, 61, .arr (cA (AV.i IntKind.i64) w_1)⟩)]⟩) cx [] [1, 3, 4, 5] [1] (by kernel_rfl) (by kernel_rfl) trivial ?_
      refine q_seq_normal ?_
      refine st_block 2 (by kernel_rfl) ?_
      refine awp_adopt 4 1004 3 1 (σ' := ⟨[(1, .ptr (1) (0) (0) (0)), (3, .i .i64 (n_0)), (4, .own 1004 0), (5, .i .i64 ((0 : Int)))], [(1, ⟨0, 61, .arr (cA (AV.i IntKind.i64) w_1)⟩), (1004, ⟨0, 3, .row 1 (List.map c3 [])⟩)]⟩) (by kernel_rfl) ?_
      refine st_loop (X := Int × Vector Int (16 : Nat) × List Int) (fun x => ⟨[(1, .ptr (1) (0) (0) (0)), (3, .i .i64 (n_0)), (4, .own 1004 0), (5, .i .i64 (x.fst))], [(1, ⟨0, 61, .arr (cA (AV.i IntKind.i64) x.snd.fst)⟩), (1004, ⟨0, 3, .row 1 (List.map c3 x.snd.snd)⟩)]⟩) (fun x ↦ dec52 n_0 x.fst x.snd.fst x.snd.snd) (fun x ↦ inv52 v n_0 x.fst x.snd.fst x.snd.snd) [1, 3, 4, 5] [1, 1004] (((0 : Int), w_1, [])) (by kernel_rfl) (by kernel_rfl) (g2 n_0 w_1 h_3 h_4 h_5 h_6 h_9) ?_
      rintro ⟨i_10, w_11, xs_12⟩ h_13
      obtain ⟨h_14, h_15, h_16, h_17, h_18⟩ : (0 : Int) ≤ i_10 ∧ i_10 ≤ n_0 ∧ w_11 = v ∧ xs_12 = List.take i_10.toNat v.toList ∧ xs_12.length ≤ (16 : Nat) := h_13
      refine st_seq (by kernel_rfl) ?_
      refine st_seq (by kernel_rfl) ?_
      refine st_reg (A := (AV.b (decide (i_10 < n_0)) = AV.b (decide (i_10 < n_0)))) (σ' := ⟨[(1, .ptr (1) (0) (0) (0)), (3, .i .i64 (n_0)), (4, .own 1004 0), (5, .i .i64 (i_10)), (19, .b (decide (i_10 < n_0)))], [(1, ⟨0, 61, .arr (cA (AV.i IntKind.i64) w_11)⟩), (1004, ⟨0, 3, .row 1 (List.map c3 xs_12)⟩)]⟩) cx [(2, { tell := some (.b (decide (i_10 < n_0))) })] [1, 3, 4, 5, 19] [1, 1004] (by kernel_rfl) (by kernel_rfl) (by kernel_rfl) ?_
      refine q_seq_normal ?_
      refine st_dec (i_10 < n_0) (by kernel_rfl) (by kernel_rfl) (fun h_19 => ?_) (fun h_19 => ?_)
      ·
        refine st_skip (by kernel_rfl) ?_
        refine q_seq_normal ?_
        refine st_seq (by kernel_rfl) ?_
        refine st_block 3 (by kernel_rfl) ?_
        refine st_reg (A := ((0 : Int) ≤ i_10) ∧ (i_10 < (↑(16 : Nat) : Int)) ∧ ((cA (AV.i IntKind.i64) w_11)[i_10.toNat * (1 : Nat) + 0]? = some (AV.i IntKind.i64 w_11[i_10.toNat]!)) ∧ (3 = (3 : Nat)) ∧ ((1 : Nat) = 1) ∧ ([AV.i IntKind.i64 (0 : Int)].length = (1 : Nat)) ∧ (∀ (r : List AV), r ∈ List.map c3 [w_11[i_10.toNat]!] → r.length = 1) ∧ ((List.map c3 xs_12).length + (List.map c3 [w_11[i_10.toNat]!]).length ≤ maxLen) ∧ (((List.map c3 xs_12).length + (List.map c3 [w_11[i_10.toNat]!]).length) * (8 : Nat) ≤ (140737488355328 : Nat)) ∧ (List.map c3 xs_12 ++ List.map c3 [w_11[i_10.toNat]!] = List.map c3 (xs_12 ++ [w_11[i_10.toNat]!]))) (σ' := ⟨[(1, .ptr (1) (0) (0) (0)), (3, .i .i64 (n_0)), (4, .own 1004 0), (5, .i .i64 (i_10))], [(1, ⟨0, 61, .arr (cA (AV.i IntKind.i64) w_11)⟩), (1004, ⟨0, 3, .row 1 (List.map c3 (xs_12 ++ [w_11[i_10.toNat]!]))⟩)]⟩) cx [(3, { row := [.i .i64 (w_11[i_10.toNat]!)] }), (5, { rows := some (List.map c3 (xs_12 ++ [w_11[i_10.toNat]!])) })] [1, 3, 4, 5] [1, 1004] (by kernel_rfl) (by kernel_rfl) ⟨(by (with_reducible assumption)), (by omega), (by (simp only [Nat.mul_one, Nat.add_zero, Nat.zero_add]; with_reducible refine get_cA ?_; omega)), (by kernel_rfl), (by kernel_rfl), (by kernel_rfl), (by (with_reducible refine len_map (fun _ => ?_) _; kernel_rfl)), (by (simp only [Go.maxLen, List.length_map, List.length_append, List.length_cons, List.length_nil]; omega)), (by (simp only [Go.maxLen, List.length_map, List.length_append, List.length_cons, List.length_nil]; omega)), (by (with_reducible refine app_map ?_; kernel_rfl))⟩ ?_
        refine q_blk_normal ?_
        refine q_seq_normal ?_
        refine st_reg (A := (AV.i IntKind.i64 (IntKind.i64.wrap (i_10 + (1 : Int))) = AV.i IntKind.i64 (i_10 + (1 : Int)))) (σ' := ⟨[(1, .ptr (1) (0) (0) (0)), (3, .i .i64 (n_0)), (4, .own 1004 0), (5, .i .i64 (i_10 + (1 : Int)))], [(1, ⟨0, 61, .arr (cA (AV.i IntKind.i64) w_11)⟩), (1004, ⟨0, 3, .row 1 (List.map c3 (xs_12 ++ [w_11[i_10.toNat]!]))⟩)]⟩) cx [(1, { tell := some (.i .i64 (i_10 + (1 : Int))) })] [1, 3, 4, 5] [1, 1004] (by kernel_rfl) (by kernel_rfl) (told_i64 (by omega) (by omega)) ?_
        refine q_seq_normal ?_
        exact loop_next ((i_10 + (1 : Int), w_11, xs_12 ++ [w_11[i_10.toNat]!])) (by kernel_rfl) (show (n_0 - (i_10 + (1 : Int))).toNat < (n_0 - i_10).toNat from (by omega)) (g3 n_0 w_1 h_3 h_4 h_5 h_6 h_9 i_10 w_11 xs_12 h_14 h_15 h_16 h_17 h_18 h_19)
      ·
        refine st_exit 2 (by kernel_rfl) ?_
        refine q_seq_exit ?_
        refine q_seq_exit ?_
        refine q_blk_hit ?_
        refine q_seq_normal ?_
        refine st_seq (by kernel_rfl) ?_
        refine st_reg (A := True) (σ' := ⟨[(2, .own 1004 0)], [(1004, ⟨0, 3, .row 1 (List.map c3 xs_12)⟩)]⟩) cx [] [2] [1004] (by kernel_rfl) (by kernel_rfl) trivial ?_
        refine q_seq_normal ?_
        refine st_ret (by kernel_rfl) ?_
        exact q_ret (r := .sl (List.map c3 xs_12)) (obl := []) (by kernel_rfl) trivial (AVle.eq (g4 n_0 w_1 h_3 h_4 h_5 h_6 h_9 i_10 w_11 xs_12 h_14 h_15 h_16 h_17 h_18 h_19))
theorem take_succ_bang {v : Vector Int 16} {i : Int} (h0 : 0 ≤ i) (h1 : i < 16) : v.toList.take i.toNat ++ [v[i.toNat]!] = v.toList.take (i + 1).toNat := by
  have e : (i + 1).toNat = i.toNat + 1 := by omega
  have hl : i.toNat < v.toList.length := by simp; omega
  rw [e, List.take_succ_eq_append_getElem hl]
  have : i.toNat < 16 := by omega
  simp [this]
theorem inv52_step {v w : Vector Int 16} {n i : Int} {xs : List Int} (hn : n ≤ 16) (h0 : 0 ≤ i) (hw : w = v) (hx : xs = v.toList.take i.toNat) (hi : i < n) : inv52 v n (i + 1) w (xs ++ [w[i.toNat]!]) := by
  subst hw
  subst hx
  refine ⟨by omega, by omega, rfl, take_succ_bang h0 (by omega), ?_⟩
  rw [take_succ_bang h0 (by omega), List.length_take]
  omega
theorem con52 (v : Vector Int 16) : Con Try.prog 52 [.agg (c61 v)] (.sl ((short v).map c3)) :=
  by
  refine walk52 v ⟨by decide, by decide, rfl, rfl⟩ (fun n w h0 h1 h2 h3 h4 => ⟨by omega, by omega, ?_, h3⟩) (fun n w h0 h1 h2 h3 h4 => ⟨by omega, by omega, h3, by simp, by simp⟩)
    (fun n w h0 h1 h2 h3 h4 i w' xs k0 k1 k2 k3 k4 k5 => inv52_step h1 k0 k2 k3 k5) (fun n w h0 h1 h2 h3 h4 i w' xs k0 k1 k2 k3 k4 k5 => ?_)
  · subst h3; rw [h2, topN_step h4.1, if_pos h4.2]
  · subst h3
    have : i = n := by omega
    subst this
    rw [k3, short, top_end h0 h2 h4]
theorem walk36 (v : List Int) :
    Con Try.prog (36 : FuncId) [AV.sl (List.map c3 v)] (AV.sl (List.map c3 (short (of v)))) := by
  refine con_lens 0 (c3) (v) (by kernel_rfl) Go.Proofs.Try.func36 (by kernel_rfl) fun hl_0 => ?_
  refine st_con tab_ok (by kernel_rfl) [.tmp 2] 6 Go.Proofs.Try.func36 (by kernel_rfl) (by kernel_rfl) ?_
  intro e0 cx
  refine st_seq (by kernel_rfl) ?_
  refine st_reg (A := True) (σ' := ⟨[(0, .sl (List.map c3 v))], []⟩) cx [] [0] [] (by kernel_rfl) (by kernel_rfl) trivial ?_
  refine q_seq_normal ?_
  refine st_seq (by kernel_rfl) ?_
  refine st_reg (A := (Con Try.prog (49 : FuncId) [AV.sl (List.map c3 v)] (AV.agg (c62 (of v)))) ∧ (Con Try.prog (51 : FuncId) [AV.agg (c62 (of v))] (AV.sl (List.map c3 (short (of v)))))) (σ' := ⟨[(2, .sl (List.map c3 (short (of v))))], []⟩) cx [(1, { val := some (.agg (cA (AV.i IntKind.i64) (of v))) }), (2, { val := some (.sl (List.map c3 (short (of v)))) })] [2] [] (by kernel_rfl) (by kernel_rfl) ⟨(con49 (v)), (con51 (of v))⟩ ?_
  refine q_seq_normal ?_
  refine st_ret (by kernel_rfl) ?_
  exact q_ret (r := .sl (List.map c3 (short (of v)))) (obl := []) (by kernel_rfl) trivial (AVle.refl _)
theorem con36 (v : List Int) : Con Try.prog 36 [.sl (v.map c3)] (.sl ((short (of v)).map c3)) :=
  walk36 v
theorem walk33 (v : List Int) :
    Con Try.prog (33 : FuncId) [AV.sl (List.map c3 v)] (AV.sl (List.map c3 (short (of v)))) := by
  refine con_lens 0 (c3) (v) (by kernel_rfl) Go.Proofs.Try.func33 (by kernel_rfl) fun hl_0 => ?_
  refine st_con tab_ok (by kernel_rfl) [.tmp 2] 6 Go.Proofs.Try.func33 (by kernel_rfl) (by kernel_rfl) ?_
  intro e0 cx
  refine st_seq (by kernel_rfl) ?_
  refine st_reg (A := True) (σ' := ⟨[(0, .sl (List.map c3 v))], []⟩) cx [] [0] [] (by kernel_rfl) (by kernel_rfl) trivial ?_
  refine q_seq_normal ?_
  refine st_seq (by kernel_rfl) ?_
  refine st_reg (A := (Con Try.prog (50 : FuncId) [AV.sl (List.map c3 v)] (AV.agg (c61 (of v)))) ∧ (Con Try.prog (52 : FuncId) [AV.agg (c61 (of v))] (AV.sl (List.map c3 (short (of v)))))) (σ' := ⟨[(2, .sl (List.map c3 (short (of v))))], []⟩) cx [(1, { val := some (.agg (cA (AV.i IntKind.i64) (of v))) }), (2, { val := some (.sl (List.map c3 (short (of v)))) })] [2] [] (by kernel_rfl) (by kernel_rfl) ⟨(con50 (v)), (con52 (of v))⟩ ?_
  refine q_seq_normal ?_
  refine st_ret (by kernel_rfl) ?_
  exact q_ret (r := .sl (List.map c3 (short (of v)))) (obl := []) (by kernel_rfl) trivial (AVle.refl _)
theorem con33 (v : List Int) : Con Try.prog 33 [.sl (v.map c3)] (.sl ((short (of v)).map c3)) :=
  walk33 v
theorem walk34 (v : List Int) :
    Con Try.prog (34 : FuncId) [AV.sl (List.map c3 v)] (AV.b (decide (v = short (of v)))) := by
  refine con_lens 0 (c3) (v) (by kernel_rfl) Go.Proofs.Try.func34 (by kernel_rfl) fun hl_0 => ?_
  refine st_con tab_ok (by kernel_rfl) [.tmp 2] 7 Go.Proofs.Try.func34 (by kernel_rfl) (by kernel_rfl) ?_
  intro e0 cx
  refine st_seq (by kernel_rfl) ?_
  refine st_reg (A := True) (σ' := ⟨[(0, .sl (List.map c3 v))], []⟩) cx [] [0] [] (by kernel_rfl) (by kernel_rfl) trivial ?_
  refine q_seq_normal ?_
  refine st_seq (by kernel_rfl) ?_
  refine st_reg (A := (Con Try.prog (33 : FuncId) [AV.sl (List.map c3 v)] (AV.sl (List.map c3 (short (of v))))) ∧ (Con Try.prog (20 : FuncId) [AV.sl (List.map c3 v), AV.sl (List.map c3 (short (of v)))] (AV.b (decide (v = short (of v)))))) (σ' := ⟨[(2, .b (decide (v = short (of v))))], []⟩) cx [(2, { val := some (.sl (List.map c3 (short (of v)))) }), (3, { val := some (.b (decide (v = short (of v)))) })] [2] [] (by kernel_rfl) (by kernel_rfl) ⟨(con33 (v)), (con20 (v) (short (of v)))⟩ ?_
  refine q_seq_normal ?_
  refine st_ret (by kernel_rfl) ?_
  exact q_ret (r := .b (decide (v = short (of v)))) (obl := []) (by kernel_rfl) trivial (AVle.refl _)
theorem con34 (v : List Int) : Con Try.prog 34 [.sl (v.map c3)] (.b (decide (v = short (of v)))) :=
  walk34 v
theorem walk31 (v : List Int)
    (g0 : (16 : Int) < (↑v.length : Int) → AV.b false = AV.b (decide (v = short (of v))))
    (g1 : ¬(16 : Int) < (↑v.length : Int) → inv31 v (0 : Int))
    (g2 : ¬(16 : Int) < (↑v.length : Int) → ∀ (i_1 : Int), (0 : Int) ≤ i_1 → i_1 ≤ (↑v.length : Int) → (∀ (j : Nat), (↑j : Int) < i_1 → (0 : Int) ≤ v[j]! ∧ v[j]! ≤ (1000000000 : Int)) → i_1 < (↑v.length : Int) → v[i_1.toNat]! < (0 : Int) ∨ (1000000000 : Int) < v[i_1.toNat]! → AV.b false = AV.b (decide (v = short (of v))))
    (g3 : ¬(16 : Int) < (↑v.length : Int) → ∀ (i_1 : Int), (0 : Int) ≤ i_1 → i_1 ≤ (↑v.length : Int) → (∀ (j : Nat), (↑j : Int) < i_1 → (0 : Int) ≤ v[j]! ∧ v[j]! ≤ (1000000000 : Int)) → i_1 < (↑v.length : Int) → ¬(v[i_1.toNat]! < (0 : Int) ∨ (1000000000 : Int) < v[i_1.toNat]!) → inv31 v (i_1 + (1 : Int)))
    (g4 : ¬(16 : Int) < (↑v.length : Int) → ∀ (i_1 : Int), (0 : Int) ≤ i_1 → i_1 ≤ (↑v.length : Int) → (∀ (j : Nat), (↑j : Int) < i_1 → (0 : Int) ≤ v[j]! ∧ v[j]! ≤ (1000000000 : Int)) → ¬i_1 < (↑v.length : Int) → AV.b (decide ((↑v.length : Int) = (0 : Int) ∨ ¬v[((↑v.length : Int) - (1 : Int)).toNat]! = (0 : Int))) = AV.b (decide (v = short (of v)))) :
    Con Try.prog (31 : FuncId) [AV.sl (List.map c3 v)] (AV.b (decide (v = short (of v)))) := by
  refine con_lens 0 (c3) (v) (by kernel_rfl) Go.Proofs.Try.func31 (by kernel_rfl) fun hl_0 => ?_
  refine st_con tab_ok (by kernel_rfl) [.tmp 2] 33 Go.Proofs.Try.func31 (by kernel_rfl) (by kernel_rfl) ?_
  intro e0 cx
  refine st_seq (by kernel_rfl) ?_
  refine st_reg (A := True) (σ' := ⟨[(0, .sl (List.map c3 v))], []⟩) cx [] [0] [] (by kernel_rfl) (by kernel_rfl) trivial ?_
  refine q_seq_normal ?_
  refine st_seq (by kernel_rfl) ?_
  refine st_seq (by kernel_rfl) ?_
  refine st_reg (A := (AV.i IntKind.i64 (↑(List.map c3 v).length : Int) = AV.i IntKind.i64 (↑v.length : Int)) ∧ (AV.b (decide ((↑v.length : Int) > (16 : Int))) = AV.b (decide ((16 : Int) < (↑v.length : Int))))) (σ' := ⟨[(0, .sl (List.map c3 v)), (7, .b (decide ((16 : Int) < (↑v.length : Int))))], []⟩) cx [(1, { tell := some (.i .i64 ((↑v.length : Int))) }), (2, { tell := some (.b (decide ((16 : Int) < (↑v.length : Int)))) })] [0, 7] [] (by kernel_rfl) (by kernel_rfl) ⟨(told_len c3 v), (by kernel_rfl)⟩ ?_
  refine q_seq_normal ?_
  refine st_dec ((16 : Int) < (↑v.length : Int)) (by kernel_rfl) (by kernel_rfl) (fun h_0 => ?_) (fun h_0 => ?_)
  ·
    refine st_seq (by kernel_rfl) ?_
    refine st_reg (A := True) (σ' := ⟨[(2, .b (false))], []⟩) cx [] [2] [] (by kernel_rfl) (by kernel_rfl) trivial ?_
    refine q_seq_normal ?_
    refine st_ret (by kernel_rfl) ?_
    refine q_seq_ret ?_
    exact q_ret (r := .b (false)) (obl := []) (by kernel_rfl) trivial (AVle.eq (g0 h_0))
  ·
    refine st_skip (by kernel_rfl) ?_
    refine q_seq_normal ?_
    refine st_seq (by kernel_rfl) ?_
    refine st_seq (by kernel_rfl) ?_
    refine st_reg (A := (AV.i IntKind.i64 (↑(List.map c3 v).length : Int) = AV.i IntKind.i64 (↑v.length : Int))) (σ' := ⟨[(0, .sl (List.map c3 v)), (8, .sl (List.map c3 v)), (9, .i .i64 ((↑v.length : Int))), (10, .i .i64 ((0 : Int)))], []⟩) cx [(1, { tell := some (.i .i64 ((↑v.length : Int))) })] [0, 8, 9, 10] [] (by kernel_rfl) (by kernel_rfl) (told_len c3 v) ?_
    refine q_seq_normal ?_
    refine st_block 0 (by kernel_rfl) ?_
    refine st_loop (X := Int) (fun x => ⟨[(0, .sl (List.map c3 v)), (8, .sl (List.map c3 v)), (9, .i .i64 ((↑v.length : Int))), (10, .i .i64 (x))], []⟩) (fun x ↦ dec31 v x) (fun x ↦ inv31 v x) [0, 8, 9, 10] [] ((0 : Int)) (by kernel_rfl) (by kernel_rfl) (g1 h_0) ?_
    intro i_1 h_2
    obtain ⟨h_3, h_4, h_5⟩ : (0 : Int) ≤ i_1 ∧ i_1 ≤ (↑v.length : Int) ∧ ∀ (j : Nat), (↑j : Int) < i_1 → (0 : Int) ≤ v[j]! ∧ v[j]! ≤ (1000000000 : Int) := h_2
    refine st_seq (by kernel_rfl) ?_
    refine st_reg (A := (AV.b (decide (i_1 < (↑v.length : Int))) = AV.b (decide (i_1 < (↑v.length : Int))))) (σ' := ⟨[(0, .sl (List.map c3 v)), (8, .sl (List.map c3 v)), (9, .i .i64 ((↑v.length : Int))), (10, .i .i64 (i_1)), (11, .b (decide (i_1 < (↑v.length : Int))))], []⟩) cx [(0, { tell := some (.b (decide (i_1 < (↑v.length : Int)))) })] [0, 8, 9, 10, 11] [] (by kernel_rfl) (by kernel_rfl) (by kernel_rfl) ?_
    refine q_seq_normal ?_
    refine st_seq (by kernel_rfl) ?_
    refine st_dec (i_1 < (↑v.length : Int)) (by kernel_rfl) (by kernel_rfl) (fun h_6 => ?_) (fun h_6 => ?_)
    ·
      refine st_skip (by kernel_rfl) ?_
      refine q_seq_normal ?_
      refine st_seq (by kernel_rfl) ?_
      refine st_block 1 (by kernel_rfl) ?_
      refine st_seq (by kernel_rfl) ?_
      refine st_reg (A := ((0 : Int) ≤ i_1) ∧ ((List.map c3 v)[i_1.toNat]? = some (c3 v[i_1.toNat]!)) ∧ ((c3 v[i_1.toNat]!).length = (1 : Nat))) (σ' := ⟨[(0, .sl (List.map c3 v)), (8, .sl (List.map c3 v)), (9, .i .i64 ((↑v.length : Int))), (10, .i .i64 (i_1)), (4, .i .i64 (v[i_1.toNat]!))], []⟩) cx [(0, { row := (c3 v[i_1.toNat]!) })] [0, 8, 9, 10, 4] [] (by kernel_rfl) (by kernel_rfl) ⟨(by (with_reducible assumption)), (by (with_reducible refine get_map ?_; omega)), (by kernel_rfl)⟩ ?_
      refine q_seq_normal ?_
      refine st_seq (by kernel_rfl) ?_
      refine st_join (σ' := ⟨[(0, .sl (List.map c3 v)), (8, .sl (List.map c3 v)), (9, .i .i64 ((↑v.length : Int))), (10, .i .i64 (i_1)), (19, .b (decide (v[i_1.toNat]! < (0 : Int) ∨ (1000000000 : Int) < v[i_1.toNat]!)))], []⟩) ?_ ?_
      ·
        refine st_split (v[i_1.toNat]! < (0 : Int)) (fun h_8 => ?_) (fun h_8 => ?_)
        ·
          refine st_reg (A := (AV.b (decide (v[i_1.toNat]! < (0 : Int))) = AV.b true) ∧ (AV.b true = AV.b (decide (v[i_1.toNat]! < (0 : Int) ∨ (1000000000 : Int) < v[i_1.toNat]!)))) (σ' := ⟨[(0, .sl (List.map c3 v)), (8, .sl (List.map c3 v)), (9, .i .i64 ((↑v.length : Int))), (10, .i .i64 (i_1)), (19, .b (decide (v[i_1.toNat]! < (0 : Int) ∨ (1000000000 : Int) < v[i_1.toNat]!)))], []⟩) cx [(1, { tell := some (.b (true)) }), (5, { tell := some (.b (decide (v[i_1.toNat]! < (0 : Int) ∨ (1000000000 : Int) < v[i_1.toNat]!))) })] [0, 8, 9, 10, 19] [] (by kernel_rfl) (by kernel_rfl) ⟨(told_true h_8), (by simp only [eq_true h_8, told_simp1, told_simp2, and_true, true_and, and_false, false_and, or_true, true_or, or_false, false_or, not_true_eq_false, not_false_eq_true, decide_true, decide_false, Bool.decide_eq_true])⟩ ?_
          exact ⟨rfl, rfl⟩
        ·
          refine st_reg (A := (AV.b (decide (v[i_1.toNat]! < (0 : Int))) = AV.b false) ∧ (AV.b (decide (v[i_1.toNat]! > (1000000000 : Int))) = AV.b (decide ((1000000000 : Int) < v[i_1.toNat]!))) ∧ (AV.b (decide ((1000000000 : Int) < v[i_1.toNat]!)) = AV.b (decide (v[i_1.toNat]! < (0 : Int) ∨ (1000000000 : Int) < v[i_1.toNat]!)))) (σ' := ⟨[(0, .sl (List.map c3 v)), (8, .sl (List.map c3 v)), (9, .i .i64 ((↑v.length : Int))), (10, .i .i64 (i_1)), (19, .b (decide (v[i_1.toNat]! < (0 : Int) ∨ (1000000000 : Int) < v[i_1.toNat]!)))], []⟩) cx [(1, { tell := some (.b (false)) }), (4, { tell := some (.b (decide ((1000000000 : Int) < v[i_1.toNat]!))) }), (5, { tell := some (.b (decide (v[i_1.toNat]! < (0 : Int) ∨ (1000000000 : Int) < v[i_1.toNat]!))) })] [0, 8, 9, 10, 19] [] (by kernel_rfl) (by kernel_rfl) ⟨(told_false h_8), (by kernel_rfl), (by simp only [eq_false h_8, told_simp1, told_simp2, and_true, true_and, and_false, false_and, or_true, true_or, or_false, false_or, not_true_eq_false, not_false_eq_true, decide_true, decide_false, Bool.decide_eq_true])⟩ ?_
          exact ⟨rfl, rfl⟩
      ·
        refine q_seq_normal ?_
        refine st_dec (v[i_1.toNat]! < (0 : Int) ∨ (1000000000 : Int) < v[i_1.toNat]!) (by kernel_rfl) (by kernel_rfl) (fun h_9 => ?_) (fun h_9 => ?_)
        ·
          refine st_seq (by kernel_rfl) ?_
          refine st_reg (A := True) (σ' := ⟨[(2, .b (false))], []⟩) cx [] [2] [] (by kernel_rfl) (by kernel_rfl) trivial ?_
          refine q_seq_normal ?_
          refine st_ret (by kernel_rfl) ?_
          refine q_blk_ret ?_
          refine q_seq_ret ?_
          refine q_seq_ret ?_
          refine q_blk_ret ?_
          refine q_seq_ret ?_
          exact q_ret (r := .b (false)) (obl := []) (by kernel_rfl) trivial (AVle.eq (g2 h_0 i_1 h_3 h_4 h_5 h_6 h_9))
        ·
          refine st_skip (by kernel_rfl) ?_
          refine q_blk_normal ?_
          refine q_seq_normal ?_
          refine st_reg (A := (AV.i IntKind.i64 (IntKind.i64.wrap (i_1 + (1 : Int))) = AV.i IntKind.i64 (i_1 + (1 : Int)))) (σ' := ⟨[(0, .sl (List.map c3 v)), (8, .sl (List.map c3 v)), (9, .i .i64 ((↑v.length : Int))), (10, .i .i64 (i_1 + (1 : Int)))], []⟩) cx [(0, { tell := some (.i .i64 (i_1 + (1 : Int))) })] [0, 8, 9, 10] [] (by kernel_rfl) (by kernel_rfl) (told_i64 (by omega) (by omega)) ?_
          refine q_seq_normal ?_
          exact loop_next (i_1 + (1 : Int)) (by kernel_rfl) (show ((↑v.length : Int) - (i_1 + (1 : Int))).toNat < ((↑v.length : Int) - i_1).toNat from (by omega)) (g3 h_0 i_1 h_3 h_4 h_5 h_6 h_9)
    ·
      refine st_exit 0 (by kernel_rfl) ?_
      refine q_seq_exit ?_
      refine q_seq_exit ?_
      refine q_blk_hit ?_
      refine q_seq_normal ?_
      refine st_seq (by kernel_rfl) ?_
      refine st_join (σ' := ⟨[(2, .b (decide ((↑v.length : Int) = (0 : Int) ∨ ¬v[((↑v.length : Int) - (1 : Int)).toNat]! = (0 : Int))))], []⟩) ?_ ?_
      ·
        refine st_split ((↑v.length : Int) = (0 : Int)) (fun h_11 => ?_) (fun h_11 => ?_)
        ·
          refine st_reg (A := (AV.i IntKind.i64 (↑(List.map c3 v).length : Int) = AV.i IntKind.i64 (↑v.length : Int)) ∧ (AV.b ((↑v.length : Int) == (0 : Int)) = AV.b true) ∧ (AV.b true = AV.b (decide ((↑v.length : Int) = (0 : Int) ∨ ¬v[((↑v.length : Int) - (1 : Int)).toNat]! = (0 : Int))))) (σ' := ⟨[(2, .b (decide ((↑v.length : Int) = (0 : Int) ∨ ¬v[((↑v.length : Int) - (1 : Int)).toNat]! = (0 : Int))))], []⟩) cx [(1, { tell := some (.i .i64 ((↑v.length : Int))) }), (2, { tell := some (.b (true)) }), (12, { tell := some (.b (decide ((↑v.length : Int) = (0 : Int) ∨ ¬v[((↑v.length : Int) - (1 : Int)).toNat]! = (0 : Int)))) })] [2] [] (by kernel_rfl) (by kernel_rfl) ⟨(told_len c3 v), (told_true h_11), (by simp only [eq_true h_11, told_simp1, told_simp2, and_true, true_and, and_false, false_and, or_true, true_or, or_false, false_or, not_true_eq_false, not_false_eq_true, decide_true, decide_false, Bool.decide_eq_true])⟩ ?_
          exact ⟨rfl, rfl⟩
        ·
          refine st_reg (A := (AV.i IntKind.i64 (↑(List.map c3 v).length : Int) = AV.i IntKind.i64 (↑v.length : Int)) ∧ (AV.b ((↑v.length : Int) == (0 : Int)) = AV.b false) ∧ (AV.i IntKind.i64 (↑(List.map c3 v).length : Int) = AV.i IntKind.i64 (↑v.length : Int)) ∧ (AV.i IntKind.i64 (IntKind.i64.wrap ((↑v.length : Int) - (1 : Int))) = AV.i IntKind.i64 ((↑v.length : Int) - (1 : Int))) ∧ ((0 : Int) ≤ (↑v.length : Int) - (1 : Int)) ∧ ((List.map c3 v)[((↑v.length : Int) - (1 : Int)).toNat]? = some (c3 v[((↑v.length : Int) - (1 : Int)).toNat]!)) ∧ ((c3 v[((↑v.length : Int) - (1 : Int)).toNat]!).length = (1 : Nat)) ∧ (AV.b (v[((↑v.length : Int) - (1 : Int)).toNat]! != (0 : Int)) = AV.b (decide ¬v[((↑v.length : Int) - (1 : Int)).toNat]! = (0 : Int))) ∧ (AV.b (decide ¬v[((↑v.length : Int) - (1 : Int)).toNat]! = (0 : Int)) = AV.b (decide ((↑v.length : Int) = (0 : Int) ∨ ¬v[((↑v.length : Int) - (1 : Int)).toNat]! = (0 : Int))))) (σ' := ⟨[(2, .b (decide ((↑v.length : Int) = (0 : Int) ∨ ¬v[((↑v.length : Int) - (1 : Int)).toNat]! = (0 : Int))))], []⟩) cx [(1, { tell := some (.i .i64 ((↑v.length : Int))) }), (2, { tell := some (.b (false)) }), (6, { tell := some (.i .i64 ((↑v.length : Int))) }), (7, { tell := some (.i .i64 ((↑v.length : Int) - (1 : Int))) }), (8, { row := (c3 v[((↑v.length : Int) - (1 : Int)).toNat]!) }), (10, { tell := some (.b (decide ¬v[((↑v.length : Int) - (1 : Int)).toNat]! = (0 : Int))) }), (12, { tell := some (.b (decide ((↑v.length : Int) = (0 : Int) ∨ ¬v[((↑v.length : Int) - (1 : Int)).toNat]! = (0 : Int)))) })] [2] [] (by kernel_rfl) (by kernel_rfl) ⟨(told_len c3 v), (told_false h_11), (told_len c3 v), (told_i64 (by omega) (by omega)), (by omega), (by (with_reducible refine get_map ?_; omega)), (by kernel_rfl), (told_neq), (by simp only [eq_false h_11, told_simp1, told_simp2, and_true, true_and, and_false, false_and, or_true, true_or, or_false, false_or, not_true_eq_false, not_false_eq_true, decide_true, decide_false, Bool.decide_eq_true])⟩ ?_
          exact ⟨rfl, rfl⟩
      ·
        refine q_seq_normal ?_
        refine st_ret (by kernel_rfl) ?_
        exact q_ret (r := .b (decide ((↑v.length : Int) = (0 : Int) ∨ ¬v[((↑v.length : Int) - (1 : Int)).toNat]! = (0 : Int)))) (obl := []) (by kernel_rfl) trivial (AVle.eq (g4 h_0 i_1 h_3 h_4 h_5 h_6))
theorem con31 (v : List Int) : Con Try.prog 31 [.sl (v.map c3)] (.b (decide (v = short (of v)))) :=
  by
  refine walk31 v (fun h => ?_) (fun h => ⟨by omega, by omega, fun j hj => by omega⟩) (fun h i h0 h1 h2 h3 h4 => ?_) (fun h i h0 h1 h2 h3 h4 => ⟨by omega, by omega, fun j hj => ?_⟩)
    (fun h i h0 h1 h2 h3 => ?_)
  · congr 1; symm; rw [decide_eq_false_iff_not, norm_iff]; rintro ⟨k, _⟩; omega
  · congr 1; symm; rw [decide_eq_false_iff_not, norm_iff]; rintro ⟨_, k, _⟩; have := k i.toNat (by omega); omega
  · by_cases e : j = i.toNat
    · subst e; omega
    · exact h2 j (by omega)
  · have e : ((v.length : Int) - 1).toNat = v.length - 1 := by omega
    rw [e]
    congr 1
    rw [decide_eq_decide, norm_iff]
    constructor
    · intro k; exact ⟨by omega, fun j hj => h2 j (by omega), k.imp (fun h => by omega) id⟩
    · rintro ⟨_, _, k⟩; exact k.imp (fun h => by omega) id
end Go.Proofs.Ytoeifjooljkpaaa
