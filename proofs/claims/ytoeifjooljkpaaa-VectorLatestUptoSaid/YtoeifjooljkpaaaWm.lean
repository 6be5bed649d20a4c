/- Wm: walks, written by a program of this claim's own, and what each function hands back. Conditions: none. -/
import Derived.Test.YtoeifjooljkpaaaWj
import Derived.Test.YtoeifjooljkpaaaWg
set_option linter.unusedVariables false
set_option linter.unusedSimpArgs false
namespace Go.Proofs.Ytoeifjooljkpaaa
open Go.E
set_option maxRecDepth 100000
set_option maxHeartbeats 4000000
theorem meetV_self (v : Vector Int 16) : meetV v v = v := vext fun j hj => by rw [get_meetV _ _ j hj]; omega
theorem meetL_succ (vs : List (List Int)) (n : Nat) (h : n < vs.length) : meetL (vs.take (n + 1)) = if n = 0 then of vs[n]! else meetV (meetL (vs.take n)) (of vs[n]!) := by
  cases vs with
  | nil => simp at h
  | cons v vs =>
    cases n with
    | zero => simp [meetL]
    | succ k =>
      have hk : k < vs.length := by simpa using h
      rw [if_neg (by omega)]
      simp only [List.take_succ_cons, meetL]
      rw [List.take_succ_eq_append_getElem hk, List.foldl_append]
      simp [hk]
theorem meetL_step (vs : List (List Int)) (i : Int) (h0 : 0 ≤ i) (h1 : i < vs.length) : meetL (vs.take (i + 1).toNat) = if i = 0 then of vs[i.toNat]! else meetV (meetL (vs.take i.toNat)) (of vs[i.toNat]!) := by
  have e : (i + 1).toNat = i.toNat + 1 := by omega
  rw [e, meetL_succ vs _ (by omega)]
  by_cases h : i = 0
  · rw [if_pos (by omega), if_pos h]
  · rw [if_neg (by omega), if_neg h]
theorem inv27_step {f : Int → Int → Int} {v w a b : Vector Int 16} {i x : Int} (h0 : 0 ≤ i) (h2 : b = w) (h3 : ∀ j : Nat, j < 16 → a[j]! = if (j : Int) < i then f v[j]! w[j]! else v[j]!) (h4 : i < 16) (hx : x = f a[i.toNat]! b[i.toNat]!) :
    inv27 f v w (i + 1) (a.setIfInBounds i.toNat x) b := inv54_step (c := b) h0 h2 h3 h4 hx
theorem inv27_skip {f : Int → Int → Int} {v w a b : Vector Int 16} {i : Int} (h0 : 0 ≤ i) (h2 : b = w) (h3 : ∀ j : Nat, j < 16 → a[j]! = if (j : Int) < i then f v[j]! w[j]! else v[j]!) (h4 : i < 16) (hx : a[i.toNat]! = f a[i.toNat]! b[i.toNat]!) :
    inv27 f v w (i + 1) a b := by
  have := inv27_step h0 h2 h3 h4 hx
  have e : a.setIfInBounds i.toNat a[i.toNat]! = a := vext fun j hj => by
    rw [get_setV hj]; split
    · rename_i e; rw [e]
    · rfl
  rwa [e] at this
theorem inv27_done {f : Int → Int → Int} {v w a r : Vector Int 16} {i : Int} (h0 : 0 ≤ i) (h3 : ∀ j : Nat, j < 16 → a[j]! = if (j : Int) < i then f v[j]! w[j]! else v[j]!) (h4 : ¬ i < 16) (hr : ∀ j : Nat, j < 16 → r[j]! = f v[j]! w[j]!) : a = r :=
  vext fun j hj => by rw [h3 j hj, if_pos (by omega), hr j hj]
theorem walk53 (v : Vector Int (16 : Nat)) (w : Vector Int (16 : Nat))
    (g0 : inv54 min v w (0 : Int) v w (Vector.replicate (16 : Nat) (0 : Int)))
    (g1 : ∀ (i_0 : Int) (a_1 b_2 c_3 : Vector Int (16 : Nat)), (0 : Int) ≤ i_0 → i_0 ≤ (16 : Int) → b_2 = w → (∀ (j : Nat), j < (16 : Nat) → a_1[j]! = if (↑j : Int) < i_0 then min v[j]! w[j]! else v[j]!) → i_0 < (16 : Int) → inv54 min v w (i_0 + (1 : Int)) (a_1.setIfInBounds i_0.toNat (min a_1[i_0.toNat]! b_2[i_0.toNat]!)) b_2 c_3)
    (g2 : ∀ (i_0 : Int) (a_1 b_2 c_3 : Vector Int (16 : Nat)), (0 : Int) ≤ i_0 → i_0 ≤ (16 : Int) → b_2 = w → (∀ (j : Nat), j < (16 : Nat) → a_1[j]! = if (↑j : Int) < i_0 then min v[j]! w[j]! else v[j]!) → ¬i_0 < (16 : Int) → AV.agg (cA (AV.i IntKind.i64) a_1) = AV.agg (c62 (meetV v w))) :
    Con Try.prog (53 : FuncId) [AV.agg (c62 v), AV.agg (c62 w)] (AV.agg (c62 (meetV v w))) := by
  refine st_con tab_ok (by kernel_rfl) [.cell 4 62] 20 Go.Proofs.Try.func53 (by kernel_rfl) (by kernel_rfl) ?_
  intro e0 cx
  refine st_seq (by kernel_rfl) ?_
  refine st_reg (A := True) (σ' := ⟨[(2, .ptr (2) (0) (0) (0)), (3, .ptr (3) (0) (0) (0)), (4, .ptr (4) (0) (0) (0))], [(2, ⟨0, 62, .arr (cA (AV.i IntKind.i64) v)⟩), (3, ⟨0, 62, .arr (cA (AV.i IntKind.i64) w)⟩), (4, ⟨0, 62, .arr (cA (AV.i IntKind.i64) (Vector.replicate (16 : Nat) (0 : Int)))⟩)]⟩) cx [] [2, 3, 4] [2, 3, 4] (by kernel_rfl) (by kernel_rfl) trivial ?_
  refine q_seq_normal ?_
  refine st_seq (by kernel_rfl) ?_
  refine st_seq (by kernel_rfl) ?_
  refine st_reg (A := True) (σ' := ⟨[(2, .ptr (2) (0) (0) (0)), (3, .ptr (3) (0) (0) (0)), (4, .ptr (4) (0) (0) (0)), (6, .i .i64 ((0 : Int)))], [(2, ⟨0, 62, .arr (cA (AV.i IntKind.i64) v)⟩), (3, ⟨0, 62, .arr (cA (AV.i IntKind.i64) w)⟩), (4, ⟨0, 62, .arr (cA (AV.i IntKind.i64) (Vector.replicate (16 : Nat) (0 : Int)))⟩)]⟩) cx [] [2, 3, 4, 6] [2, 3, 4] (by kernel_rfl) (by kernel_rfl) trivial ?_
  refine q_seq_normal ?_
  refine st_block 0 (by kernel_rfl) ?_
  refine st_loop (X := Int × Vector Int (16 : Nat) × Vector Int (16 : Nat) × Vector Int (16 : Nat)) (fun x => ⟨[(2, .ptr (2) (0) (0) (0)), (3, .ptr (3) (0) (0) (0)), (4, .ptr (4) (0) (0) (0)), (6, .i .i64 (x.fst))], [(2, ⟨0, 62, .arr (cA (AV.i IntKind.i64) x.snd.fst)⟩), (3, ⟨0, 62, .arr (cA (AV.i IntKind.i64) x.snd.snd.fst)⟩), (4, ⟨0, 62, .arr (cA (AV.i IntKind.i64) x.snd.snd.snd)⟩)]⟩) (fun x ↦ dec54 x.fst x.snd.fst x.snd.snd.fst x.snd.snd.snd) (fun x ↦ inv54 min v w x.fst x.snd.fst x.snd.snd.fst x.snd.snd.snd) [2, 3, 4, 6] [2, 3, 4] (((0 : Int), v, w, Vector.replicate (16 : Nat) (0 : Int))) (by kernel_rfl) (by kernel_rfl) g0 ?_
  rintro ⟨i_0, a_1, b_2, c_3⟩ h_4
  obtain ⟨h_5, h_6, h_7, h_8⟩ : (0 : Int) ≤ i_0 ∧ i_0 ≤ (16 : Int) ∧ b_2 = w ∧ ∀ (j : Nat), j < (16 : Nat) → a_1[j]! = if (↑j : Int) < i_0 then min v[j]! w[j]! else v[j]! := h_4
  refine st_seq (by kernel_rfl) ?_
  refine st_reg (A := (AV.b (decide (i_0 < (16 : Int))) = AV.b (decide (i_0 < (16 : Int))))) (σ' := ⟨[(2, .ptr (2) (0) (0) (0)), (3, .ptr (3) (0) (0) (0)), (4, .ptr (4) (0) (0) (0)), (6, .i .i64 (i_0)), (7, .b (decide (i_0 < (16 : Int))))], [(2, ⟨0, 62, .arr (cA (AV.i IntKind.i64) a_1)⟩), (3, ⟨0, 62, .arr (cA (AV.i IntKind.i64) b_2)⟩), (4, ⟨0, 62, .arr (cA (AV.i IntKind.i64) c_3)⟩)]⟩) cx [(0, { tell := some (.b (decide (i_0 < (16 : Int)))) })] [2, 3, 4, 6, 7] [2, 3, 4] (by kernel_rfl) (by kernel_rfl) (by kernel_rfl) ?_
  refine q_seq_normal ?_
  refine st_seq (by kernel_rfl) ?_
  refine st_dec (i_0 < (16 : Int)) (by kernel_rfl) (by kernel_rfl) (fun h_9 => ?_) (fun h_9 => ?_)
  ·
    refine st_skip (by kernel_rfl) ?_
    refine q_seq_normal ?_
    refine st_seq (by kernel_rfl) ?_
    refine st_block 1 (by kernel_rfl) ?_
    refine st_seq (by kernel_rfl) ?_
    refine st_reg (A := True) (σ' := ⟨[(2, .ptr (2) (0) (0) (0)), (3, .ptr (3) (0) (0) (0)), (4, .ptr (4) (0) (0) (0)), (6, .i .i64 (i_0)), (5, .i .i64 (i_0))], [(2, ⟨0, 62, .arr (cA (AV.i IntKind.i64) a_1)⟩), (3, ⟨0, 62, .arr (cA (AV.i IntKind.i64) b_2)⟩), (4, ⟨0, 62, .arr (cA (AV.i IntKind.i64) c_3)⟩)]⟩) cx [] [2, 3, 4, 6, 5] [2, 3, 4] (by kernel_rfl) (by kernel_rfl) trivial ?_
    refine q_seq_normal ?_
    refine st_any (A := ((0 : Int) ≤ i_0) ∧ (i_0 < (↑(16 : Nat) : Int)) ∧ ((cA (AV.i IntKind.i64) a_1)[i_0.toNat * (1 : Nat) + 0]? = some (AV.i IntKind.i64 a_1[i_0.toNat]!)) ∧ ((0 : Int) ≤ i_0) ∧ (i_0 < (↑(16 : Nat) : Int)) ∧ ((cA (AV.i IntKind.i64) b_2)[i_0.toNat * (1 : Nat) + 0]? = some (AV.i IntKind.i64 b_2[i_0.toNat]!)) ∧ (AV.i IntKind.i64 (if b_2[i_0.toNat]! < a_1[i_0.toNat]! then b_2[i_0.toNat]! else a_1[i_0.toNat]!) = AV.i IntKind.i64 (min a_1[i_0.toNat]! b_2[i_0.toNat]!)) ∧ ((0 : Int) ≤ i_0) ∧ (i_0 < (↑(16 : Nat) : Int)) ∧ (i_0.toNat * (1 : Nat) + 0 < (cA (AV.i IntKind.i64) a_1).length) ∧ (cellsA (AV.i IntKind.i64 (min a_1[i_0.toNat]! b_2[i_0.toNat]!)) = [(cellsA (AV.i IntKind.i64 (min a_1[i_0.toNat]! b_2[i_0.toNat]!))).headD AV.dead]) ∧ ((cA (AV.i IntKind.i64) a_1).set (i_0.toNat * (1 : Nat) + 0) ((cellsA (AV.i IntKind.i64 (min a_1[i_0.toNat]! b_2[i_0.toNat]!))).headD AV.dead) = cA (AV.i IntKind.i64) (a_1.setIfInBounds i_0.toNat (min a_1[i_0.toNat]! b_2[i_0.toNat]!)))) (σ' := ⟨[(2, .ptr (2) (0) (0) (0)), (3, .ptr (3) (0) (0) (0)), (4, .ptr (4) (0) (0) (0)), (6, .i .i64 (i_0))], [(2, ⟨0, 62, .arr (cA (AV.i IntKind.i64) (a_1.setIfInBounds i_0.toNat (min a_1[i_0.toNat]! b_2[i_0.toNat]!)))⟩), (3, ⟨0, 62, .arr (cA (AV.i IntKind.i64) b_2)⟩), (4, ⟨0, 62, .arr (cA (AV.i IntKind.i64) c_3)⟩)]⟩) cx [(3, { row := [.i .i64 (a_1[i_0.toNat]!)] }), (6, { row := [.i .i64 (b_2[i_0.toNat]!)] }), (7, { tell := some (.i .i64 (min a_1[i_0.toNat]! b_2[i_0.toNat]!)) }), (9, { rows := some [(cA (AV.i IntKind.i64) (a_1.setIfInBounds i_0.toNat (min a_1[i_0.toNat]! b_2[i_0.toNat]!)))] })] [2, 3, 4, 6] [2, 3, 4] (by kernel_rfl) (by kernel_rfl) ⟨(by (with_reducible assumption)), (by omega), (by (simp only [Nat.mul_one, Nat.add_zero, Nat.zero_add]; with_reducible refine get_cA ?_; omega)), (by (with_reducible assumption)), (by omega), (by (simp only [Nat.mul_one, Nat.add_zero, Nat.zero_add]; with_reducible refine get_cA ?_; omega)), (told_min), (by (with_reducible assumption)), (by omega), (by (simp only [List.length_set, List.length_map, List.length_append, List.length_replicate, List.length_cons, List.length_nil, Go.maxLen, Nat.mul_one, Nat.add_zero, Nat.zero_add, Nat.one_mul, len_cA]; omega)), (by kernel_rfl), (by (simp only [Nat.mul_one, Nat.add_zero, Nat.zero_add]; with_reducible refine set_cA ?_; kernel_rfl))⟩ ?_
    refine q_blk_normal ?_
    refine q_seq_normal ?_
    refine st_reg (A := (AV.i IntKind.i64 (IntKind.i64.wrap (i_0 + (1 : Int))) = AV.i IntKind.i64 (i_0 + (1 : Int)))) (σ' := ⟨[(2, .ptr (2) (0) (0) (0)), (3, .ptr (3) (0) (0) (0)), (4, .ptr (4) (0) (0) (0)), (6, .i .i64 (i_0 + (1 : Int)))], [(2, ⟨0, 62, .arr (cA (AV.i IntKind.i64) (a_1.setIfInBounds i_0.toNat (min a_1[i_0.toNat]! b_2[i_0.toNat]!)))⟩), (3, ⟨0, 62, .arr (cA (AV.i IntKind.i64) b_2)⟩), (4, ⟨0, 62, .arr (cA (AV.i IntKind.i64) c_3)⟩)]⟩) cx [(0, { tell := some (.i .i64 (i_0 + (1 : Int))) })] [2, 3, 4, 6] [2, 3, 4] (by kernel_rfl) (by kernel_rfl) (told_i64 (by omega) (by omega)) ?_
    refine q_seq_normal ?_
    exact loop_next ((i_0 + (1 : Int), a_1.setIfInBounds i_0.toNat (min a_1[i_0.toNat]! b_2[i_0.toNat]!), b_2, c_3)) (by kernel_rfl) (show ((16 : Int) - (i_0 + (1 : Int))).toNat < ((16 : Int) - i_0).toNat from (by omega)) (g1 i_0 a_1 b_2 c_3 h_5 h_6 h_7 h_8 h_9)
  ·
    refine st_exit 0 (by kernel_rfl) ?_
    refine q_seq_exit ?_
    refine q_seq_exit ?_
    refine q_blk_hit ?_
    refine q_seq_normal ?_
    refine st_seq (by kernel_rfl) ?_
    refine st_reg (A := ((cA (AV.i IntKind.i64) a_1).length = (16 : Nat)) ∧ ((cA (AV.i IntKind.i64) a_1).length = (cA (AV.i IntKind.i64) c_3).length) ∧ ((cA (AV.i IntKind.i64) a_1).length = (16 : Nat))) (σ' := ⟨[(4, .ptr (4) (0) (0) (0))], [(4, ⟨0, 62, .arr (cA (AV.i IntKind.i64) a_1)⟩)]⟩) cx [] [4] [4] (by kernel_rfl) (by kernel_rfl) ⟨(by (simp only [len_cA]; done)), (by (simp only [len_cA]; done)), (by (simp only [len_cA]; done))⟩ ?_
    refine q_seq_normal ?_
    refine st_ret (by kernel_rfl) ?_
    exact q_ret (r := .agg (cA (AV.i IntKind.i64) a_1)) (obl := [(cA (AV.i IntKind.i64) a_1).length = (16 : Nat)]) (by kernel_rfl) (show ((cA (AV.i IntKind.i64) a_1).length = (16 : Nat)) from (by (simp only [len_cA]; done))) (AVle.eq (g2 i_0 a_1 b_2 c_3 h_5 h_6 h_7 h_8 h_9))
theorem con53 (v w : Vector Int 16) : Con Try.prog 53 [.agg (c62 v), .agg (c62 w)] (.agg (c62 (meetV v w))) :=
  walk53 v w ⟨by decide, by decide, rfl, fun j hj => by rw [if_neg (by omega)]⟩
    (fun i a b c h0 h1 h2 h3 h4 => inv54_step h0 h2 h3 h4 rfl)
    (fun i a b c h0 h1 h2 h3 h4 => by rw [inv27_done h0 h3 h4 (fun j hj => get_meetV v w j hj)]; rfl)
theorem walk25 (vs : List (List Int))
    (g0 : inv25 vs (0 : Int) (Vector.replicate (16 : Nat) (0 : Int)))
    (g1 : ∀ (i_0 : Int) (m_1 : Vector Int (16 : Nat)), (0 : Int) ≤ i_0 → i_0 ≤ (↑vs.length : Int) → m_1 = meetL (List.take i_0.toNat vs) → i_0 < (↑vs.length : Int) → i_0 = (0 : Int) → inv25 vs (i_0 + (1 : Int)) (meetV (of vs[i_0.toNat]!) (of vs[i_0.toNat]!)))
    (g2 : ∀ (i_0 : Int) (m_1 : Vector Int (16 : Nat)), (0 : Int) ≤ i_0 → i_0 ≤ (↑vs.length : Int) → m_1 = meetL (List.take i_0.toNat vs) → i_0 < (↑vs.length : Int) → ¬i_0 = (0 : Int) → inv25 vs (i_0 + (1 : Int)) (meetV m_1 (of vs[i_0.toNat]!)))
    (g3 : ∀ (i_0 : Int) (m_1 : Vector Int (16 : Nat)), (0 : Int) ≤ i_0 → i_0 ≤ (↑vs.length : Int) → m_1 = meetL (List.take i_0.toNat vs) → ¬i_0 < (↑vs.length : Int) → AV.sl (List.map c3 (short m_1)) = AV.sl (List.map c3 (short (meetL vs)))) :
    Con Try.prog (25 : FuncId) [AV.sl (List.map c22 vs)] (AV.sl (List.map c3 (short (meetL vs)))) := by
  refine con_lens 0 (c22) (vs) (by kernel_rfl) Go.Proofs.Try.func25 (by kernel_rfl) fun hl_0 => ?_
  refine st_con tab_ok (by kernel_rfl) [.tmp 2] 24 Go.Proofs.Try.func25 (by kernel_rfl) (by kernel_rfl) ?_
  intro e0 cx
  refine st_seq (by kernel_rfl) ?_
  refine st_reg (A := True) (σ' := ⟨[(0, .sl (List.map c22 vs))], []⟩) cx [] [0] [] (by kernel_rfl) (by kernel_rfl) trivial ?_
  refine q_seq_normal ?_
  refine st_seq (by kernel_rfl) ?_
  refine st_reg (A := True) (σ' := ⟨[(0, .sl (List.map c22 vs)), (3, .ptr (3) (0) (0) (0))], [(3, ⟨0, 62, .arr (cA (AV.i IntKind.i64) (Vector.replicate (16 : Nat) (0 : Int)))⟩)]⟩) cx [] [0, 3] [3] (by kernel_rfl) (by kernel_rfl) trivial ?_
  refine q_seq_normal ?_
  refine st_seq (by kernel_rfl) ?_
  refine st_seq (by kernel_rfl) ?_
  refine st_reg (A := (AV.i IntKind.i64 (↑(List.map c22 vs).length : Int) = AV.i IntKind.i64 (↑vs.length : Int))) (σ' := ⟨[(3, .ptr (3) (0) (0) (0)), (6, .sl (List.map c22 vs)), (7, .i .i64 ((↑vs.length : Int))), (8, .i .i64 ((0 : Int)))], [(3, ⟨0, 62, .arr (cA (AV.i IntKind.i64) (Vector.replicate (16 : Nat) (0 : Int)))⟩)]⟩) cx [(1, { tell := some (.i .i64 ((↑vs.length : Int))) })] [3, 6, 7, 8] [3] (by kernel_rfl) (by kernel_rfl) (told_len c22 vs) ?_
  refine q_seq_normal ?_
  refine st_block 0 (by kernel_rfl) ?_
  refine st_loop (X := Int × Vector Int (16 : Nat)) (fun x => ⟨[(3, .ptr (3) (0) (0) (0)), (6, .sl (List.map c22 vs)), (7, .i .i64 ((↑vs.length : Int))), (8, .i .i64 (x.fst))], [(3, ⟨0, 62, .arr (cA (AV.i IntKind.i64) x.snd)⟩)]⟩) (fun x ↦ dec26 vs x.fst x.snd) (fun x ↦ inv25 vs x.fst x.snd) [3, 6, 7, 8] [3] (((0 : Int), Vector.replicate (16 : Nat) (0 : Int))) (by kernel_rfl) (by kernel_rfl) g0 ?_
  rintro ⟨i_0, m_1⟩ h_2
  obtain ⟨h_3, h_4, h_5⟩ : (0 : Int) ≤ i_0 ∧ i_0 ≤ (↑vs.length : Int) ∧ m_1 = meetL (List.take i_0.toNat vs) := h_2
  refine st_seq (by kernel_rfl) ?_
  refine st_reg (A := (AV.b (decide (i_0 < (↑vs.length : Int))) = AV.b (decide (i_0 < (↑vs.length : Int))))) (σ' := ⟨[(3, .ptr (3) (0) (0) (0)), (6, .sl (List.map c22 vs)), (7, .i .i64 ((↑vs.length : Int))), (8, .i .i64 (i_0)), (9, .b (decide (i_0 < (↑vs.length : Int))))], [(3, ⟨0, 62, .arr (cA (AV.i IntKind.i64) m_1)⟩)]⟩) cx [(0, { tell := some (.b (decide (i_0 < (↑vs.length : Int)))) })] [3, 6, 7, 8, 9] [3] (by kernel_rfl) (by kernel_rfl) (by kernel_rfl) ?_
  refine q_seq_normal ?_
  refine st_seq (by kernel_rfl) ?_
  refine st_dec (i_0 < (↑vs.length : Int)) (by kernel_rfl) (by kernel_rfl) (fun h_6 => ?_) (fun h_6 => ?_)
  ·
    refine st_skip (by kernel_rfl) ?_
    refine q_seq_normal ?_
    refine st_seq (by kernel_rfl) ?_
    refine st_block 1 (by kernel_rfl) ?_
    refine st_seq (by kernel_rfl) ?_
    refine st_reg (A := ((0 : Int) ≤ i_0) ∧ ((List.map c22 vs)[i_0.toNat]? = some (c22 vs[i_0.toNat]!)) ∧ ((c22 vs[i_0.toNat]!).length = (1 : Nat))) (σ' := ⟨[(3, .ptr (3) (0) (0) (0)), (6, .sl (List.map c22 vs)), (7, .i .i64 ((↑vs.length : Int))), (8, .i .i64 (i_0)), (4, .i .i64 (i_0)), (5, .sl (List.map c3 vs[i_0.toNat]!))], [(3, ⟨0, 62, .arr (cA (AV.i IntKind.i64) m_1)⟩)]⟩) cx [(1, { row := (c22 vs[i_0.toNat]!) })] [3, 6, 7, 8, 4, 5] [3] (by kernel_rfl) (by kernel_rfl) ⟨(by (with_reducible assumption)), (by (with_reducible refine get_map ?_; omega)), (by kernel_rfl)⟩ ?_
    refine q_seq_normal ?_
    refine st_seq (by kernel_rfl) ?_
    refine st_seq (by kernel_rfl) ?_
    refine st_reg (A := (AV.b (i_0 == (0 : Int)) = AV.b (decide (i_0 = (0 : Int))))) (σ' := ⟨[(3, .ptr (3) (0) (0) (0)), (6, .sl (List.map c22 vs)), (7, .i .i64 ((↑vs.length : Int))), (8, .i .i64 (i_0)), (5, .sl (List.map c3 vs[i_0.toNat]!)), (14, .b (decide (i_0 = (0 : Int))))], [(3, ⟨0, 62, .arr (cA (AV.i IntKind.i64) m_1)⟩)]⟩) cx [(1, { tell := some (.b (decide (i_0 = (0 : Int)))) })] [3, 6, 7, 8, 5, 14] [3] (by kernel_rfl) (by kernel_rfl) (by kernel_rfl) ?_
    refine q_seq_normal ?_
    refine st_dec (i_0 = (0 : Int)) (by kernel_rfl) (by kernel_rfl) (fun h_7 => ?_) (fun h_7 => ?_)
    ·
      refine st_reg (A := (Con Try.prog (49 : FuncId) [AV.sl (List.map c3 vs[i_0.toNat]!)] (AV.agg (c62 (of vs[i_0.toNat]!)))) ∧ ((cA (AV.i IntKind.i64) (of vs[i_0.toNat]!)).length = (cA (AV.i IntKind.i64) m_1).length) ∧ ((cA (AV.i IntKind.i64) (of vs[i_0.toNat]!)).length = (16 : Nat))) (σ' := ⟨[(3, .ptr (3) (0) (0) (0)), (6, .sl (List.map c22 vs)), (7, .i .i64 ((↑vs.length : Int))), (8, .i .i64 (i_0)), (5, .sl (List.map c3 vs[i_0.toNat]!))], [(3, ⟨0, 62, .arr (cA (AV.i IntKind.i64) (of vs[i_0.toNat]!))⟩)]⟩) cx [(1, { val := some (.agg (cA (AV.i IntKind.i64) (of vs[i_0.toNat]!))) })] [3, 6, 7, 8, 5] [3] (by kernel_rfl) (by kernel_rfl) ⟨(con49 (vs[i_0.toNat]!)), (by (simp only [len_cA]; done)), (by kernel_rfl)⟩ ?_
      refine q_seq_normal ?_
      refine st_any (A := ((cA (AV.i IntKind.i64) (of vs[i_0.toNat]!)).length = (16 : Nat)) ∧ (Con Try.prog (49 : FuncId) [AV.sl (List.map c3 vs[i_0.toNat]!)] (AV.agg (c62 (of vs[i_0.toNat]!)))) ∧ (Con Try.prog (53 : FuncId) [AV.agg (c62 (of vs[i_0.toNat]!)), AV.agg (c62 (of vs[i_0.toNat]!))] (AV.agg (c62 (meetV (of vs[i_0.toNat]!) (of vs[i_0.toNat]!))))) ∧ ((cA (AV.i IntKind.i64) (meetV (of vs[i_0.toNat]!) (of vs[i_0.toNat]!))).length = (cA (AV.i IntKind.i64) (of vs[i_0.toNat]!)).length) ∧ ((cA (AV.i IntKind.i64) (meetV (of vs[i_0.toNat]!) (of vs[i_0.toNat]!))).length = (16 : Nat))) (σ' := ⟨[(3, .ptr (3) (0) (0) (0)), (6, .sl (List.map c22 vs)), (7, .i .i64 ((↑vs.length : Int))), (8, .i .i64 (i_0))], [(3, ⟨0, 62, .arr (cA (AV.i IntKind.i64) (meetV (of vs[i_0.toNat]!) (of vs[i_0.toNat]!)))⟩)]⟩) cx [(2, { val := some (.agg (cA (AV.i IntKind.i64) (of vs[i_0.toNat]!))) }), (3, { val := some (.agg (cA (AV.i IntKind.i64) (meetV (of vs[i_0.toNat]!) (of vs[i_0.toNat]!)))) })] [3, 6, 7, 8] [3] (by kernel_rfl) (by kernel_rfl) ⟨(by kernel_rfl), (con49 (vs[i_0.toNat]!)), (con53 (of vs[i_0.toNat]!) (of vs[i_0.toNat]!)), (by kernel_rfl), (by kernel_rfl)⟩ ?_
      refine q_blk_normal ?_
      refine q_seq_normal ?_
      refine st_reg (A := (AV.i IntKind.i64 (IntKind.i64.wrap (i_0 + (1 : Int))) = AV.i IntKind.i64 (i_0 + (1 : Int)))) (σ' := ⟨[(3, .ptr (3) (0) (0) (0)), (6, .sl (List.map c22 vs)), (7, .i .i64 ((↑vs.length : Int))), (8, .i .i64 (i_0 + (1 : Int)))], [(3, ⟨0, 62, .arr (cA (AV.i IntKind.i64) (meetV (of vs[i_0.toNat]!) (of vs[i_0.toNat]!)))⟩)]⟩) cx [(0, { tell := some (.i .i64 (i_0 + (1 : Int))) })] [3, 6, 7, 8] [3] (by kernel_rfl) (by kernel_rfl) (told_i64 (by omega) (by omega)) ?_
      refine q_seq_normal ?_
      exact loop_next ((i_0 + (1 : Int), meetV (of vs[i_0.toNat]!) (of vs[i_0.toNat]!))) (by kernel_rfl) (show ((↑vs.length : Int) - (i_0 + (1 : Int))).toNat < ((↑vs.length : Int) - i_0).toNat from (by omega)) (g1 i_0 m_1 h_3 h_4 h_5 h_6 h_7)
    ·
      refine st_skip (by kernel_rfl) ?_
      refine q_seq_normal ?_
      refine st_any (A := ((cA (AV.i IntKind.i64) m_1).length = (16 : Nat)) ∧ (Con Try.prog (49 : FuncId) [AV.sl (List.map c3 vs[i_0.toNat]!)] (AV.agg (c62 (of vs[i_0.toNat]!)))) ∧ (Con Try.prog (53 : FuncId) [AV.agg (c62 m_1), AV.agg (c62 (of vs[i_0.toNat]!))] (AV.agg (c62 (meetV m_1 (of vs[i_0.toNat]!))))) ∧ ((cA (AV.i IntKind.i64) (meetV m_1 (of vs[i_0.toNat]!))).length = (cA (AV.i IntKind.i64) m_1).length) ∧ ((cA (AV.i IntKind.i64) (meetV m_1 (of vs[i_0.toNat]!))).length = (16 : Nat))) (σ' := ⟨[(3, .ptr (3) (0) (0) (0)), (6, .sl (List.map c22 vs)), (7, .i .i64 ((↑vs.length : Int))), (8, .i .i64 (i_0))], [(3, ⟨0, 62, .arr (cA (AV.i IntKind.i64) (meetV m_1 (of vs[i_0.toNat]!)))⟩)]⟩) cx [(2, { val := some (.agg (cA (AV.i IntKind.i64) (of vs[i_0.toNat]!))) }), (3, { val := some (.agg (cA (AV.i IntKind.i64) (meetV m_1 (of vs[i_0.toNat]!)))) })] [3, 6, 7, 8] [3] (by kernel_rfl) (by kernel_rfl) ⟨(by (simp only [len_cA]; done)), (con49 (vs[i_0.toNat]!)), (con53 (m_1) (of vs[i_0.toNat]!)), (by (simp only [len_cA]; done)), (by kernel_rfl)⟩ ?_
      refine q_blk_normal ?_
      refine q_seq_normal ?_
      refine st_reg (A := (AV.i IntKind.i64 (IntKind.i64.wrap (i_0 + (1 : Int))) = AV.i IntKind.i64 (i_0 + (1 : Int)))) (σ' := ⟨[(3, .ptr (3) (0) (0) (0)), (6, .sl (List.map c22 vs)), (7, .i .i64 ((↑vs.length : Int))), (8, .i .i64 (i_0 + (1 : Int)))], [(3, ⟨0, 62, .arr (cA (AV.i IntKind.i64) (meetV m_1 (of vs[i_0.toNat]!)))⟩)]⟩) cx [(0, { tell := some (.i .i64 (i_0 + (1 : Int))) })] [3, 6, 7, 8] [3] (by kernel_rfl) (by kernel_rfl) (told_i64 (by omega) (by omega)) ?_
      refine q_seq_normal ?_
      exact loop_next ((i_0 + (1 : Int), meetV m_1 (of vs[i_0.toNat]!))) (by kernel_rfl) (show ((↑vs.length : Int) - (i_0 + (1 : Int))).toNat < ((↑vs.length : Int) - i_0).toNat from (by omega)) (g2 i_0 m_1 h_3 h_4 h_5 h_6 h_7)
  ·
    refine st_exit 0 (by kernel_rfl) ?_
    refine q_seq_exit ?_
    refine q_seq_exit ?_
    refine q_blk_hit ?_
    refine q_seq_normal ?_
    refine st_seq (by kernel_rfl) ?_
    refine st_reg (A := ((cA (AV.i IntKind.i64) m_1).length = (16 : Nat)) ∧ (Con Try.prog (51 : FuncId) [AV.agg (c62 m_1)] (AV.sl (List.map c3 (short m_1))))) (σ' := ⟨[(2, .sl (List.map c3 (short m_1)))], []⟩) cx [(1, { val := some (.sl (List.map c3 (short m_1))) })] [2] [] (by kernel_rfl) (by kernel_rfl) ⟨(by (simp only [len_cA]; done)), (con51 (m_1))⟩ ?_
    refine q_seq_normal ?_
    refine st_ret (by kernel_rfl) ?_
    exact q_ret (r := .sl (List.map c3 (short m_1))) (obl := []) (by kernel_rfl) trivial (AVle.eq (g3 i_0 m_1 h_3 h_4 h_5 h_6))
theorem con25 (vs : List (List Int)) : Con Try.prog 25 [.sl (vs.map c22)] (.sl ((short (meetL vs)).map c3)) :=
  by
  refine walk25 vs ⟨by decide, by omega, rfl⟩ (fun i m h0 h1 h2 h3 h4 => ⟨by omega, by omega, ?_⟩) (fun i m h0 h1 h2 h3 h4 => ⟨by omega, by omega, ?_⟩) (fun i m h0 h1 h2 h3 => ?_)
  · rw [meetL_step vs i h0 h3, if_pos h4, meetV_self]
  · rw [meetL_step vs i h0 h3, if_neg h4, h2]
  · rw [h2, List.take_of_length_le (by omega)]
theorem walk27 (vs : List (List Int))
    (g0 : inv26 vs (0 : Int) (Vector.replicate (16 : Nat) (0 : Int)))
    (g1 : ∀ (i_0 : Int) (m_1 : Vector Int (16 : Nat)), (0 : Int) ≤ i_0 → i_0 ≤ (↑vs.length : Int) → m_1 = mergeL (Vector.replicate (16 : Nat) (0 : Int)) (List.take i_0.toNat vs) → i_0 < (↑vs.length : Int) → inv27 max m_1 (of vs[i_0.toNat]!) (0 : Int) m_1 (of vs[i_0.toNat]!))
    (g2 : ∀ (i_0 : Int) (m_1 : Vector Int (16 : Nat)), (0 : Int) ≤ i_0 → i_0 ≤ (↑vs.length : Int) → m_1 = mergeL (Vector.replicate (16 : Nat) (0 : Int)) (List.take i_0.toNat vs) → i_0 < (↑vs.length : Int) → ∀ (i_7 : Int) (a_8 b_9 : Vector Int (16 : Nat)), (0 : Int) ≤ i_7 → i_7 ≤ (16 : Int) → b_9 = of vs[i_0.toNat]! → (∀ (j : Nat), j < (16 : Nat) → a_8[j]! = if (↑j : Int) < i_7 then max m_1[j]! (of vs[i_0.toNat]!)[j]! else m_1[j]!) → i_7 < (16 : Int) → a_8[i_7.toNat]! < b_9[i_7.toNat]! → inv27 max m_1 (of vs[i_0.toNat]!) (i_7 + (1 : Int)) (a_8.setIfInBounds i_7.toNat b_9[i_7.toNat]!) b_9)
    (g3 : ∀ (i_0 : Int) (m_1 : Vector Int (16 : Nat)), (0 : Int) ≤ i_0 → i_0 ≤ (↑vs.length : Int) → m_1 = mergeL (Vector.replicate (16 : Nat) (0 : Int)) (List.take i_0.toNat vs) → i_0 < (↑vs.length : Int) → ∀ (i_7 : Int) (a_8 b_9 : Vector Int (16 : Nat)), (0 : Int) ≤ i_7 → i_7 ≤ (16 : Int) → b_9 = of vs[i_0.toNat]! → (∀ (j : Nat), j < (16 : Nat) → a_8[j]! = if (↑j : Int) < i_7 then max m_1[j]! (of vs[i_0.toNat]!)[j]! else m_1[j]!) → i_7 < (16 : Int) → ¬a_8[i_7.toNat]! < b_9[i_7.toNat]! → inv27 max m_1 (of vs[i_0.toNat]!) (i_7 + (1 : Int)) a_8 b_9)
    (g4 : ∀ (i_0 : Int) (m_1 : Vector Int (16 : Nat)), (0 : Int) ≤ i_0 → i_0 ≤ (↑vs.length : Int) → m_1 = mergeL (Vector.replicate (16 : Nat) (0 : Int)) (List.take i_0.toNat vs) → i_0 < (↑vs.length : Int) → ∀ (i_7 : Int) (a_8 b_9 : Vector Int (16 : Nat)), (0 : Int) ≤ i_7 → i_7 ≤ (16 : Int) → b_9 = of vs[i_0.toNat]! → (∀ (j : Nat), j < (16 : Nat) → a_8[j]! = if (↑j : Int) < i_7 then max m_1[j]! (of vs[i_0.toNat]!)[j]! else m_1[j]!) → ¬i_7 < (16 : Int) → inv26 vs (i_0 + (1 : Int)) a_8)
    (g5 : ∀ (i_0 : Int) (m_1 : Vector Int (16 : Nat)), (0 : Int) ≤ i_0 → i_0 ≤ (↑vs.length : Int) → m_1 = mergeL (Vector.replicate (16 : Nat) (0 : Int)) (List.take i_0.toNat vs) → ¬i_0 < (↑vs.length : Int) → AV.sl (List.map c3 (short m_1)) = AV.sl (List.map c3 (short (mergeL (Vector.replicate (16 : Nat) (0 : Int)) vs)))) :
    Con Try.prog (27 : FuncId) [AV.sl (List.map c22 vs)] (AV.sl (List.map c3 (short (mergeL (Vector.replicate (16 : Nat) (0 : Int)) vs)))) := by
  refine con_lens 0 (c22) (vs) (by kernel_rfl) Go.Proofs.Try.func27 (by kernel_rfl) fun hl_0 => ?_
  refine st_con tab_ok (by kernel_rfl) [.tmp 2] 36 Go.Proofs.Try.func27 (by kernel_rfl) (by kernel_rfl) ?_
  intro e0 cx
  refine st_seq (by kernel_rfl) ?_
  refine st_reg (A := True) (σ' := ⟨[(0, .sl (List.map c22 vs))], []⟩) cx [] [0] [] (by kernel_rfl) (by kernel_rfl) trivial ?_
  refine q_seq_normal ?_
  refine st_seq (by kernel_rfl) ?_
  refine st_reg (A := True) (σ' := ⟨[(0, .sl (List.map c22 vs)), (3, .ptr (3) (0) (0) (0))], [(3, ⟨0, 61, .arr (cA (AV.i IntKind.i64) (Vector.replicate (16 : Nat) (0 : Int)))⟩)]⟩) cx [] [0, 3] [3] (by kernel_rfl) (by kernel_rfl) trivial ?_
  refine q_seq_normal ?_
  refine st_seq (by kernel_rfl) ?_
  refine st_seq (by kernel_rfl) ?_
  refine st_reg (A := True) (σ' := ⟨[(0, .sl (List.map c22 vs)), (3, .ptr (3) (0) (0) (0)), (4, .i .i64 ((0 : Int)))], [(3, ⟨0, 61, .arr (cA (AV.i IntKind.i64) (Vector.replicate (16 : Nat) (0 : Int)))⟩)]⟩) cx [] [0, 3, 4] [3] (by kernel_rfl) (by kernel_rfl) trivial ?_
  refine q_seq_normal ?_
  refine st_block 0 (by kernel_rfl) ?_
  refine st_loop (X := Int × Vector Int (16 : Nat)) (fun x => ⟨[(0, .sl (List.map c22 vs)), (3, .ptr (3) (0) (0) (0)), (4, .i .i64 (x.fst))], [(3, ⟨0, 61, .arr (cA (AV.i IntKind.i64) x.snd)⟩)]⟩) (fun x ↦ dec26 vs x.fst x.snd) (fun x ↦ inv26 vs x.fst x.snd) [0, 3, 4] [3] (((0 : Int), Vector.replicate (16 : Nat) (0 : Int))) (by kernel_rfl) (by kernel_rfl) g0 ?_
  rintro ⟨i_0, m_1⟩ h_2
  obtain ⟨h_3, h_4, h_5⟩ : (0 : Int) ≤ i_0 ∧ i_0 ≤ (↑vs.length : Int) ∧ m_1 = mergeL (Vector.replicate (16 : Nat) (0 : Int)) (List.take i_0.toNat vs) := h_2
  refine st_seq (by kernel_rfl) ?_
  refine st_seq (by kernel_rfl) ?_
  refine st_reg (A := (AV.i IntKind.i64 (↑(List.map c22 vs).length : Int) = AV.i IntKind.i64 (↑vs.length : Int)) ∧ (AV.b (decide (i_0 < (↑vs.length : Int))) = AV.b (decide (i_0 < (↑vs.length : Int))))) (σ' := ⟨[(0, .sl (List.map c22 vs)), (3, .ptr (3) (0) (0) (0)), (4, .i .i64 (i_0)), (10, .b (decide (i_0 < (↑vs.length : Int))))], [(3, ⟨0, 61, .arr (cA (AV.i IntKind.i64) m_1)⟩)]⟩) cx [(2, { tell := some (.i .i64 ((↑vs.length : Int))) }), (3, { tell := some (.b (decide (i_0 < (↑vs.length : Int)))) })] [0, 3, 4, 10] [3] (by kernel_rfl) (by kernel_rfl) ⟨(told_len c22 vs), (by kernel_rfl)⟩ ?_
  refine q_seq_normal ?_
  refine st_dec (i_0 < (↑vs.length : Int)) (by kernel_rfl) (by kernel_rfl) (fun h_6 => ?_) (fun h_6 => ?_)
  ·
    refine st_skip (by kernel_rfl) ?_
    refine q_seq_normal ?_
    refine st_seq (by kernel_rfl) ?_
    refine st_block 1 (by kernel_rfl) ?_
    refine st_seq (by kernel_rfl) ?_
    refine st_reg (A := ((0 : Int) ≤ i_0) ∧ ((List.map c22 vs)[i_0.toNat]? = some (c22 vs[i_0.toNat]!)) ∧ ((c22 vs[i_0.toNat]!).length = (1 : Nat)) ∧ (Con Try.prog (50 : FuncId) [AV.sl (List.map c3 vs[i_0.toNat]!)] (AV.agg (c61 (of vs[i_0.toNat]!)))) ∧ ((cA (AV.i IntKind.i64) (of vs[i_0.toNat]!)).length = (cA (AV.i IntKind.i64) (Vector.replicate (16 : Nat) (0 : Int))).length) ∧ ((cA (AV.i IntKind.i64) (of vs[i_0.toNat]!)).length = (16 : Nat))) (σ' := ⟨[(0, .sl (List.map c22 vs)), (3, .ptr (3) (0) (0) (0)), (4, .i .i64 (i_0)), (5, .ptr (5) (0) (0) (0))], [(3, ⟨0, 61, .arr (cA (AV.i IntKind.i64) m_1)⟩), (5, ⟨0, 61, .arr (cA (AV.i IntKind.i64) (of vs[i_0.toNat]!))⟩)]⟩) cx [(2, { row := (c22 vs[i_0.toNat]!) }), (4, { val := some (.agg (cA (AV.i IntKind.i64) (of vs[i_0.toNat]!))) })] [0, 3, 4, 5] [3, 5] (by kernel_rfl) (by kernel_rfl) ⟨(by (with_reducible assumption)), (by (with_reducible refine get_map ?_; omega)), (by kernel_rfl), (con50 (vs[i_0.toNat]!)), (by kernel_rfl), (by kernel_rfl)⟩ ?_
    refine q_seq_normal ?_
    refine st_seq (by kernel_rfl) ?_
    refine st_reg (A := True) (σ' := ⟨[(0, .sl (List.map c22 vs)), (3, .ptr (3) (0) (0) (0)), (4, .i .i64 (i_0)), (5, .ptr (5) (0) (0) (0)), (6, .i .i64 ((0 : Int)))], [(3, ⟨0, 61, .arr (cA (AV.i IntKind.i64) m_1)⟩), (5, ⟨0, 61, .arr (cA (AV.i IntKind.i64) (of vs[i_0.toNat]!))⟩)]⟩) cx [] [0, 3, 4, 5, 6] [3, 5] (by kernel_rfl) (by kernel_rfl) trivial ?_
    refine q_seq_normal ?_
    refine st_block 2 (by kernel_rfl) ?_
    refine st_loop (X := Int × Vector Int (16 : Nat) × Vector Int (16 : Nat)) (fun x => ⟨[(0, .sl (List.map c22 vs)), (3, .ptr (3) (0) (0) (0)), (4, .i .i64 (i_0)), (5, .ptr (5) (0) (0) (0)), (6, .i .i64 (x.fst))], [(3, ⟨0, 61, .arr (cA (AV.i IntKind.i64) x.snd.fst)⟩), (5, ⟨0, 61, .arr (cA (AV.i IntKind.i64) x.snd.snd)⟩)]⟩) (fun x ↦ dec27 x.fst x.snd.fst x.snd.snd) (fun x ↦ inv27 max m_1 (of vs[i_0.toNat]!) x.fst x.snd.fst x.snd.snd) [0, 3, 4, 5, 6] [3, 5] (((0 : Int), m_1, of vs[i_0.toNat]!)) (by kernel_rfl) (by kernel_rfl) (g1 i_0 m_1 h_3 h_4 h_5 h_6) ?_
    rintro ⟨i_7, a_8, b_9⟩ h_10
    obtain ⟨h_11, h_12, h_13, h_14⟩ : (0 : Int) ≤ i_7 ∧ i_7 ≤ (16 : Int) ∧ b_9 = of vs[i_0.toNat]! ∧ ∀ (j : Nat), j < (16 : Nat) → a_8[j]! = if (↑j : Int) < i_7 then max m_1[j]! (of vs[i_0.toNat]!)[j]! else m_1[j]! := h_10
    refine st_seq (by kernel_rfl) ?_
    refine st_seq (by kernel_rfl) ?_
    refine st_reg (A := (AV.b (decide (i_7 < (16 : Int))) = AV.b (decide (i_7 < (16 : Int))))) (σ' := ⟨[(0, .sl (List.map c22 vs)), (3, .ptr (3) (0) (0) (0)), (4, .i .i64 (i_0)), (5, .ptr (5) (0) (0) (0)), (6, .i .i64 (i_7)), (19, .b (decide (i_7 < (16 : Int))))], [(3, ⟨0, 61, .arr (cA (AV.i IntKind.i64) a_8)⟩), (5, ⟨0, 61, .arr (cA (AV.i IntKind.i64) b_9)⟩)]⟩) cx [(1, { tell := some (.b (decide (i_7 < (16 : Int)))) })] [0, 3, 4, 5, 6, 19] [3, 5] (by kernel_rfl) (by kernel_rfl) (by kernel_rfl) ?_
    refine q_seq_normal ?_
    refine st_dec (i_7 < (16 : Int)) (by kernel_rfl) (by kernel_rfl) (fun h_15 => ?_) (fun h_15 => ?_)
    ·
      refine st_skip (by kernel_rfl) ?_
      refine q_seq_normal ?_
      refine st_seq (by kernel_rfl) ?_
      refine st_block 3 (by kernel_rfl) ?_
      refine st_seq (by kernel_rfl) ?_
      refine st_any (A := ((0 : Int) ≤ i_7) ∧ (i_7 < (↑(16 : Nat) : Int)) ∧ ((cA (AV.i IntKind.i64) b_9)[i_7.toNat * (1 : Nat) + 0]? = some (AV.i IntKind.i64 b_9[i_7.toNat]!)) ∧ ((0 : Int) ≤ i_7) ∧ (i_7 < (↑(16 : Nat) : Int)) ∧ ((cA (AV.i IntKind.i64) a_8)[i_7.toNat * (1 : Nat) + 0]? = some (AV.i IntKind.i64 a_8[i_7.toNat]!)) ∧ (AV.b (decide (b_9[i_7.toNat]! > a_8[i_7.toNat]!)) = AV.b (decide (a_8[i_7.toNat]! < b_9[i_7.toNat]!)))) (σ' := ⟨[(0, .sl (List.map c22 vs)), (3, .ptr (3) (0) (0) (0)), (4, .i .i64 (i_0)), (5, .ptr (5) (0) (0) (0)), (6, .i .i64 (i_7)), (28, .b (decide (a_8[i_7.toNat]! < b_9[i_7.toNat]!)))], [(3, ⟨0, 61, .arr (cA (AV.i IntKind.i64) a_8)⟩), (5, ⟨0, 61, .arr (cA (AV.i IntKind.i64) b_9)⟩)]⟩) cx [(2, { row := [.i .i64 (b_9[i_7.toNat]!)] }), (5, { row := [.i .i64 (a_8[i_7.toNat]!)] }), (6, { tell := some (.b (decide (a_8[i_7.toNat]! < b_9[i_7.toNat]!))) })] [0, 3, 4, 5, 6, 28] [3, 5] (by kernel_rfl) (by kernel_rfl) ⟨(by (with_reducible assumption)), (by omega), (by (simp only [Nat.mul_one, Nat.add_zero, Nat.zero_add]; with_reducible refine get_cA ?_; omega)), (by (with_reducible assumption)), (by omega), (by (simp only [Nat.mul_one, Nat.add_zero, Nat.zero_add]; with_reducible refine get_cA ?_; omega)), (by kernel_rfl)⟩ ?_
      refine q_seq_normal ?_
      refine st_dec (a_8[i_7.toNat]! < b_9[i_7.toNat]!) (by kernel_rfl) (by kernel_rfl) (fun h_16 => ?_) (fun h_16 => ?_)
      ·
        refine st_reg (A := ((0 : Int) ≤ i_7) ∧ (i_7 < (↑(16 : Nat) : Int)) ∧ ((cA (AV.i IntKind.i64) b_9)[i_7.toNat * (1 : Nat) + 0]? = some (AV.i IntKind.i64 b_9[i_7.toNat]!)) ∧ ((0 : Int) ≤ i_7) ∧ (i_7 < (↑(16 : Nat) : Int)) ∧ (i_7.toNat * (1 : Nat) + 0 < (cA (AV.i IntKind.i64) a_8).length) ∧ (cellsA (AV.i IntKind.i64 b_9[i_7.toNat]!) = [(cellsA (AV.i IntKind.i64 b_9[i_7.toNat]!)).headD AV.dead]) ∧ ((cA (AV.i IntKind.i64) a_8).set (i_7.toNat * (1 : Nat) + 0) ((cellsA (AV.i IntKind.i64 b_9[i_7.toNat]!)).headD AV.dead) = cA (AV.i IntKind.i64) (a_8.setIfInBounds i_7.toNat b_9[i_7.toNat]!))) (σ' := ⟨[(0, .sl (List.map c22 vs)), (3, .ptr (3) (0) (0) (0)), (4, .i .i64 (i_0)), (5, .ptr (5) (0) (0) (0)), (6, .i .i64 (i_7))], [(3, ⟨0, 61, .arr (cA (AV.i IntKind.i64) (a_8.setIfInBounds i_7.toNat b_9[i_7.toNat]!))⟩), (5, ⟨0, 61, .arr (cA (AV.i IntKind.i64) b_9)⟩)]⟩) cx [(3, { row := [.i .i64 (b_9[i_7.toNat]!)] }), (5, { rows := some [(cA (AV.i IntKind.i64) (a_8.setIfInBounds i_7.toNat b_9[i_7.toNat]!))] })] [0, 3, 4, 5, 6] [3, 5] (by kernel_rfl) (by kernel_rfl) ⟨(by (with_reducible assumption)), (by omega), (by (simp only [Nat.mul_one, Nat.add_zero, Nat.zero_add]; with_reducible refine get_cA ?_; omega)), (by (with_reducible assumption)), (by omega), (by (simp only [List.length_set, List.length_map, List.length_append, List.length_replicate, List.length_cons, List.length_nil, Go.maxLen, Nat.mul_one, Nat.add_zero, Nat.zero_add, Nat.one_mul, len_cA]; omega)), (by kernel_rfl), (by (simp only [Nat.mul_one, Nat.add_zero, Nat.zero_add]; with_reducible refine set_cA ?_; kernel_rfl))⟩ ?_
        refine q_blk_normal ?_
        refine q_seq_normal ?_
        refine st_reg (A := (AV.i IntKind.i64 (IntKind.i64.wrap (i_7 + (1 : Int))) = AV.i IntKind.i64 (i_7 + (1 : Int)))) (σ' := ⟨[(0, .sl (List.map c22 vs)), (3, .ptr (3) (0) (0) (0)), (4, .i .i64 (i_0)), (5, .ptr (5) (0) (0) (0)), (6, .i .i64 (i_7 + (1 : Int)))], [(3, ⟨0, 61, .arr (cA (AV.i IntKind.i64) (a_8.setIfInBounds i_7.toNat b_9[i_7.toNat]!))⟩), (5, ⟨0, 61, .arr (cA (AV.i IntKind.i64) b_9)⟩)]⟩) cx [(1, { tell := some (.i .i64 (i_7 + (1 : Int))) })] [0, 3, 4, 5, 6] [3, 5] (by kernel_rfl) (by kernel_rfl) (told_i64 (by omega) (by omega)) ?_
        refine q_seq_normal ?_
        exact loop_next ((i_7 + (1 : Int), a_8.setIfInBounds i_7.toNat b_9[i_7.toNat]!, b_9)) (by kernel_rfl) (show ((16 : Int) - (i_7 + (1 : Int))).toNat < ((16 : Int) - i_7).toNat from (by omega)) (g2 i_0 m_1 h_3 h_4 h_5 h_6 i_7 a_8 b_9 h_11 h_12 h_13 h_14 h_15 h_16)
      ·
        refine st_skip (by kernel_rfl) ?_
        refine q_blk_normal ?_
        refine q_seq_normal ?_
        refine st_reg (A := (AV.i IntKind.i64 (IntKind.i64.wrap (i_7 + (1 : Int))) = AV.i IntKind.i64 (i_7 + (1 : Int)))) (σ' := ⟨[(0, .sl (List.map c22 vs)), (3, .ptr (3) (0) (0) (0)), (4, .i .i64 (i_0)), (5, .ptr (5) (0) (0) (0)), (6, .i .i64 (i_7 + (1 : Int)))], [(3, ⟨0, 61, .arr (cA (AV.i IntKind.i64) a_8)⟩), (5, ⟨0, 61, .arr (cA (AV.i IntKind.i64) b_9)⟩)]⟩) cx [(1, { tell := some (.i .i64 (i_7 + (1 : Int))) })] [0, 3, 4, 5, 6] [3, 5] (by kernel_rfl) (by kernel_rfl) (told_i64 (by omega) (by omega)) ?_
        refine q_seq_normal ?_
        exact loop_next ((i_7 + (1 : Int), a_8, b_9)) (by kernel_rfl) (show ((16 : Int) - (i_7 + (1 : Int))).toNat < ((16 : Int) - i_7).toNat from (by omega)) (g3 i_0 m_1 h_3 h_4 h_5 h_6 i_7 a_8 b_9 h_11 h_12 h_13 h_14 h_15 h_16)
    ·
      refine st_exit 2 (by kernel_rfl) ?_
      refine q_seq_exit ?_
      refine q_seq_exit ?_
      refine q_blk_hit ?_
      refine q_blk_normal ?_
      refine q_seq_normal ?_
      refine st_reg (A := (AV.i IntKind.i64 (IntKind.i64.wrap (i_0 + (1 : Int))) = AV.i IntKind.i64 (i_0 + (1 : Int)))) (σ' := ⟨[(0, .sl (List.map c22 vs)), (3, .ptr (3) (0) (0) (0)), (4, .i .i64 (i_0 + (1 : Int)))], [(3, ⟨0, 61, .arr (cA (AV.i IntKind.i64) a_8)⟩)]⟩) cx [(1, { tell := some (.i .i64 (i_0 + (1 : Int))) })] [0, 3, 4] [3] (by kernel_rfl) (by kernel_rfl) (told_i64 (by omega) (by omega)) ?_
      refine q_seq_normal ?_
      exact loop_next ((i_0 + (1 : Int), a_8)) (by kernel_rfl) (show ((↑vs.length : Int) - (i_0 + (1 : Int))).toNat < ((↑vs.length : Int) - i_0).toNat from (by omega)) (g4 i_0 m_1 h_3 h_4 h_5 h_6 i_7 a_8 b_9 h_11 h_12 h_13 h_14 h_15)
  ·
    refine st_exit 0 (by kernel_rfl) ?_
    refine q_seq_exit ?_
    refine q_seq_exit ?_
    refine q_blk_hit ?_
    refine q_seq_normal ?_
    refine st_seq (by kernel_rfl) ?_
    refine st_reg (A := ((cA (AV.i IntKind.i64) m_1).length = (16 : Nat)) ∧ (Con Try.prog (52 : FuncId) [AV.agg (c61 m_1)] (AV.sl (List.map c3 (short m_1))))) (σ' := ⟨[(2, .sl (List.map c3 (short m_1)))], []⟩) cx [(1, { val := some (.sl (List.map c3 (short m_1))) })] [2] [] (by kernel_rfl) (by kernel_rfl) ⟨(by (simp only [len_cA]; done)), (con52 (m_1))⟩ ?_
    refine q_seq_normal ?_
    refine st_ret (by kernel_rfl) ?_
    exact q_ret (r := .sl (List.map c3 (short m_1))) (obl := []) (by kernel_rfl) trivial (AVle.eq (g5 i_0 m_1 h_3 h_4 h_5 h_6))
theorem con27 (vs : List (List Int)) : Con Try.prog 27 [.sl (vs.map c22)] (.sl ((short (mergeL (Vector.replicate 16 0) vs)).map c3)) :=
  by
  refine walk27 vs ⟨by decide, by omega, rfl⟩ (fun i m h0 h1 h2 h3 => ⟨by decide, by decide, rfl, fun j hj => by rw [if_neg (by omega)]⟩)
    (fun i m h0 h1 h2 h3 r a b k0 k1 k2 k3 k4 k5 => inv27_step k0 k2 k3 k4 (by omega)) (fun i m h0 h1 h2 h3 r a b k0 k1 k2 k3 k4 k5 => inv27_skip k0 k2 k3 k4 (by omega))
    (fun i m h0 h1 h2 h3 r a b k0 k1 k2 k3 k4 => ⟨by omega, by omega, ?_⟩) (fun i m h0 h1 h2 h3 => ?_)
  · rw [inv27_done k0 k3 k4 (fun j hj => get_mergeV _ _ j hj), ← mergeL_step _ _ _ h0 h3, h2]
  · rw [h2, List.take_of_length_le (by omega)]
theorem walk28 (vs : List (List Int))
    (g0 : inv25 vs (0 : Int) (Vector.replicate (16 : Nat) (0 : Int)))
    (g1 : ∀ (i_0 : Int) (m_1 : Vector Int (16 : Nat)), (0 : Int) ≤ i_0 → i_0 ≤ (↑vs.length : Int) → m_1 = meetL (List.take i_0.toNat vs) → i_0 < (↑vs.length : Int) → inv27 (if i_0 = (0 : Int) then fun x y ↦ y else min) m_1 (of vs[i_0.toNat]!) (0 : Int) m_1 (of vs[i_0.toNat]!))
    (g2 : ∀ (i_0 : Int) (m_1 : Vector Int (16 : Nat)), (0 : Int) ≤ i_0 → i_0 ≤ (↑vs.length : Int) → m_1 = meetL (List.take i_0.toNat vs) → i_0 < (↑vs.length : Int) → ∀ (i_7 : Int) (a_8 b_9 : Vector Int (16 : Nat)), (0 : Int) ≤ i_7 → i_7 ≤ (16 : Int) → b_9 = of vs[i_0.toNat]! → (∀ (j : Nat), j < (16 : Nat) → a_8[j]! = if (↑j : Int) < i_7 then (if i_0 = (0 : Int) then fun x y ↦ y else min) m_1[j]! (of vs[i_0.toNat]!)[j]! else m_1[j]!) → i_7 < (16 : Int) → i_0 = (0 : Int) ∨ b_9[i_7.toNat]! < a_8[i_7.toNat]! → inv27 (if i_0 = (0 : Int) then fun x y ↦ y else min) m_1 (of vs[i_0.toNat]!) (i_7 + (1 : Int)) (a_8.setIfInBounds i_7.toNat b_9[i_7.toNat]!) b_9)
    (g3 : ∀ (i_0 : Int) (m_1 : Vector Int (16 : Nat)), (0 : Int) ≤ i_0 → i_0 ≤ (↑vs.length : Int) → m_1 = meetL (List.take i_0.toNat vs) → i_0 < (↑vs.length : Int) → ∀ (i_7 : Int) (a_8 b_9 : Vector Int (16 : Nat)), (0 : Int) ≤ i_7 → i_7 ≤ (16 : Int) → b_9 = of vs[i_0.toNat]! → (∀ (j : Nat), j < (16 : Nat) → a_8[j]! = if (↑j : Int) < i_7 then (if i_0 = (0 : Int) then fun x y ↦ y else min) m_1[j]! (of vs[i_0.toNat]!)[j]! else m_1[j]!) → i_7 < (16 : Int) → ¬(i_0 = (0 : Int) ∨ b_9[i_7.toNat]! < a_8[i_7.toNat]!) → inv27 (if i_0 = (0 : Int) then fun x y ↦ y else min) m_1 (of vs[i_0.toNat]!) (i_7 + (1 : Int)) a_8 b_9)
    (g4 : ∀ (i_0 : Int) (m_1 : Vector Int (16 : Nat)), (0 : Int) ≤ i_0 → i_0 ≤ (↑vs.length : Int) → m_1 = meetL (List.take i_0.toNat vs) → i_0 < (↑vs.length : Int) → ∀ (i_7 : Int) (a_8 b_9 : Vector Int (16 : Nat)), (0 : Int) ≤ i_7 → i_7 ≤ (16 : Int) → b_9 = of vs[i_0.toNat]! → (∀ (j : Nat), j < (16 : Nat) → a_8[j]! = if (↑j : Int) < i_7 then (if i_0 = (0 : Int) then fun x y ↦ y else min) m_1[j]! (of vs[i_0.toNat]!)[j]! else m_1[j]!) → ¬i_7 < (16 : Int) → inv25 vs (i_0 + (1 : Int)) a_8)
    (g5 : ∀ (i_0 : Int) (m_1 : Vector Int (16 : Nat)), (0 : Int) ≤ i_0 → i_0 ≤ (↑vs.length : Int) → m_1 = meetL (List.take i_0.toNat vs) → ¬i_0 < (↑vs.length : Int) → AV.sl (List.map c3 (short m_1)) = AV.sl (List.map c3 (short (meetL vs)))) :
    Con Try.prog (28 : FuncId) [AV.sl (List.map c22 vs)] (AV.sl (List.map c3 (short (meetL vs)))) := by
  refine con_lens 0 (c22) (vs) (by kernel_rfl) Go.Proofs.Try.func28 (by kernel_rfl) fun hl_0 => ?_
  refine st_con tab_ok (by kernel_rfl) [.tmp 2] 40 Go.Proofs.Try.func28 (by kernel_rfl) (by kernel_rfl) ?_
  intro e0 cx
  refine st_seq (by kernel_rfl) ?_
  refine st_reg (A := True) (σ' := ⟨[(0, .sl (List.map c22 vs))], []⟩) cx [] [0] [] (by kernel_rfl) (by kernel_rfl) trivial ?_
  refine q_seq_normal ?_
  refine st_seq (by kernel_rfl) ?_
  refine st_reg (A := True) (σ' := ⟨[(0, .sl (List.map c22 vs)), (3, .ptr (3) (0) (0) (0))], [(3, ⟨0, 61, .arr (cA (AV.i IntKind.i64) (Vector.replicate (16 : Nat) (0 : Int)))⟩)]⟩) cx [] [0, 3] [3] (by kernel_rfl) (by kernel_rfl) trivial ?_
  refine q_seq_normal ?_
  refine st_seq (by kernel_rfl) ?_
  refine st_seq (by kernel_rfl) ?_
  refine st_reg (A := True) (σ' := ⟨[(0, .sl (List.map c22 vs)), (3, .ptr (3) (0) (0) (0)), (4, .i .i64 ((0 : Int)))], [(3, ⟨0, 61, .arr (cA (AV.i IntKind.i64) (Vector.replicate (16 : Nat) (0 : Int)))⟩)]⟩) cx [] [0, 3, 4] [3] (by kernel_rfl) (by kernel_rfl) trivial ?_
  refine q_seq_normal ?_
  refine st_block 0 (by kernel_rfl) ?_
  refine st_loop (X := Int × Vector Int (16 : Nat)) (fun x => ⟨[(0, .sl (List.map c22 vs)), (3, .ptr (3) (0) (0) (0)), (4, .i .i64 (x.fst))], [(3, ⟨0, 61, .arr (cA (AV.i IntKind.i64) x.snd)⟩)]⟩) (fun x ↦ dec26 vs x.fst x.snd) (fun x ↦ inv25 vs x.fst x.snd) [0, 3, 4] [3] (((0 : Int), Vector.replicate (16 : Nat) (0 : Int))) (by kernel_rfl) (by kernel_rfl) g0 ?_
  rintro ⟨i_0, m_1⟩ h_2
  obtain ⟨h_3, h_4, h_5⟩ : (0 : Int) ≤ i_0 ∧ i_0 ≤ (↑vs.length : Int) ∧ m_1 = meetL (List.take i_0.toNat vs) := h_2
  refine st_seq (by kernel_rfl) ?_
  refine st_seq (by kernel_rfl) ?_
  refine st_reg (A := (AV.i IntKind.i64 (↑(List.map c22 vs).length : Int) = AV.i IntKind.i64 (↑vs.length : Int)) ∧ (AV.b (decide (i_0 < (↑vs.length : Int))) = AV.b (decide (i_0 < (↑vs.length : Int))))) (σ' := ⟨[(0, .sl (List.map c22 vs)), (3, .ptr (3) (0) (0) (0)), (4, .i .i64 (i_0)), (10, .b (decide (i_0 < (↑vs.length : Int))))], [(3, ⟨0, 61, .arr (cA (AV.i IntKind.i64) m_1)⟩)]⟩) cx [(2, { tell := some (.i .i64 ((↑vs.length : Int))) }), (3, { tell := some (.b (decide (i_0 < (↑vs.length : Int)))) })] [0, 3, 4, 10] [3] (by kernel_rfl) (by kernel_rfl) ⟨(told_len c22 vs), (by kernel_rfl)⟩ ?_
  refine q_seq_normal ?_
  refine st_dec (i_0 < (↑vs.length : Int)) (by kernel_rfl) (by kernel_rfl) (fun h_6 => ?_) (fun h_6 => ?_)
  ·
    refine st_skip (by kernel_rfl) ?_
    refine q_seq_normal ?_
    refine st_seq (by kernel_rfl) ?_
    refine st_block 1 (by kernel_rfl) ?_
    refine st_seq (by kernel_rfl) ?_
    refine st_reg (A := ((0 : Int) ≤ i_0) ∧ ((List.map c22 vs)[i_0.toNat]? = some (c22 vs[i_0.toNat]!)) ∧ ((c22 vs[i_0.toNat]!).length = (1 : Nat)) ∧ (Con Try.prog (50 : FuncId) [AV.sl (List.map c3 vs[i_0.toNat]!)] (AV.agg (c61 (of vs[i_0.toNat]!)))) ∧ ((cA (AV.i IntKind.i64) (of vs[i_0.toNat]!)).length = (cA (AV.i IntKind.i64) (Vector.replicate (16 : Nat) (0 : Int))).length) ∧ ((cA (AV.i IntKind.i64) (of vs[i_0.toNat]!)).length = (16 : Nat))) (σ' := ⟨[(0, .sl (List.map c22 vs)), (3, .ptr (3) (0) (0) (0)), (4, .i .i64 (i_0)), (5, .ptr (5) (0) (0) (0))], [(3, ⟨0, 61, .arr (cA (AV.i IntKind.i64) m_1)⟩), (5, ⟨0, 61, .arr (cA (AV.i IntKind.i64) (of vs[i_0.toNat]!))⟩)]⟩) cx [(2, { row := (c22 vs[i_0.toNat]!) }), (4, { val := some (.agg (cA (AV.i IntKind.i64) (of vs[i_0.toNat]!))) })] [0, 3, 4, 5] [3, 5] (by kernel_rfl) (by kernel_rfl) ⟨(by (with_reducible assumption)), (by (with_reducible refine get_map ?_; omega)), (by kernel_rfl), (con50 (vs[i_0.toNat]!)), (by kernel_rfl), (by kernel_rfl)⟩ ?_
    refine q_seq_normal ?_
    refine st_seq (by kernel_rfl) ?_
    refine st_reg (A := True) (σ' := ⟨[(0, .sl (List.map c22 vs)), (3, .ptr (3) (0) (0) (0)), (4, .i .i64 (i_0)), (5, .ptr (5) (0) (0) (0)), (6, .i .i64 ((0 : Int)))], [(3, ⟨0, 61, .arr (cA (AV.i IntKind.i64) m_1)⟩), (5, ⟨0, 61, .arr (cA (AV.i IntKind.i64) (of vs[i_0.toNat]!))⟩)]⟩) cx [] [0, 3, 4, 5, 6] [3, 5] (by kernel_rfl) (by kernel_rfl) trivial ?_
    refine q_seq_normal ?_
    refine st_block 2 (by kernel_rfl) ?_
    refine st_loop (X := Int × Vector Int (16 : Nat) × Vector Int (16 : Nat)) (fun x => ⟨[(0, .sl (List.map c22 vs)), (3, .ptr (3) (0) (0) (0)), (4, .i .i64 (i_0)), (5, .ptr (5) (0) (0) (0)), (6, .i .i64 (x.fst))], [(3, ⟨0, 61, .arr (cA (AV.i IntKind.i64) x.snd.fst)⟩), (5, ⟨0, 61, .arr (cA (AV.i IntKind.i64) x.snd.snd)⟩)]⟩) (fun x ↦ dec27 x.fst x.snd.fst x.snd.snd) (fun x ↦ inv27 (if i_0 = (0 : Int) then fun x y ↦ y else min) m_1 (of vs[i_0.toNat]!) x.fst x.snd.fst x.snd.snd) [0, 3, 4, 5, 6] [3, 5] (((0 : Int), m_1, of vs[i_0.toNat]!)) (by kernel_rfl) (by kernel_rfl) (g1 i_0 m_1 h_3 h_4 h_5 h_6) ?_
    rintro ⟨i_7, a_8, b_9⟩ h_10
    obtain ⟨h_11, h_12, h_13, h_14⟩ : (0 : Int) ≤ i_7 ∧ i_7 ≤ (16 : Int) ∧ b_9 = of vs[i_0.toNat]! ∧ ∀ (j : Nat), j < (16 : Nat) → a_8[j]! = if (↑j : Int) < i_7 then (if i_0 = (0 : Int) then fun x y ↦ y else min) m_1[j]! (of vs[i_0.toNat]!)[j]! else m_1[j]! := h_10
    refine st_seq (by kernel_rfl) ?_
    refine st_seq (by kernel_rfl) ?_
    refine st_reg (A := (AV.b (decide (i_7 < (16 : Int))) = AV.b (decide (i_7 < (16 : Int))))) (σ' := ⟨[(0, .sl (List.map c22 vs)), (3, .ptr (3) (0) (0) (0)), (4, .i .i64 (i_0)), (5, .ptr (5) (0) (0) (0)), (6, .i .i64 (i_7)), (19, .b (decide (i_7 < (16 : Int))))], [(3, ⟨0, 61, .arr (cA (AV.i IntKind.i64) a_8)⟩), (5, ⟨0, 61, .arr (cA (AV.i IntKind.i64) b_9)⟩)]⟩) cx [(1, { tell := some (.b (decide (i_7 < (16 : Int)))) })] [0, 3, 4, 5, 6, 19] [3, 5] (by kernel_rfl) (by kernel_rfl) (by kernel_rfl) ?_
    refine q_seq_normal ?_
    refine st_dec (i_7 < (16 : Int)) (by kernel_rfl) (by kernel_rfl) (fun h_15 => ?_) (fun h_15 => ?_)
    ·
      refine st_skip (by kernel_rfl) ?_
      refine q_seq_normal ?_
      refine st_seq (by kernel_rfl) ?_
      refine st_block 3 (by kernel_rfl) ?_
      refine st_seq (by kernel_rfl) ?_
      refine st_join (σ' := ⟨[(0, .sl (List.map c22 vs)), (3, .ptr (3) (0) (0) (0)), (4, .i .i64 (i_0)), (5, .ptr (5) (0) (0) (0)), (6, .i .i64 (i_7)), (32, .b (decide (i_0 = (0 : Int) ∨ b_9[i_7.toNat]! < a_8[i_7.toNat]!)))], [(3, ⟨0, 61, .arr (cA (AV.i IntKind.i64) a_8)⟩), (5, ⟨0, 61, .arr (cA (AV.i IntKind.i64) b_9)⟩)]⟩) ?_ ?_
      ·
        refine st_split (i_0 = (0 : Int)) (fun h_17 => ?_) (fun h_17 => ?_)
        ·
          refine st_any (A := (AV.b (i_0 == (0 : Int)) = AV.b true) ∧ (AV.b true = AV.b (decide (i_0 = (0 : Int) ∨ b_9[i_7.toNat]! < a_8[i_7.toNat]!)))) (σ' := ⟨[(0, .sl (List.map c22 vs)), (3, .ptr (3) (0) (0) (0)), (4, .i .i64 (i_0)), (5, .ptr (5) (0) (0) (0)), (6, .i .i64 (i_7)), (32, .b (decide (i_0 = (0 : Int) ∨ b_9[i_7.toNat]! < a_8[i_7.toNat]!)))], [(3, ⟨0, 61, .arr (cA (AV.i IntKind.i64) a_8)⟩), (5, ⟨0, 61, .arr (cA (AV.i IntKind.i64) b_9)⟩)]⟩) cx [(1, { tell := some (.b (true)) }), (10, { tell := some (.b (decide (i_0 = (0 : Int) ∨ b_9[i_7.toNat]! < a_8[i_7.toNat]!))) })] [0, 3, 4, 5, 6, 32] [3, 5] (by kernel_rfl) (by kernel_rfl) ⟨(told_true h_17), (by simp only [eq_true h_17, told_simp1, told_simp2, and_true, true_and, and_false, false_and, or_true, true_or, or_false, false_or, not_true_eq_false, not_false_eq_true, decide_true, decide_false, Bool.decide_eq_true])⟩ ?_
          exact ⟨rfl, rfl⟩
        ·
          refine st_any (A := (AV.b (i_0 == (0 : Int)) = AV.b false) ∧ ((0 : Int) ≤ i_7) ∧ (i_7 < (↑(16 : Nat) : Int)) ∧ ((cA (AV.i IntKind.i64) b_9)[i_7.toNat * (1 : Nat) + 0]? = some (AV.i IntKind.i64 b_9[i_7.toNat]!)) ∧ ((0 : Int) ≤ i_7) ∧ (i_7 < (↑(16 : Nat) : Int)) ∧ ((cA (AV.i IntKind.i64) a_8)[i_7.toNat * (1 : Nat) + 0]? = some (AV.i IntKind.i64 a_8[i_7.toNat]!)) ∧ (AV.b (decide (b_9[i_7.toNat]! < a_8[i_7.toNat]!)) = AV.b (decide (b_9[i_7.toNat]! < a_8[i_7.toNat]!))) ∧ (AV.b (decide (b_9[i_7.toNat]! < a_8[i_7.toNat]!)) = AV.b (decide (i_0 = (0 : Int) ∨ b_9[i_7.toNat]! < a_8[i_7.toNat]!)))) (σ' := ⟨[(0, .sl (List.map c22 vs)), (3, .ptr (3) (0) (0) (0)), (4, .i .i64 (i_0)), (5, .ptr (5) (0) (0) (0)), (6, .i .i64 (i_7)), (32, .b (decide (i_0 = (0 : Int) ∨ b_9[i_7.toNat]! < a_8[i_7.toNat]!)))], [(3, ⟨0, 61, .arr (cA (AV.i IntKind.i64) a_8)⟩), (5, ⟨0, 61, .arr (cA (AV.i IntKind.i64) b_9)⟩)]⟩) cx [(1, { tell := some (.b (false)) }), (5, { row := [.i .i64 (b_9[i_7.toNat]!)] }), (8, { row := [.i .i64 (a_8[i_7.toNat]!)] }), (9, { tell := some (.b (decide (b_9[i_7.toNat]! < a_8[i_7.toNat]!))) }), (10, { tell := some (.b (decide (i_0 = (0 : Int) ∨ b_9[i_7.toNat]! < a_8[i_7.toNat]!))) })] [0, 3, 4, 5, 6, 32] [3, 5] (by kernel_rfl) (by kernel_rfl) ⟨(told_false h_17), (by (with_reducible assumption)), (by omega), (by (simp only [Nat.mul_one, Nat.add_zero, Nat.zero_add]; with_reducible refine get_cA ?_; omega)), (by (with_reducible assumption)), (by omega), (by (simp only [Nat.mul_one, Nat.add_zero, Nat.zero_add]; with_reducible refine get_cA ?_; omega)), (by kernel_rfl), (by simp only [eq_false h_17, told_simp1, told_simp2, and_true, true_and, and_false, false_and, or_true, true_or, or_false, false_or, not_true_eq_false, not_false_eq_true, decide_true, decide_false, Bool.decide_eq_true])⟩ ?_
          exact ⟨rfl, rfl⟩
      ·
        refine q_seq_normal ?_
        refine st_dec (i_0 = (0 : Int) ∨ b_9[i_7.toNat]! < a_8[i_7.toNat]!) (by kernel_rfl) (by kernel_rfl) (fun h_18 => ?_) (fun h_18 => ?_)
        ·
          refine st_reg (A := ((0 : Int) ≤ i_7) ∧ (i_7 < (↑(16 : Nat) : Int)) ∧ ((cA (AV.i IntKind.i64) b_9)[i_7.toNat * (1 : Nat) + 0]? = some (AV.i IntKind.i64 b_9[i_7.toNat]!)) ∧ ((0 : Int) ≤ i_7) ∧ (i_7 < (↑(16 : Nat) : Int)) ∧ (i_7.toNat * (1 : Nat) + 0 < (cA (AV.i IntKind.i64) a_8).length) ∧ (cellsA (AV.i IntKind.i64 b_9[i_7.toNat]!) = [(cellsA (AV.i IntKind.i64 b_9[i_7.toNat]!)).headD AV.dead]) ∧ ((cA (AV.i IntKind.i64) a_8).set (i_7.toNat * (1 : Nat) + 0) ((cellsA (AV.i IntKind.i64 b_9[i_7.toNat]!)).headD AV.dead) = cA (AV.i IntKind.i64) (a_8.setIfInBounds i_7.toNat b_9[i_7.toNat]!))) (σ' := ⟨[(0, .sl (List.map c22 vs)), (3, .ptr (3) (0) (0) (0)), (4, .i .i64 (i_0)), (5, .ptr (5) (0) (0) (0)), (6, .i .i64 (i_7))], [(3, ⟨0, 61, .arr (cA (AV.i IntKind.i64) (a_8.setIfInBounds i_7.toNat b_9[i_7.toNat]!))⟩), (5, ⟨0, 61, .arr (cA (AV.i IntKind.i64) b_9)⟩)]⟩) cx [(3, { row := [.i .i64 (b_9[i_7.toNat]!)] }), (5, { rows := some [(cA (AV.i IntKind.i64) (a_8.setIfInBounds i_7.toNat b_9[i_7.toNat]!))] })] [0, 3, 4, 5, 6] [3, 5] (by kernel_rfl) (by kernel_rfl) ⟨(by (with_reducible assumption)), (by omega), (by (simp only [Nat.mul_one, Nat.add_zero, Nat.zero_add]; with_reducible refine get_cA ?_; omega)), (by (with_reducible assumption)), (by omega), (by (simp only [List.length_set, List.length_map, List.length_append, List.length_replicate, List.length_cons, List.length_nil, Go.maxLen, Nat.mul_one, Nat.add_zero, Nat.zero_add, Nat.one_mul, len_cA]; omega)), (by kernel_rfl), (by (simp only [Nat.mul_one, Nat.add_zero, Nat.zero_add]; with_reducible refine set_cA ?_; kernel_rfl))⟩ ?_
          refine q_blk_normal ?_
          refine q_seq_normal ?_
          refine st_reg (A := (AV.i IntKind.i64 (IntKind.i64.wrap (i_7 + (1 : Int))) = AV.i IntKind.i64 (i_7 + (1 : Int)))) (σ' := ⟨[(0, .sl (List.map c22 vs)), (3, .ptr (3) (0) (0) (0)), (4, .i .i64 (i_0)), (5, .ptr (5) (0) (0) (0)), (6, .i .i64 (i_7 + (1 : Int)))], [(3, ⟨0, 61, .arr (cA (AV.i IntKind.i64) (a_8.setIfInBounds i_7.toNat b_9[i_7.toNat]!))⟩), (5, ⟨0, 61, .arr (cA (AV.i IntKind.i64) b_9)⟩)]⟩) cx [(1, { tell := some (.i .i64 (i_7 + (1 : Int))) })] [0, 3, 4, 5, 6] [3, 5] (by kernel_rfl) (by kernel_rfl) (told_i64 (by omega) (by omega)) ?_
          refine q_seq_normal ?_
          exact loop_next ((i_7 + (1 : Int), a_8.setIfInBounds i_7.toNat b_9[i_7.toNat]!, b_9)) (by kernel_rfl) (show ((16 : Int) - (i_7 + (1 : Int))).toNat < ((16 : Int) - i_7).toNat from (by omega)) (g2 i_0 m_1 h_3 h_4 h_5 h_6 i_7 a_8 b_9 h_11 h_12 h_13 h_14 h_15 h_18)
        ·
          refine st_skip (by kernel_rfl) ?_
          refine q_blk_normal ?_
          refine q_seq_normal ?_
          refine st_reg (A := (AV.i IntKind.i64 (IntKind.i64.wrap (i_7 + (1 : Int))) = AV.i IntKind.i64 (i_7 + (1 : Int)))) (σ' := ⟨[(0, .sl (List.map c22 vs)), (3, .ptr (3) (0) (0) (0)), (4, .i .i64 (i_0)), (5, .ptr (5) (0) (0) (0)), (6, .i .i64 (i_7 + (1 : Int)))], [(3, ⟨0, 61, .arr (cA (AV.i IntKind.i64) a_8)⟩), (5, ⟨0, 61, .arr (cA (AV.i IntKind.i64) b_9)⟩)]⟩) cx [(1, { tell := some (.i .i64 (i_7 + (1 : Int))) })] [0, 3, 4, 5, 6] [3, 5] (by kernel_rfl) (by kernel_rfl) (told_i64 (by omega) (by omega)) ?_
          refine q_seq_normal ?_
          exact loop_next ((i_7 + (1 : Int), a_8, b_9)) (by kernel_rfl) (show ((16 : Int) - (i_7 + (1 : Int))).toNat < ((16 : Int) - i_7).toNat from (by omega)) (g3 i_0 m_1 h_3 h_4 h_5 h_6 i_7 a_8 b_9 h_11 h_12 h_13 h_14 h_15 h_18)
    ·
      refine st_exit 2 (by kernel_rfl) ?_
      refine q_seq_exit ?_
      refine q_seq_exit ?_
      refine q_blk_hit ?_
      refine q_blk_normal ?_
      refine q_seq_normal ?_
      refine st_reg (A := (AV.i IntKind.i64 (IntKind.i64.wrap (i_0 + (1 : Int))) = AV.i IntKind.i64 (i_0 + (1 : Int)))) (σ' := ⟨[(0, .sl (List.map c22 vs)), (3, .ptr (3) (0) (0) (0)), (4, .i .i64 (i_0 + (1 : Int)))], [(3, ⟨0, 61, .arr (cA (AV.i IntKind.i64) a_8)⟩)]⟩) cx [(1, { tell := some (.i .i64 (i_0 + (1 : Int))) })] [0, 3, 4] [3] (by kernel_rfl) (by kernel_rfl) (told_i64 (by omega) (by omega)) ?_
      refine q_seq_normal ?_
      exact loop_next ((i_0 + (1 : Int), a_8)) (by kernel_rfl) (show ((↑vs.length : Int) - (i_0 + (1 : Int))).toNat < ((↑vs.length : Int) - i_0).toNat from (by omega)) (g4 i_0 m_1 h_3 h_4 h_5 h_6 i_7 a_8 b_9 h_11 h_12 h_13 h_14 h_15)
  ·
    refine st_exit 0 (by kernel_rfl) ?_
    refine q_seq_exit ?_
    refine q_seq_exit ?_
    refine q_blk_hit ?_
    refine q_seq_normal ?_
    refine st_seq (by kernel_rfl) ?_
    refine st_reg (A := ((cA (AV.i IntKind.i64) m_1).length = (16 : Nat)) ∧ (Con Try.prog (52 : FuncId) [AV.agg (c61 m_1)] (AV.sl (List.map c3 (short m_1))))) (σ' := ⟨[(2, .sl (List.map c3 (short m_1)))], []⟩) cx [(1, { val := some (.sl (List.map c3 (short m_1))) })] [2] [] (by kernel_rfl) (by kernel_rfl) ⟨(by (simp only [len_cA]; done)), (con52 (m_1))⟩ ?_
    refine q_seq_normal ?_
    refine st_ret (by kernel_rfl) ?_
    exact q_ret (r := .sl (List.map c3 (short m_1))) (obl := []) (by kernel_rfl) trivial (AVle.eq (g5 i_0 m_1 h_3 h_4 h_5 h_6))
theorem con28 (vs : List (List Int)) : Con Try.prog 28 [.sl (vs.map c22)] (.sl ((short (meetL vs)).map c3)) :=
  by
  refine walk28 vs ⟨by decide, by omega, rfl⟩ (fun i m h0 h1 h2 h3 => ⟨by decide, by decide, rfl, fun j hj => by rw [if_neg (by omega)]⟩)
    (fun i m h0 h1 h2 h3 r a b k0 k1 k2 k3 k4 k5 => inv27_step k0 k2 k3 k4 (by
      by_cases e : i = 0
      · rw [if_pos e]
      · rw [if_neg e]; omega))
    (fun i m h0 h1 h2 h3 r a b k0 k1 k2 k3 k4 k5 => inv27_skip k0 k2 k3 k4 (by rw [if_neg (by omega)]; omega)) (fun i m h0 h1 h2 h3 r a b k0 k1 k2 k3 k4 => ⟨by omega, by omega, ?_⟩) (fun i m h0 h1 h2 h3 => ?_)
  · rw [meetL_step vs i h0 h3]
    by_cases e : i = 0
    · rw [if_pos e]
      exact inv27_done k0 k3 k4 (fun j hj => by rw [if_pos e])
    · rw [if_neg e, ← h2]
      exact inv27_done k0 k3 k4 (fun j hj => by rw [if_neg e, get_meetV _ _ j hj])
  · rw [h2, List.take_of_length_le (by omega)]
theorem walk30 (a : List (List Int)) (b : List (List Int))
    (g0 : ¬(↑a.length : Int) = (↑b.length : Int) → AV.b false = AV.b (decide (a = b)))
    (g1 : ¬¬(↑a.length : Int) = (↑b.length : Int) → inv30 a b (0 : Int))
    (g2 : ¬¬(↑a.length : Int) = (↑b.length : Int) → ∀ (i_1 : Int), (0 : Int) ≤ i_1 → i_1 ≤ (↑a.length : Int) → (∀ (j : Nat), (↑j : Int) < i_1 → a[j]! = b[j]!) → i_1 < (↑a.length : Int) → ¬a[i_1.toNat]! = b[i_1.toNat]! → AV.b false = AV.b (decide (a = b)))
    (g3 : ¬¬(↑a.length : Int) = (↑b.length : Int) → ∀ (i_1 : Int), (0 : Int) ≤ i_1 → i_1 ≤ (↑a.length : Int) → (∀ (j : Nat), (↑j : Int) < i_1 → a[j]! = b[j]!) → i_1 < (↑a.length : Int) → ¬¬a[i_1.toNat]! = b[i_1.toNat]! → inv30 a b (i_1 + (1 : Int)))
    (g4 : ¬¬(↑a.length : Int) = (↑b.length : Int) → ∀ (i_1 : Int), (0 : Int) ≤ i_1 → i_1 ≤ (↑a.length : Int) → (∀ (j : Nat), (↑j : Int) < i_1 → a[j]! = b[j]!) → ¬i_1 < (↑a.length : Int) → AV.b true = AV.b (decide (a = b))) :
    Con Try.prog (30 : FuncId) [AV.sl (List.map c22 a), AV.sl (List.map c22 b)] (AV.b (decide (a = b))) := by
  refine con_lens 0 (c22) (a) (by kernel_rfl) Go.Proofs.Try.func30 (by kernel_rfl) fun hl_0 => ?_
  refine con_lens 1 (c22) (b) (by kernel_rfl) Go.Proofs.Try.func30 (by kernel_rfl) fun hl_1 => ?_
  refine st_con tab_ok (by kernel_rfl) [.tmp 4] 27 Go.Proofs.Try.func30 (by kernel_rfl) (by kernel_rfl) ?_
  intro e0 cx
  refine st_seq (by kernel_rfl) ?_
  refine st_reg (A := True) (σ' := ⟨[(0, .sl (List.map c22 a)), (1, .sl (List.map c22 b))], []⟩) cx [] [0, 1] [] (by kernel_rfl) (by kernel_rfl) trivial ?_
  refine q_seq_normal ?_
  refine st_seq (by kernel_rfl) ?_
  refine st_seq (by kernel_rfl) ?_
  refine st_reg (A := (AV.i IntKind.i64 (↑(List.map c22 a).length : Int) = AV.i IntKind.i64 (↑a.length : Int)) ∧ (AV.i IntKind.i64 (↑(List.map c22 b).length : Int) = AV.i IntKind.i64 (↑b.length : Int)) ∧ (AV.b ((↑a.length : Int) != (↑b.length : Int)) = AV.b (decide ¬(↑a.length : Int) = (↑b.length : Int)))) (σ' := ⟨[(0, .sl (List.map c22 a)), (1, .sl (List.map c22 b)), (10, .b (decide ¬(↑a.length : Int) = (↑b.length : Int)))], []⟩) cx [(1, { tell := some (.i .i64 ((↑a.length : Int))) }), (3, { tell := some (.i .i64 ((↑b.length : Int))) }), (4, { tell := some (.b (decide ¬(↑a.length : Int) = (↑b.length : Int))) })] [0, 1, 10] [] (by kernel_rfl) (by kernel_rfl) ⟨(told_len c22 a), (told_len c22 b), (told_neq)⟩ ?_
  refine q_seq_normal ?_
  refine st_dec (¬(↑a.length : Int) = (↑b.length : Int)) (by kernel_rfl) (by kernel_rfl) (fun h_0 => ?_) (fun h_0 => ?_)
  ·
    refine st_seq (by kernel_rfl) ?_
    refine st_reg (A := True) (σ' := ⟨[(4, .b (false))], []⟩) cx [] [4] [] (by kernel_rfl) (by kernel_rfl) trivial ?_
    refine q_seq_normal ?_
    refine st_ret (by kernel_rfl) ?_
    refine q_seq_ret ?_
    exact q_ret (r := .b (false)) (obl := []) (by kernel_rfl) trivial (AVle.eq (g0 h_0))
  ·
    refine st_skip (by kernel_rfl) ?_
    refine q_seq_normal ?_
    refine st_seq (by kernel_rfl) ?_
    refine st_seq (by kernel_rfl) ?_
    refine st_reg (A := True) (σ' := ⟨[(0, .sl (List.map c22 a)), (1, .sl (List.map c22 b)), (5, .i .i64 ((0 : Int)))], []⟩) cx [] [0, 1, 5] [] (by kernel_rfl) (by kernel_rfl) trivial ?_
    refine q_seq_normal ?_
    refine st_block 0 (by kernel_rfl) ?_
    refine st_loop (X := Int) (fun x => ⟨[(0, .sl (List.map c22 a)), (1, .sl (List.map c22 b)), (5, .i .i64 (x))], []⟩) (fun x ↦ dec30 a x) (fun x ↦ inv30 a b x) [0, 1, 5] [] ((0 : Int)) (by kernel_rfl) (by kernel_rfl) (g1 h_0) ?_
    intro i_1 h_2
    obtain ⟨h_3, h_4, h_5⟩ : (0 : Int) ≤ i_1 ∧ i_1 ≤ (↑a.length : Int) ∧ ∀ (j : Nat), (↑j : Int) < i_1 → a[j]! = b[j]! := h_2
    refine st_seq (by kernel_rfl) ?_
    refine st_seq (by kernel_rfl) ?_
    refine st_reg (A := (AV.i IntKind.i64 (↑(List.map c22 a).length : Int) = AV.i IntKind.i64 (↑a.length : Int)) ∧ (AV.b (decide (i_1 < (↑a.length : Int))) = AV.b (decide (i_1 < (↑a.length : Int))))) (σ' := ⟨[(0, .sl (List.map c22 a)), (1, .sl (List.map c22 b)), (5, .i .i64 (i_1)), (14, .b (decide (i_1 < (↑a.length : Int))))], []⟩) cx [(2, { tell := some (.i .i64 ((↑a.length : Int))) }), (3, { tell := some (.b (decide (i_1 < (↑a.length : Int)))) })] [0, 1, 5, 14] [] (by kernel_rfl) (by kernel_rfl) ⟨(told_len c22 a), (by kernel_rfl)⟩ ?_
    refine q_seq_normal ?_
    refine st_dec (i_1 < (↑a.length : Int)) (by kernel_rfl) (by kernel_rfl) (fun h_6 => ?_) (fun h_6 => ?_)
    ·
      refine st_skip (by kernel_rfl) ?_
      refine q_seq_normal ?_
      refine st_seq (by kernel_rfl) ?_
      refine st_block 1 (by kernel_rfl) ?_
      refine st_seq (by kernel_rfl) ?_
      refine st_any (A := ((0 : Int) ≤ i_1) ∧ ((List.map c22 a)[i_1.toNat]? = some (c22 a[i_1.toNat]!)) ∧ ((c22 a[i_1.toNat]!).length = (1 : Nat)) ∧ ((0 : Int) ≤ i_1) ∧ ((List.map c22 b)[i_1.toNat]? = some (c22 b[i_1.toNat]!)) ∧ ((c22 b[i_1.toNat]!).length = (1 : Nat)) ∧ (Con Try.prog (20 : FuncId) [AV.sl (List.map c3 a[i_1.toNat]!), AV.sl (List.map c3 b[i_1.toNat]!)] (AV.b (decide (a[i_1.toNat]! = b[i_1.toNat]!)))) ∧ ((AV.b !decide (a[i_1.toNat]! = b[i_1.toNat]!)) = AV.b (decide ¬a[i_1.toNat]! = b[i_1.toNat]!))) (σ' := ⟨[(0, .sl (List.map c22 a)), (1, .sl (List.map c22 b)), (5, .i .i64 (i_1)), (26, .b (decide ¬a[i_1.toNat]! = b[i_1.toNat]!))], []⟩) cx [(2, { row := (c22 a[i_1.toNat]!) }), (6, { row := (c22 b[i_1.toNat]!) }), (8, { val := some (.b (decide (a[i_1.toNat]! = b[i_1.toNat]!))) }), (9, { tell := some (.b (decide ¬a[i_1.toNat]! = b[i_1.toNat]!)) })] [0, 1, 5, 26] [] (by kernel_rfl) (by kernel_rfl) ⟨(by (with_reducible assumption)), (by (with_reducible refine get_map ?_; omega)), (by kernel_rfl), (by (with_reducible assumption)), (by (with_reducible refine get_map ?_; omega)), (by kernel_rfl), (con20 (a[i_1.toNat]!) (b[i_1.toNat]!)), (told_notd)⟩ ?_
      refine q_seq_normal ?_
      refine st_dec (¬a[i_1.toNat]! = b[i_1.toNat]!) (by kernel_rfl) (by kernel_rfl) (fun h_7 => ?_) (fun h_7 => ?_)
      ·
        refine st_seq (by kernel_rfl) ?_
        refine st_reg (A := True) (σ' := ⟨[(4, .b (false))], []⟩) cx [] [4] [] (by kernel_rfl) (by kernel_rfl) trivial ?_
        refine q_seq_normal ?_
        refine st_ret (by kernel_rfl) ?_
        refine q_blk_ret ?_
        refine q_seq_ret ?_
        refine q_seq_ret ?_
        refine q_blk_ret ?_
        refine q_seq_ret ?_
        exact q_ret (r := .b (false)) (obl := []) (by kernel_rfl) trivial (AVle.eq (g2 h_0 i_1 h_3 h_4 h_5 h_6 h_7))
      ·
        refine st_skip (by kernel_rfl) ?_
        refine q_blk_normal ?_
        refine q_seq_normal ?_
        refine st_reg (A := (AV.i IntKind.i64 (IntKind.i64.wrap (i_1 + (1 : Int))) = AV.i IntKind.i64 (i_1 + (1 : Int)))) (σ' := ⟨[(0, .sl (List.map c22 a)), (1, .sl (List.map c22 b)), (5, .i .i64 (i_1 + (1 : Int)))], []⟩) cx [(1, { tell := some (.i .i64 (i_1 + (1 : Int))) })] [0, 1, 5] [] (by kernel_rfl) (by kernel_rfl) (told_i64 (by omega) (by omega)) ?_
        refine q_seq_normal ?_
        exact loop_next (i_1 + (1 : Int)) (by kernel_rfl) (show ((↑a.length : Int) - (i_1 + (1 : Int))).toNat < ((↑a.length : Int) - i_1).toNat from (by omega)) (g3 h_0 i_1 h_3 h_4 h_5 h_6 h_7)
    ·
      refine st_exit 0 (by kernel_rfl) ?_
      refine q_seq_exit ?_
      refine q_seq_exit ?_
      refine q_blk_hit ?_
      refine q_seq_normal ?_
      refine st_seq (by kernel_rfl) ?_
      refine st_reg (A := True) (σ' := ⟨[(4, .b (true))], []⟩) cx [] [4] [] (by kernel_rfl) (by kernel_rfl) trivial ?_
      refine q_seq_normal ?_
      refine st_ret (by kernel_rfl) ?_
      exact q_ret (r := .b (true)) (obl := []) (by kernel_rfl) trivial (AVle.eq (g4 h_0 i_1 h_3 h_4 h_5 h_6))
theorem con30 (a b : List (List Int)) : Con Try.prog 30 [.sl (a.map c22), .sl (b.map c22)] (.b (decide (a = b))) :=
  by
  refine walk30 a b (fun h => ?_) (fun h => ⟨by omega, by omega, fun j hj => by omega⟩) (fun h i h1 h2 h3 h4 h5 => ?_)
    (fun h i h1 h2 h3 h4 h5 => ⟨by omega, by omega, fun j hj => ?_⟩) (fun h i h1 h2 h3 h4 => ?_)
  · congr 1; symm; rw [decide_eq_false_iff_not]; rintro rfl; exact h rfl
  · congr 1; symm; rw [decide_eq_false_iff_not]; rintro rfl; exact h5 rfl
  · by_cases e : j = i.toNat
    · subst e; exact Classical.not_not.1 h5
    · exact h3 j (by omega)
  · congr 1; symm; rw [decide_eq_true_iff]; exact bang_eq (Classical.not_not.1 h) fun j hj => h3 j (by omega)
theorem walk43 (a : List Span) (b : List Span)
    (g0 : ¬(↑a.length : Int) = (↑b.length : Int) → AV.b false = AV.b (decide (a = b)))
    (g1 : ¬¬(↑a.length : Int) = (↑b.length : Int) → inv30 a b (0 : Int))
    (g2 : ¬¬(↑a.length : Int) = (↑b.length : Int) → ∀ (i_1 : Int), (0 : Int) ≤ i_1 → i_1 ≤ (↑a.length : Int) → (∀ (j : Nat), (↑j : Int) < i_1 → a[j]! = b[j]!) → i_1 < (↑a.length : Int) → ¬a[i_1.toNat]! = b[i_1.toNat]! → AV.b false = AV.b (decide (a = b)))
    (g3 : ¬¬(↑a.length : Int) = (↑b.length : Int) → ∀ (i_1 : Int), (0 : Int) ≤ i_1 → i_1 ≤ (↑a.length : Int) → (∀ (j : Nat), (↑j : Int) < i_1 → a[j]! = b[j]!) → i_1 < (↑a.length : Int) → ¬¬a[i_1.toNat]! = b[i_1.toNat]! → inv30 a b (i_1 + (1 : Int)))
    (g4 : ¬¬(↑a.length : Int) = (↑b.length : Int) → ∀ (i_1 : Int), (0 : Int) ≤ i_1 → i_1 ≤ (↑a.length : Int) → (∀ (j : Nat), (↑j : Int) < i_1 → a[j]! = b[j]!) → ¬i_1 < (↑a.length : Int) → AV.b true = AV.b (decide (a = b))) :
    Con Try.prog (43 : FuncId) [AV.sl (List.map c53 a), AV.sl (List.map c53 b)] (AV.b (decide (a = b))) := by
  refine con_lens 0 (c53) (a) (by kernel_rfl) Go.Proofs.Try.func43 (by kernel_rfl) fun hl_0 => ?_
  refine con_lens 1 (c53) (b) (by kernel_rfl) Go.Proofs.Try.func43 (by kernel_rfl) fun hl_1 => ?_
  refine st_con tab_ok (by kernel_rfl) [.tmp 4] 26 Go.Proofs.Try.func43 (by kernel_rfl) (by kernel_rfl) ?_
  intro e0 cx
  refine st_seq (by kernel_rfl) ?_
  refine st_reg (A := True) (σ' := ⟨[(0, .sl (List.map c53 a)), (1, .sl (List.map c53 b))], []⟩) cx [] [0, 1] [] (by kernel_rfl) (by kernel_rfl) trivial ?_
  refine q_seq_normal ?_
  refine st_seq (by kernel_rfl) ?_
  refine st_seq (by kernel_rfl) ?_
  refine st_reg (A := (AV.i IntKind.i64 (↑(List.map c53 a).length : Int) = AV.i IntKind.i64 (↑a.length : Int)) ∧ (AV.i IntKind.i64 (↑(List.map c53 b).length : Int) = AV.i IntKind.i64 (↑b.length : Int)) ∧ (AV.b ((↑a.length : Int) != (↑b.length : Int)) = AV.b (decide ¬(↑a.length : Int) = (↑b.length : Int)))) (σ' := ⟨[(0, .sl (List.map c53 a)), (1, .sl (List.map c53 b)), (10, .b (decide ¬(↑a.length : Int) = (↑b.length : Int)))], []⟩) cx [(1, { tell := some (.i .i64 ((↑a.length : Int))) }), (3, { tell := some (.i .i64 ((↑b.length : Int))) }), (4, { tell := some (.b (decide ¬(↑a.length : Int) = (↑b.length : Int))) })] [0, 1, 10] [] (by kernel_rfl) (by kernel_rfl) ⟨(told_len c53 a), (told_len c53 b), (told_neq)⟩ ?_
  refine q_seq_normal ?_
  refine st_dec (¬(↑a.length : Int) = (↑b.length : Int)) (by kernel_rfl) (by kernel_rfl) (fun h_0 => ?_) (fun h_0 => ?_)
  ·
    refine st_seq (by kernel_rfl) ?_
    refine st_reg (A := True) (σ' := ⟨[(4, .b (false))], []⟩) cx [] [4] [] (by kernel_rfl) (by kernel_rfl) trivial ?_
    refine q_seq_normal ?_
    refine st_ret (by kernel_rfl) ?_
    refine q_seq_ret ?_
    exact q_ret (r := .b (false)) (obl := []) (by kernel_rfl) trivial (AVle.eq (g0 h_0))
  ·
    refine st_skip (by kernel_rfl) ?_
    refine q_seq_normal ?_
    refine st_seq (by kernel_rfl) ?_
    refine st_seq (by kernel_rfl) ?_
    refine st_reg (A := True) (σ' := ⟨[(0, .sl (List.map c53 a)), (1, .sl (List.map c53 b)), (5, .i .i64 ((0 : Int)))], []⟩) cx [] [0, 1, 5] [] (by kernel_rfl) (by kernel_rfl) trivial ?_
    refine q_seq_normal ?_
    refine st_block 0 (by kernel_rfl) ?_
    refine st_loop (X := Int) (fun x => ⟨[(0, .sl (List.map c53 a)), (1, .sl (List.map c53 b)), (5, .i .i64 (x))], []⟩) (fun x ↦ dec30 a x) (fun x ↦ inv30 a b x) [0, 1, 5] [] ((0 : Int)) (by kernel_rfl) (by kernel_rfl) (g1 h_0) ?_
    intro i_1 h_2
    obtain ⟨h_3, h_4, h_5⟩ : (0 : Int) ≤ i_1 ∧ i_1 ≤ (↑a.length : Int) ∧ ∀ (j : Nat), (↑j : Int) < i_1 → a[j]! = b[j]! := h_2
    refine st_seq (by kernel_rfl) ?_
    refine st_seq (by kernel_rfl) ?_
    refine st_reg (A := (AV.i IntKind.i64 (↑(List.map c53 a).length : Int) = AV.i IntKind.i64 (↑a.length : Int)) ∧ (AV.b (decide (i_1 < (↑a.length : Int))) = AV.b (decide (i_1 < (↑a.length : Int))))) (σ' := ⟨[(0, .sl (List.map c53 a)), (1, .sl (List.map c53 b)), (5, .i .i64 (i_1)), (14, .b (decide (i_1 < (↑a.length : Int))))], []⟩) cx [(2, { tell := some (.i .i64 ((↑a.length : Int))) }), (3, { tell := some (.b (decide (i_1 < (↑a.length : Int)))) })] [0, 1, 5, 14] [] (by kernel_rfl) (by kernel_rfl) ⟨(told_len c53 a), (by kernel_rfl)⟩ ?_
    refine q_seq_normal ?_
    refine st_dec (i_1 < (↑a.length : Int)) (by kernel_rfl) (by kernel_rfl) (fun h_6 => ?_) (fun h_6 => ?_)
    ·
      refine st_skip (by kernel_rfl) ?_
      refine q_seq_normal ?_
      refine st_seq (by kernel_rfl) ?_
      refine st_block 1 (by kernel_rfl) ?_
      refine st_seq (by kernel_rfl) ?_
      refine st_any (A := ((0 : Int) ≤ i_1) ∧ ((List.map c53 a)[i_1.toNat]? = some (c53 a[i_1.toNat]!)) ∧ ((c53 a[i_1.toNat]!).length = (3 : Nat)) ∧ ((3 : Nat) ≤ [AV.i IntKind.i64 a[i_1.toNat]!.rep, AV.i IntKind.i64 a[i_1.toNat]!.lo, AV.i IntKind.i64 a[i_1.toNat]!.hi].length) ∧ ((0 : Int) ≤ i_1) ∧ ((List.map c53 b)[i_1.toNat]? = some (c53 b[i_1.toNat]!)) ∧ ((c53 b[i_1.toNat]!).length = (3 : Nat)) ∧ ((3 : Nat) ≤ [AV.i IntKind.i64 b[i_1.toNat]!.rep, AV.i IntKind.i64 b[i_1.toNat]!.lo, AV.i IntKind.i64 b[i_1.toNat]!.hi].length) ∧ (AggEq Try.prog (53 : Nat) [AV.i IntKind.i64 a[i_1.toNat]!.rep, AV.i IntKind.i64 a[i_1.toNat]!.lo, AV.i IntKind.i64 a[i_1.toNat]!.hi] [AV.i IntKind.i64 b[i_1.toNat]!.rep, AV.i IntKind.i64 b[i_1.toNat]!.lo, AV.i IntKind.i64 b[i_1.toNat]!.hi] !decide ¬a[i_1.toNat]! = b[i_1.toNat]!)) (σ' := ⟨[(0, .sl (List.map c53 a)), (1, .sl (List.map c53 b)), (5, .i .i64 (i_1)), (25, .b (decide ¬a[i_1.toNat]! = b[i_1.toNat]!))], []⟩) cx [(2, { row := (c53 a[i_1.toNat]!) }), (6, { row := (c53 b[i_1.toNat]!) }), (8, { val := some (.b (decide ¬a[i_1.toNat]! = b[i_1.toNat]!)) })] [0, 1, 5, 25] [] (by kernel_rfl) (by kernel_rfl) ⟨(by (with_reducible assumption)), (by (with_reducible refine get_map ?_; omega)), (by kernel_rfl), (by (simp only [List.length_append, List.length_cons, List.length_nil]; omega)), (by (with_reducible assumption)), (by (with_reducible refine get_map ?_; omega)), (by kernel_rfl), (by (simp only [List.length_append, List.length_cons, List.length_nil]; omega)), (aggNe_dec (eq53 a[i_1.toNat]! b[i_1.toNat]!))⟩ ?_
      refine q_seq_normal ?_
      refine st_dec (¬a[i_1.toNat]! = b[i_1.toNat]!) (by kernel_rfl) (by kernel_rfl) (fun h_7 => ?_) (fun h_7 => ?_)
      ·
        refine st_seq (by kernel_rfl) ?_
        refine st_reg (A := True) (σ' := ⟨[(4, .b (false))], []⟩) cx [] [4] [] (by kernel_rfl) (by kernel_rfl) trivial ?_
        refine q_seq_normal ?_
        refine st_ret (by kernel_rfl) ?_
        refine q_blk_ret ?_
        refine q_seq_ret ?_
        refine q_seq_ret ?_
        refine q_blk_ret ?_
        refine q_seq_ret ?_
        exact q_ret (r := .b (false)) (obl := []) (by kernel_rfl) trivial (AVle.eq (g2 h_0 i_1 h_3 h_4 h_5 h_6 h_7))
      ·
        refine st_skip (by kernel_rfl) ?_
        refine q_blk_normal ?_
        refine q_seq_normal ?_
        refine st_reg (A := (AV.i IntKind.i64 (IntKind.i64.wrap (i_1 + (1 : Int))) = AV.i IntKind.i64 (i_1 + (1 : Int)))) (σ' := ⟨[(0, .sl (List.map c53 a)), (1, .sl (List.map c53 b)), (5, .i .i64 (i_1 + (1 : Int)))], []⟩) cx [(1, { tell := some (.i .i64 (i_1 + (1 : Int))) })] [0, 1, 5] [] (by kernel_rfl) (by kernel_rfl) (told_i64 (by omega) (by omega)) ?_
        refine q_seq_normal ?_
        exact loop_next (i_1 + (1 : Int)) (by kernel_rfl) (show ((↑a.length : Int) - (i_1 + (1 : Int))).toNat < ((↑a.length : Int) - i_1).toNat from (by omega)) (g3 h_0 i_1 h_3 h_4 h_5 h_6 h_7)
    ·
      refine st_exit 0 (by kernel_rfl) ?_
      refine q_seq_exit ?_
      refine q_seq_exit ?_
      refine q_blk_hit ?_
      refine q_seq_normal ?_
      refine st_seq (by kernel_rfl) ?_
      refine st_reg (A := True) (σ' := ⟨[(4, .b (true))], []⟩) cx [] [4] [] (by kernel_rfl) (by kernel_rfl) trivial ?_
      refine q_seq_normal ?_
      refine st_ret (by kernel_rfl) ?_
      exact q_ret (r := .b (true)) (obl := []) (by kernel_rfl) trivial (AVle.eq (g4 h_0 i_1 h_3 h_4 h_5 h_6))
theorem con43 (a b : List Span) : Con Try.prog 43 [.sl (a.map c53), .sl (b.map c53)] (.b (decide (a = b))) :=
  by
  refine walk43 a b (fun h => ?_) (fun h => ⟨by omega, by omega, fun j hj => by omega⟩) (fun h i h1 h2 h3 h4 h5 => ?_)
    (fun h i h1 h2 h3 h4 h5 => ⟨by omega, by omega, fun j hj => ?_⟩) (fun h i h1 h2 h3 h4 => ?_)
  · congr 1; symm; rw [decide_eq_false_iff_not]; rintro rfl; exact h rfl
  · congr 1; symm; rw [decide_eq_false_iff_not]; rintro rfl; exact h5 rfl
  · by_cases e : j = i.toNat
    · subst e; exact Classical.not_not.1 h5
    · exact h3 j (by omega)
  · congr 1; symm; rw [decide_eq_true_iff]; exact bang_eq (Classical.not_not.1 h) fun j hj => h3 j (by omega)
theorem walk29 (vs : List (List Int)) (hs : sz38 vs)
    (g0 : inv29 vs (0 : Int) [])
    (g1 : ∀ (i_0 : Int) (l_1 : List (List Int)), (0 : Int) ≤ i_0 → i_0 ≤ (↑vs.length : Int) → l_1 = List.take i_0.toNat vs → i_0 < (↑vs.length : Int) → (List.map c3 []).length + (List.map c3 vs[i_0.toNat]!).length ≤ maxLen)
    (g2 : ∀ (i_0 : Int) (l_1 : List (List Int)), (0 : Int) ≤ i_0 → i_0 ≤ (↑vs.length : Int) → l_1 = List.take i_0.toNat vs → i_0 < (↑vs.length : Int) → ((List.map c3 []).length + (List.map c3 vs[i_0.toNat]!).length) * (8 : Nat) ≤ (140737488355328 : Nat))
    (g3 : ∀ (i_0 : Int) (l_1 : List (List Int)), (0 : Int) ≤ i_0 → i_0 ≤ (↑vs.length : Int) → l_1 = List.take i_0.toNat vs → i_0 < (↑vs.length : Int) → (List.map c22 l_1).length + (List.map c22 [[] ++ vs[i_0.toNat]!]).length ≤ maxLen)
    (g4 : ∀ (i_0 : Int) (l_1 : List (List Int)), (0 : Int) ≤ i_0 → i_0 ≤ (↑vs.length : Int) → l_1 = List.take i_0.toNat vs → i_0 < (↑vs.length : Int) → ((List.map c22 l_1).length + (List.map c22 [[] ++ vs[i_0.toNat]!]).length) * (24 : Nat) ≤ (140737488355328 : Nat))
    (g5 : ∀ (i_0 : Int) (l_1 : List (List Int)), (0 : Int) ≤ i_0 → i_0 ≤ (↑vs.length : Int) → l_1 = List.take i_0.toNat vs → i_0 < (↑vs.length : Int) → inv29 vs (i_0 + (1 : Int)) (l_1 ++ [[] ++ vs[i_0.toNat]!]))
    (g6 : ∀ (i_0 : Int) (l_1 : List (List Int)), (0 : Int) ≤ i_0 → i_0 ≤ (↑vs.length : Int) → l_1 = List.take i_0.toNat vs → ¬i_0 < (↑vs.length : Int) → AV.sl (List.map c22 l_1) = AV.sl (List.map c22 vs)) :
    Con Try.prog (29 : FuncId) [AV.sl (List.map c22 vs)] (AV.sl (List.map c22 vs)) := by
  refine con_lens 0 (c22) (vs) (by kernel_rfl) Go.Proofs.Try.func29 (by kernel_rfl) fun hl_0 => ?_
  refine st_con tab_ok (by kernel_rfl) [.tmp 2] 21 Go.Proofs.Try.func29 (by kernel_rfl) (by kernel_rfl) ?_
  intro e0 cx
  refine st_seq (by kernel_rfl) ?_
  refine st_reg (A := True) (σ' := ⟨[(0, .sl (List.map c22 vs))], []⟩) cx [] [0] [] (by kernel_rfl) (by kernel_rfl) trivial ?_
  refine q_seq_normal ?_
  refine st_seq (by kernel_rfl) ?_
  refine st_reg (A := True) (σ' := ⟨[(0, .sl (List.map c22 vs)), (3, .nl)], []⟩) cx [] [0, 3] [] (by kernel_rfl) (by kernel_rfl) trivial ?_
  refine q_seq_normal ?_
  refine st_seq (by kernel_rfl) ?_
  refine st_seq (by kernel_rfl) ?_
  refine st_reg (A := True) (σ' := ⟨[(0, .sl (List.map c22 vs)), (3, .nl), (4, .i .i64 ((0 : Int)))], []⟩) cx [] [0, 3, 4] [] (by kernel_rfl) (by kernel_rfl) trivial ?_
  refine q_seq_normal ?_
  refine st_block 0 (by kernel_rfl) ?_
  refine awp_adopt 3 1003 22 1 (σ' := ⟨[(0, .sl (List.map c22 vs)), (3, .own 1003 0), (4, .i .i64 ((0 : Int)))], [(1003, ⟨0, 22, .row 1 (List.map c22 [])⟩)]⟩) (by kernel_rfl) ?_
  refine st_loop (X := Int × List (List Int)) (fun x => ⟨[(0, .sl (List.map c22 vs)), (3, .own 1003 0), (4, .i .i64 (x.fst))], [(1003, ⟨0, 22, .row 1 (List.map c22 x.snd)⟩)]⟩) (fun x ↦ dec29 vs x.fst x.snd) (fun x ↦ inv29 vs x.fst x.snd) [0, 3, 4] [1003] (((0 : Int), [])) (by kernel_rfl) (by kernel_rfl) g0 ?_
  rintro ⟨i_0, l_1⟩ h_2
  obtain ⟨h_3, h_4, h_5⟩ : (0 : Int) ≤ i_0 ∧ i_0 ≤ (↑vs.length : Int) ∧ l_1 = List.take i_0.toNat vs := h_2
  refine st_seq (by kernel_rfl) ?_
  refine st_seq (by kernel_rfl) ?_
  refine st_reg (A := (AV.i IntKind.i64 (↑(List.map c22 vs).length : Int) = AV.i IntKind.i64 (↑vs.length : Int)) ∧ (AV.b (decide (i_0 < (↑vs.length : Int))) = AV.b (decide (i_0 < (↑vs.length : Int))))) (σ' := ⟨[(0, .sl (List.map c22 vs)), (3, .own 1003 0), (4, .i .i64 (i_0)), (8, .b (decide (i_0 < (↑vs.length : Int))))], [(1003, ⟨0, 22, .row 1 (List.map c22 l_1)⟩)]⟩) cx [(2, { tell := some (.i .i64 ((↑vs.length : Int))) }), (3, { tell := some (.b (decide (i_0 < (↑vs.length : Int)))) })] [0, 3, 4, 8] [1003] (by kernel_rfl) (by kernel_rfl) ⟨(told_len c22 vs), (by kernel_rfl)⟩ ?_
  refine q_seq_normal ?_
  refine st_dec (i_0 < (↑vs.length : Int)) (by kernel_rfl) (by kernel_rfl) (fun h_6 => ?_) (fun h_6 => ?_)
  ·
    refine st_skip (by kernel_rfl) ?_
    refine q_seq_normal ?_
    refine st_seq (by kernel_rfl) ?_
    refine st_block 1 (by kernel_rfl) ?_
    refine st_reg (A := ((0 : Int) ≤ i_0) ∧ ((List.map c22 vs)[i_0.toNat]? = some (c22 vs[i_0.toNat]!)) ∧ ((c22 vs[i_0.toNat]!).length = (1 : Nat)) ∧ (3 = (3 : Nat)) ∧ ((1 : Nat) = 1) ∧ ([AV.i IntKind.i64 (0 : Int)].length = (1 : Nat)) ∧ (∀ (r : List AV), r ∈ List.map c3 vs[i_0.toNat]! → r.length = 1) ∧ ((List.map c3 []).length + (List.map c3 vs[i_0.toNat]!).length ≤ maxLen) ∧ (((List.map c3 []).length + (List.map c3 vs[i_0.toNat]!).length) * (8 : Nat) ≤ (140737488355328 : Nat)) ∧ (List.map c3 [] ++ List.map c3 vs[i_0.toNat]! = List.map c3 ([] ++ vs[i_0.toNat]!)) ∧ (22 = (22 : Nat)) ∧ ((1 : Nat) = 1) ∧ ([AV.nl].length = (1 : Nat)) ∧ (∀ (r : List AV), r ∈ List.map c22 [[] ++ vs[i_0.toNat]!] → r.length = 1) ∧ ((List.map c22 l_1).length + (List.map c22 [[] ++ vs[i_0.toNat]!]).length ≤ maxLen) ∧ (((List.map c22 l_1).length + (List.map c22 [[] ++ vs[i_0.toNat]!]).length) * (24 : Nat) ≤ (140737488355328 : Nat)) ∧ (List.map c22 l_1 ++ List.map c22 [[] ++ vs[i_0.toNat]!] = List.map c22 (l_1 ++ [[] ++ vs[i_0.toNat]!]))) (σ' := ⟨[(0, .sl (List.map c22 vs)), (3, .own 1003 0), (4, .i .i64 (i_0))], [(1003, ⟨0, 22, .row 1 (List.map c22 (l_1 ++ [[] ++ vs[i_0.toNat]!]))⟩)]⟩) cx [(4, { row := (c22 vs[i_0.toNat]!) }), (6, { rows := some (List.map c3 ([] ++ vs[i_0.toNat]!)) }), (8, { rows := some (List.map c22 (l_1 ++ [[] ++ vs[i_0.toNat]!])) })] [0, 3, 4] [1003] (by kernel_rfl) (by kernel_rfl) ⟨(by (with_reducible assumption)), (by (with_reducible refine get_map ?_; omega)), (by kernel_rfl), (by kernel_rfl), (by kernel_rfl), (by kernel_rfl), (by (with_reducible refine len_map (fun _ => ?_) _; kernel_rfl)), (g1 i_0 l_1 h_3 h_4 h_5 h_6), (g2 i_0 l_1 h_3 h_4 h_5 h_6), (by (with_reducible refine app_map ?_; kernel_rfl)), (by kernel_rfl), (by kernel_rfl), (by kernel_rfl), (by (with_reducible refine len_map (fun _ => ?_) _; kernel_rfl)), (g3 i_0 l_1 h_3 h_4 h_5 h_6), (g4 i_0 l_1 h_3 h_4 h_5 h_6), (by (with_reducible refine app_map ?_; kernel_rfl))⟩ ?_
    refine q_blk_normal ?_
    refine q_seq_normal ?_
    refine st_reg (A := (AV.i IntKind.i64 (IntKind.i64.wrap (i_0 + (1 : Int))) = AV.i IntKind.i64 (i_0 + (1 : Int)))) (σ' := ⟨[(0, .sl (List.map c22 vs)), (3, .own 1003 0), (4, .i .i64 (i_0 + (1 : Int)))], [(1003, ⟨0, 22, .row 1 (List.map c22 (l_1 ++ [[] ++ vs[i_0.toNat]!]))⟩)]⟩) cx [(1, { tell := some (.i .i64 (i_0 + (1 : Int))) })] [0, 3, 4] [1003] (by kernel_rfl) (by kernel_rfl) (told_i64 (by omega) (by omega)) ?_
    refine q_seq_normal ?_
    exact loop_next ((i_0 + (1 : Int), l_1 ++ [[] ++ vs[i_0.toNat]!])) (by kernel_rfl) (show ((↑vs.length : Int) - (i_0 + (1 : Int))).toNat < ((↑vs.length : Int) - i_0).toNat from (by omega)) (g5 i_0 l_1 h_3 h_4 h_5 h_6)
  ·
    refine st_exit 0 (by kernel_rfl) ?_
    refine q_seq_exit ?_
    refine q_seq_exit ?_
    refine q_blk_hit ?_
    refine q_seq_normal ?_
    refine st_seq (by kernel_rfl) ?_
    refine st_reg (A := True) (σ' := ⟨[(2, .own 1003 0)], [(1003, ⟨0, 22, .row 1 (List.map c22 l_1)⟩)]⟩) cx [] [2] [1003] (by kernel_rfl) (by kernel_rfl) trivial ?_
    refine q_seq_normal ?_
    refine st_ret (by kernel_rfl) ?_
    exact q_ret (r := .sl (List.map c22 l_1)) (obl := []) (by kernel_rfl) trivial (AVle.eq (g6 i_0 l_1 h_3 h_4 h_5 h_6))
theorem con29 (vs : List (List Int)) (hs : sz38 vs) : Con Try.prog 29 [.sl (vs.map c22)] (.sl (vs.map c22)) :=
  by
  have hm : ∀ i : Int, 0 ≤ i → i < vs.length → (vs[i.toNat]!).length * 8 ≤ 140737488351232 := fun i h0 h1 => hs.2 _ (bang_mem (by omega))
  have h1 := hs.1
  have hM : maxLen = 9223372036854775807 := rfl
  refine walk29 vs hs ⟨by decide, by omega, rfl⟩ (fun i l k0 k1 k2 k3 => ?_) (fun i l k0 k1 k2 k3 => ?_) (fun i l k0 k1 k2 k3 => ?_) (fun i l k0 k1 k2 k3 => ?_) (fun i l k0 k1 k2 k3 => ⟨by omega, by omega, ?_⟩) (fun i l k0 k1 k2 k3 => ?_)
  · have := hm i k0 k3; simp only [List.length_map, List.length_nil]; omega
  · have := hm i k0 k3; simp only [List.length_map, List.length_nil]; omega
  · simp only [List.length_map, k2, List.length_take, List.length_cons, List.length_nil]; omega
  · simp only [List.length_map, k2, List.length_take, List.length_cons, List.length_nil]; omega
  · rw [k2, List.nil_append, take_step k0 k3]
  · rw [k2, List.take_of_length_le (by omega)]
theorem walk56 (a : Vector Int (16 : Nat)) (b : Vector Int (16 : Nat))
    (g0 : a = b → AV.i IntKind.i64 (0 : Int) = AV.i IntKind.i64 (ordV a b))
    (g1 : ¬a = b → mergeV a b = b → AV.i IntKind.i64 (1 : Int) = AV.i IntKind.i64 (ordV a b))
    (g2 : ¬a = b → ¬mergeV a b = b → mergeV a b = a → AV.i IntKind.i64 (2 : Int) = AV.i IntKind.i64 (ordV a b))
    (g3 : ¬a = b → ¬mergeV a b = b → ¬mergeV a b = a → AV.i IntKind.i64 (3 : Int) = AV.i IntKind.i64 (ordV a b)) :
    Con Try.prog (56 : FuncId) [AV.agg (c62 a), AV.agg (c62 b)] (AV.i IntKind.i64 (ordV a b)) := by
  refine st_con tab_ok (by kernel_rfl) [.tmp 4] 21 Go.Proofs.Try.func56 (by kernel_rfl) (by kernel_rfl) ?_
  intro e0 cx
  refine st_seq (by kernel_rfl) ?_
  refine st_reg (A := True) (σ' := ⟨[(2, .ptr (2) (0) (0) (0)), (3, .ptr (3) (0) (0) (0))], [(2, ⟨0, 62, .arr (cA (AV.i IntKind.i64) a)⟩), (3, ⟨0, 62, .arr (cA (AV.i IntKind.i64) b)⟩)]⟩) cx [] [2, 3] [2, 3] (by kernel_rfl) (by kernel_rfl) trivial ?_
  refine q_seq_normal ?_
  refine st_seq (by kernel_rfl) ?_
  refine st_reg (A := ((cA (AV.i IntKind.i64) a).length = (16 : Nat)) ∧ ((cA (AV.i IntKind.i64) b).length = (16 : Nat)) ∧ (Con Try.prog (54 : FuncId) [AV.agg (c62 a), AV.agg (c62 b)] (AV.agg (c62 (mergeV a b)))) ∧ ((cA (AV.i IntKind.i64) (mergeV a b)).length = (cA (AV.i IntKind.i64) (Vector.replicate (16 : Nat) (0 : Int))).length) ∧ ((cA (AV.i IntKind.i64) (mergeV a b)).length = (16 : Nat))) (σ' := ⟨[(2, .ptr (2) (0) (0) (0)), (3, .ptr (3) (0) (0) (0)), (5, .ptr (5) (0) (0) (0))], [(2, ⟨0, 62, .arr (cA (AV.i IntKind.i64) a)⟩), (3, ⟨0, 62, .arr (cA (AV.i IntKind.i64) b)⟩), (5, ⟨0, 62, .arr (cA (AV.i IntKind.i64) (mergeV a b))⟩)]⟩) cx [(2, { val := some (.agg (cA (AV.i IntKind.i64) (mergeV a b))) })] [2, 3, 5] [2, 3, 5] (by kernel_rfl) (by kernel_rfl) ⟨(by (simp only [len_cA]; done)), (by (simp only [len_cA]; done)), (con54 (a) (b)), (by kernel_rfl), (by kernel_rfl)⟩ ?_
  refine q_seq_normal ?_
  refine st_seq (by kernel_rfl) ?_
  refine st_block 0 (by kernel_rfl) ?_
  refine st_seq (by kernel_rfl) ?_
  refine st_reg (A := ((cA (AV.i IntKind.i64) a).length = (16 : Nat)) ∧ ((cA (AV.i IntKind.i64) b).length = (16 : Nat)) ∧ (AggEq Try.prog (62 : Nat) (cA (AV.i IntKind.i64) a) (cA (AV.i IntKind.i64) b) (decide (a = b)))) (σ' := ⟨[(2, .ptr (2) (0) (0) (0)), (3, .ptr (3) (0) (0) (0)), (5, .ptr (5) (0) (0) (0)), (9, .b (decide (a = b)))], [(2, ⟨0, 62, .arr (cA (AV.i IntKind.i64) a)⟩), (3, ⟨0, 62, .arr (cA (AV.i IntKind.i64) b)⟩), (5, ⟨0, 62, .arr (cA (AV.i IntKind.i64) (mergeV a b))⟩)]⟩) cx [(2, { val := some (.b (decide (a = b))) })] [2, 3, 5, 9] [2, 3, 5] (by kernel_rfl) (by kernel_rfl) ⟨(by (simp only [len_cA]; done)), (by (simp only [len_cA]; done)), (eq62 a b)⟩ ?_
  refine q_seq_normal ?_
  refine st_dec (a = b) (by kernel_rfl) (by kernel_rfl) (fun h_0 => ?_) (fun h_0 => ?_)
  ·
    refine st_seq (by kernel_rfl) ?_
    refine st_reg (A := True) (σ' := ⟨[(4, .i .i64 ((0 : Int)))], []⟩) cx [] [4] [] (by kernel_rfl) (by kernel_rfl) trivial ?_
    refine q_seq_normal ?_
    refine st_ret (by kernel_rfl) ?_
    refine q_blk_ret ?_
    refine q_seq_ret ?_
    exact q_ret (r := .i .i64 ((0 : Int))) (obl := []) (by kernel_rfl) trivial (AVle.eq (g0 h_0))
  ·
    refine st_seq (by kernel_rfl) ?_
    refine st_reg (A := ((cA (AV.i IntKind.i64) (mergeV a b)).length = (16 : Nat)) ∧ ((cA (AV.i IntKind.i64) b).length = (16 : Nat)) ∧ (AggEq Try.prog (62 : Nat) (cA (AV.i IntKind.i64) (mergeV a b)) (cA (AV.i IntKind.i64) b) (decide (mergeV a b = b)))) (σ' := ⟨[(2, .ptr (2) (0) (0) (0)), (5, .ptr (5) (0) (0) (0)), (13, .b (decide (mergeV a b = b)))], [(2, ⟨0, 62, .arr (cA (AV.i IntKind.i64) a)⟩), (5, ⟨0, 62, .arr (cA (AV.i IntKind.i64) (mergeV a b))⟩)]⟩) cx [(2, { val := some (.b (decide (mergeV a b = b))) })] [2, 5, 13] [2, 5] (by kernel_rfl) (by kernel_rfl) ⟨(by kernel_rfl), (by (simp only [len_cA]; done)), (eq62 (mergeV a b) b)⟩ ?_
    refine q_seq_normal ?_
    refine st_dec (mergeV a b = b) (by kernel_rfl) (by kernel_rfl) (fun h_1 => ?_) (fun h_1 => ?_)
    ·
      refine st_seq (by kernel_rfl) ?_
      refine st_reg (A := True) (σ' := ⟨[(4, .i .i64 ((1 : Int)))], []⟩) cx [] [4] [] (by kernel_rfl) (by kernel_rfl) trivial ?_
      refine q_seq_normal ?_
      refine st_ret (by kernel_rfl) ?_
      refine q_blk_ret ?_
      refine q_seq_ret ?_
      exact q_ret (r := .i .i64 ((1 : Int))) (obl := []) (by kernel_rfl) trivial (AVle.eq (g1 h_0 h_1))
    ·
      refine st_seq (by kernel_rfl) ?_
      refine st_reg (A := ((cA (AV.i IntKind.i64) (mergeV a b)).length = (16 : Nat)) ∧ ((cA (AV.i IntKind.i64) a).length = (16 : Nat)) ∧ (AggEq Try.prog (62 : Nat) (cA (AV.i IntKind.i64) (mergeV a b)) (cA (AV.i IntKind.i64) a) (decide (mergeV a b = a)))) (σ' := ⟨[(17, .b (decide (mergeV a b = a)))], []⟩) cx [(2, { val := some (.b (decide (mergeV a b = a))) })] [17] [] (by kernel_rfl) (by kernel_rfl) ⟨(by kernel_rfl), (by (simp only [len_cA]; done)), (eq62 (mergeV a b) a)⟩ ?_
      refine q_seq_normal ?_
      refine st_dec (mergeV a b = a) (by kernel_rfl) (by kernel_rfl) (fun h_2 => ?_) (fun h_2 => ?_)
      ·
        refine st_seq (by kernel_rfl) ?_
        refine st_reg (A := True) (σ' := ⟨[(4, .i .i64 ((2 : Int)))], []⟩) cx [] [4] [] (by kernel_rfl) (by kernel_rfl) trivial ?_
        refine q_seq_normal ?_
        refine st_ret (by kernel_rfl) ?_
        refine q_blk_ret ?_
        refine q_seq_ret ?_
        exact q_ret (r := .i .i64 ((2 : Int))) (obl := []) (by kernel_rfl) trivial (AVle.eq (g2 h_0 h_1 h_2))
      ·
        refine st_skip (by kernel_rfl) ?_
        refine q_blk_normal ?_
        refine q_seq_normal ?_
        refine st_seq (by kernel_rfl) ?_
        refine st_reg (A := True) (σ' := ⟨[(4, .i .i64 ((3 : Int)))], []⟩) cx [] [4] [] (by kernel_rfl) (by kernel_rfl) trivial ?_
        refine q_seq_normal ?_
        refine st_ret (by kernel_rfl) ?_
        exact q_ret (r := .i .i64 ((3 : Int))) (obl := []) (by kernel_rfl) trivial (AVle.eq (g3 h_0 h_1 h_2))
theorem con56 (a b : Vector Int 16) : Con Try.prog 56 [.agg (c62 a), .agg (c62 b)] (.i .i64 (ordV a b)) :=
  walk56 a b (fun h => by rw [ordV, if_pos h]) (fun h h1 => by rw [ordV, if_neg h, if_pos h1]) (fun h h1 h2 => by rw [ordV, if_neg h, if_neg h1, if_pos h2]) (fun h h1 h2 => by rw [ordV, if_neg h, if_neg h1, if_neg h2])
theorem walk37 (a : List Int) (b : List Int) :
    Con Try.prog (37 : FuncId) [AV.sl (List.map c3 a), AV.sl (List.map c3 b)] (AV.i IntKind.i64 (ordV (of a) (of b))) := by
  refine con_lens 0 (c3) (a) (by kernel_rfl) Go.Proofs.Try.func37 (by kernel_rfl) fun hl_0 => ?_
  refine con_lens 1 (c3) (b) (by kernel_rfl) Go.Proofs.Try.func37 (by kernel_rfl) fun hl_1 => ?_
  refine st_con tab_ok (by kernel_rfl) [.tmp 4] 10 Go.Proofs.Try.func37 (by kernel_rfl) (by kernel_rfl) ?_
  intro e0 cx
  refine st_seq (by kernel_rfl) ?_
  refine st_reg (A := True) (σ' := ⟨[(0, .sl (List.map c3 a)), (1, .sl (List.map c3 b))], []⟩) cx [] [0, 1] [] (by kernel_rfl) (by kernel_rfl) trivial ?_
  refine q_seq_normal ?_
  refine st_seq (by kernel_rfl) ?_
  refine st_reg (A := (Con Try.prog (49 : FuncId) [AV.sl (List.map c3 a)] (AV.agg (c62 (of a)))) ∧ (Con Try.prog (49 : FuncId) [AV.sl (List.map c3 b)] (AV.agg (c62 (of b)))) ∧ (Con Try.prog (56 : FuncId) [AV.agg (c62 (of a)), AV.agg (c62 (of b))] (AV.i IntKind.i64 (ordV (of a) (of b))))) (σ' := ⟨[(4, .i .i64 (ordV (of a) (of b)))], []⟩) cx [(1, { val := some (.agg (cA (AV.i IntKind.i64) (of a))) }), (3, { val := some (.agg (cA (AV.i IntKind.i64) (of b))) }), (4, { val := some (.i .i64 (ordV (of a) (of b))) })] [4] [] (by kernel_rfl) (by kernel_rfl) ⟨(con49 (a)), (con49 (b)), (con56 (of a) (of b))⟩ ?_
  refine q_seq_normal ?_
  refine st_ret (by kernel_rfl) ?_
  exact q_ret (r := .i .i64 (ordV (of a) (of b))) (obl := []) (by kernel_rfl) trivial (AVle.refl _)
theorem con37 (a b : List Int) : Con Try.prog 37 [.sl (a.map c3), .sl (b.map c3)] (.i .i64 (ordV (of a) (of b))) :=
  walk37 a b
theorem walk40 (a : List Int) (b : List Int)
    (g0 : inv40 (of a) (of b) (0 : Int) (0 : Int) (0 : Int) (of a) (of b))
    (g1 : ∀ (more_0 less_1 r_2 : Int) (f_3 g_4 : Vector Int (16 : Nat)), (0 : Int) ≤ r_2 → r_2 ≤ (16 : Int) → f_3 = of a → g_4 = of b → (0 : Int) ≤ more_0 → more_0 ≤ r_2 → (0 : Int) ≤ less_1 → less_1 ≤ r_2 → (more_0 = (0 : Int) ↔ ∀ (j : Nat), (↑j : Int) < r_2 → (of a)[j]! ≤ (of b)[j]!) → (less_1 = (0 : Int) ↔ ∀ (j : Nat), (↑j : Int) < r_2 → (of b)[j]! ≤ (of a)[j]!) → r_2 < (16 : Int) → g_4[r_2.toNat]! < f_3[r_2.toNat]! → ¬f_3[r_2.toNat]! < g_4[r_2.toNat]! → inv40 (of a) (of b) (more_0 + (1 : Int)) less_1 (r_2 + (1 : Int)) f_3 g_4)
    (g2 : ∀ (more_0 less_1 r_2 : Int) (f_3 g_4 : Vector Int (16 : Nat)), (0 : Int) ≤ r_2 → r_2 ≤ (16 : Int) → f_3 = of a → g_4 = of b → (0 : Int) ≤ more_0 → more_0 ≤ r_2 → (0 : Int) ≤ less_1 → less_1 ≤ r_2 → (more_0 = (0 : Int) ↔ ∀ (j : Nat), (↑j : Int) < r_2 → (of a)[j]! ≤ (of b)[j]!) → (less_1 = (0 : Int) ↔ ∀ (j : Nat), (↑j : Int) < r_2 → (of b)[j]! ≤ (of a)[j]!) → r_2 < (16 : Int) → ¬g_4[r_2.toNat]! < f_3[r_2.toNat]! → f_3[r_2.toNat]! < g_4[r_2.toNat]! → inv40 (of a) (of b) more_0 (less_1 + (1 : Int)) (r_2 + (1 : Int)) f_3 g_4)
    (g3 : ∀ (more_0 less_1 r_2 : Int) (f_3 g_4 : Vector Int (16 : Nat)), (0 : Int) ≤ r_2 → r_2 ≤ (16 : Int) → f_3 = of a → g_4 = of b → (0 : Int) ≤ more_0 → more_0 ≤ r_2 → (0 : Int) ≤ less_1 → less_1 ≤ r_2 → (more_0 = (0 : Int) ↔ ∀ (j : Nat), (↑j : Int) < r_2 → (of a)[j]! ≤ (of b)[j]!) → (less_1 = (0 : Int) ↔ ∀ (j : Nat), (↑j : Int) < r_2 → (of b)[j]! ≤ (of a)[j]!) → r_2 < (16 : Int) → ¬g_4[r_2.toNat]! < f_3[r_2.toNat]! → ¬f_3[r_2.toNat]! < g_4[r_2.toNat]! → inv40 (of a) (of b) more_0 less_1 (r_2 + (1 : Int)) f_3 g_4)
    (g4 : ∀ (more_0 less_1 r_2 : Int) (f_3 g_4 : Vector Int (16 : Nat)), (0 : Int) ≤ r_2 → r_2 ≤ (16 : Int) → f_3 = of a → g_4 = of b → (0 : Int) ≤ more_0 → more_0 ≤ r_2 → (0 : Int) ≤ less_1 → less_1 ≤ r_2 → (more_0 = (0 : Int) ↔ ∀ (j : Nat), (↑j : Int) < r_2 → (of a)[j]! ≤ (of b)[j]!) → (less_1 = (0 : Int) ↔ ∀ (j : Nat), (↑j : Int) < r_2 → (of b)[j]! ≤ (of a)[j]!) → ¬r_2 < (16 : Int) → more_0 = (0 : Int) ∧ less_1 = (0 : Int) → AV.i IntKind.i64 (0 : Int) = AV.i IntKind.i64 (ordV (of a) (of b)))
    (g5 : ∀ (more_0 less_1 r_2 : Int) (f_3 g_4 : Vector Int (16 : Nat)), (0 : Int) ≤ r_2 → r_2 ≤ (16 : Int) → f_3 = of a → g_4 = of b → (0 : Int) ≤ more_0 → more_0 ≤ r_2 → (0 : Int) ≤ less_1 → less_1 ≤ r_2 → (more_0 = (0 : Int) ↔ ∀ (j : Nat), (↑j : Int) < r_2 → (of a)[j]! ≤ (of b)[j]!) → (less_1 = (0 : Int) ↔ ∀ (j : Nat), (↑j : Int) < r_2 → (of b)[j]! ≤ (of a)[j]!) → ¬r_2 < (16 : Int) → ¬(more_0 = (0 : Int) ∧ less_1 = (0 : Int)) → more_0 = (0 : Int) → AV.i IntKind.i64 (1 : Int) = AV.i IntKind.i64 (ordV (of a) (of b)))
    (g6 : ∀ (more_0 less_1 r_2 : Int) (f_3 g_4 : Vector Int (16 : Nat)), (0 : Int) ≤ r_2 → r_2 ≤ (16 : Int) → f_3 = of a → g_4 = of b → (0 : Int) ≤ more_0 → more_0 ≤ r_2 → (0 : Int) ≤ less_1 → less_1 ≤ r_2 → (more_0 = (0 : Int) ↔ ∀ (j : Nat), (↑j : Int) < r_2 → (of a)[j]! ≤ (of b)[j]!) → (less_1 = (0 : Int) ↔ ∀ (j : Nat), (↑j : Int) < r_2 → (of b)[j]! ≤ (of a)[j]!) → ¬r_2 < (16 : Int) → ¬(more_0 = (0 : Int) ∧ less_1 = (0 : Int)) → ¬more_0 = (0 : Int) → less_1 = (0 : Int) → AV.i IntKind.i64 (2 : Int) = AV.i IntKind.i64 (ordV (of a) (of b)))
    (g7 : ∀ (more_0 less_1 r_2 : Int) (f_3 g_4 : Vector Int (16 : Nat)), (0 : Int) ≤ r_2 → r_2 ≤ (16 : Int) → f_3 = of a → g_4 = of b → (0 : Int) ≤ more_0 → more_0 ≤ r_2 → (0 : Int) ≤ less_1 → less_1 ≤ r_2 → (more_0 = (0 : Int) ↔ ∀ (j : Nat), (↑j : Int) < r_2 → (of a)[j]! ≤ (of b)[j]!) → (less_1 = (0 : Int) ↔ ∀ (j : Nat), (↑j : Int) < r_2 → (of b)[j]! ≤ (of a)[j]!) → ¬r_2 < (16 : Int) → ¬(more_0 = (0 : Int) ∧ less_1 = (0 : Int)) → ¬more_0 = (0 : Int) → ¬less_1 = (0 : Int) → AV.i IntKind.i64 (3 : Int) = AV.i IntKind.i64 (ordV (of a) (of b))) :
    Con Try.prog (40 : FuncId) [AV.sl (List.map c3 a), AV.sl (List.map c3 b)] (AV.i IntKind.i64 (ordV (of a) (of b))) := by
  refine con_lens 0 (c3) (a) (by kernel_rfl) Go.Proofs.Try.func40 (by kernel_rfl) fun hl_0 => ?_
  refine con_lens 1 (c3) (b) (by kernel_rfl) Go.Proofs.Try.func40 (by kernel_rfl) fun hl_1 => ?_
  refine st_con tab_ok (by kernel_rfl) [.tmp 4] 49 Go.Proofs.Try.func40 (by kernel_rfl) (by kernel_rfl) ?_
  intro e0 cx
  refine st_seq (by kernel_rfl) ?_
  refine st_reg (A := True) (σ' := ⟨[(0, .sl (List.map c3 a)), (1, .sl (List.map c3 b))], []⟩) cx [] [0, 1] [] (by kernel_rfl) (by kernel_rfl) trivial ?_
  refine q_seq_normal ?_
  refine st_seq (by kernel_rfl) ?_
  refine st_reg (A := (Con Try.prog (50 : FuncId) [AV.sl (List.map c3 a)] (AV.agg (c61 (of a)))) ∧ ((cA (AV.i IntKind.i64) (of a)).length = (cA (AV.i IntKind.i64) (Vector.replicate (16 : Nat) (0 : Int))).length) ∧ ((cA (AV.i IntKind.i64) (of a)).length = (16 : Nat))) (σ' := ⟨[(1, .sl (List.map c3 b)), (5, .ptr (5) (0) (0) (0))], [(5, ⟨0, 61, .arr (cA (AV.i IntKind.i64) (of a))⟩)]⟩) cx [(1, { val := some (.agg (cA (AV.i IntKind.i64) (of a))) })] [1, 5] [5] (by kernel_rfl) (by kernel_rfl) ⟨(con50 (a)), (by kernel_rfl), (by kernel_rfl)⟩ ?_
  refine q_seq_normal ?_
  refine st_seq (by kernel_rfl) ?_
  refine st_reg (A := (Con Try.prog (50 : FuncId) [AV.sl (List.map c3 b)] (AV.agg (c61 (of b)))) ∧ ((cA (AV.i IntKind.i64) (of b)).length = (cA (AV.i IntKind.i64) (Vector.replicate (16 : Nat) (0 : Int))).length) ∧ ((cA (AV.i IntKind.i64) (of b)).length = (16 : Nat))) (σ' := ⟨[(5, .ptr (5) (0) (0) (0)), (6, .ptr (6) (0) (0) (0))], [(5, ⟨0, 61, .arr (cA (AV.i IntKind.i64) (of a))⟩), (6, ⟨0, 61, .arr (cA (AV.i IntKind.i64) (of b))⟩)]⟩) cx [(1, { val := some (.agg (cA (AV.i IntKind.i64) (of b))) })] [5, 6] [5, 6] (by kernel_rfl) (by kernel_rfl) ⟨(con50 (b)), (by kernel_rfl), (by kernel_rfl)⟩ ?_
  refine q_seq_normal ?_
  refine st_seq (by kernel_rfl) ?_
  refine st_reg (A := True) (σ' := ⟨[(5, .ptr (5) (0) (0) (0)), (6, .ptr (6) (0) (0) (0)), (7, .i .i64 ((0 : Int)))], [(5, ⟨0, 61, .arr (cA (AV.i IntKind.i64) (of a))⟩), (6, ⟨0, 61, .arr (cA (AV.i IntKind.i64) (of b))⟩)]⟩) cx [] [5, 6, 7] [5, 6] (by kernel_rfl) (by kernel_rfl) trivial ?_
  refine q_seq_normal ?_
  refine st_seq (by kernel_rfl) ?_
  refine st_reg (A := True) (σ' := ⟨[(5, .ptr (5) (0) (0) (0)), (6, .ptr (6) (0) (0) (0)), (7, .i .i64 ((0 : Int))), (8, .i .i64 ((0 : Int)))], [(5, ⟨0, 61, .arr (cA (AV.i IntKind.i64) (of a))⟩), (6, ⟨0, 61, .arr (cA (AV.i IntKind.i64) (of b))⟩)]⟩) cx [] [5, 6, 7, 8] [5, 6] (by kernel_rfl) (by kernel_rfl) trivial ?_
  refine q_seq_normal ?_
  refine st_seq (by kernel_rfl) ?_
  refine st_seq (by kernel_rfl) ?_
  refine st_reg (A := True) (σ' := ⟨[(5, .ptr (5) (0) (0) (0)), (6, .ptr (6) (0) (0) (0)), (7, .i .i64 ((0 : Int))), (8, .i .i64 ((0 : Int))), (9, .i .i64 ((0 : Int)))], [(5, ⟨0, 61, .arr (cA (AV.i IntKind.i64) (of a))⟩), (6, ⟨0, 61, .arr (cA (AV.i IntKind.i64) (of b))⟩)]⟩) cx [] [5, 6, 7, 8, 9] [5, 6] (by kernel_rfl) (by kernel_rfl) trivial ?_
  refine q_seq_normal ?_
  refine st_block 0 (by kernel_rfl) ?_
  refine st_loop (X := Int × Int × Int × Vector Int (16 : Nat) × Vector Int (16 : Nat)) (fun x => ⟨[(5, .ptr (5) (0) (0) (0)), (6, .ptr (6) (0) (0) (0)), (7, .i .i64 (x.fst)), (8, .i .i64 (x.snd.fst)), (9, .i .i64 (x.snd.snd.fst))], [(5, ⟨0, 61, .arr (cA (AV.i IntKind.i64) x.snd.snd.snd.fst)⟩), (6, ⟨0, 61, .arr (cA (AV.i IntKind.i64) x.snd.snd.snd.snd)⟩)]⟩) (fun x ↦ dec40 x.fst x.snd.fst x.snd.snd.fst x.snd.snd.snd.fst x.snd.snd.snd.snd) (fun x ↦ inv40 (of a) (of b) x.fst x.snd.fst x.snd.snd.fst x.snd.snd.snd.fst x.snd.snd.snd.snd) [5, 6, 7, 8, 9] [5, 6] (((0 : Int), (0 : Int), (0 : Int), of a, of b)) (by kernel_rfl) (by kernel_rfl) g0 ?_
  rintro ⟨more_0, less_1, r_2, f_3, g_4⟩ h_5
  obtain ⟨h_6, h_7, h_8, h_9, h_10, h_11, h_12, h_13, h_14, h_15⟩ : (0 : Int) ≤ r_2 ∧ r_2 ≤ (16 : Int) ∧ f_3 = of a ∧ g_4 = of b ∧ (0 : Int) ≤ more_0 ∧ more_0 ≤ r_2 ∧ (0 : Int) ≤ less_1 ∧ less_1 ≤ r_2 ∧ (more_0 = (0 : Int) ↔ ∀ (j : Nat), (↑j : Int) < r_2 → (of a)[j]! ≤ (of b)[j]!) ∧ (less_1 = (0 : Int) ↔ ∀ (j : Nat), (↑j : Int) < r_2 → (of b)[j]! ≤ (of a)[j]!) := h_5
  refine st_seq (by kernel_rfl) ?_
  refine st_seq (by kernel_rfl) ?_
  refine st_reg (A := (AV.b (decide (r_2 < (16 : Int))) = AV.b (decide (r_2 < (16 : Int))))) (σ' := ⟨[(5, .ptr (5) (0) (0) (0)), (6, .ptr (6) (0) (0) (0)), (7, .i .i64 (more_0)), (8, .i .i64 (less_1)), (9, .i .i64 (r_2)), (15, .b (decide (r_2 < (16 : Int))))], [(5, ⟨0, 61, .arr (cA (AV.i IntKind.i64) f_3)⟩), (6, ⟨0, 61, .arr (cA (AV.i IntKind.i64) g_4)⟩)]⟩) cx [(1, { tell := some (.b (decide (r_2 < (16 : Int)))) })] [5, 6, 7, 8, 9, 15] [5, 6] (by kernel_rfl) (by kernel_rfl) (by kernel_rfl) ?_
  refine q_seq_normal ?_
  refine st_dec (r_2 < (16 : Int)) (by kernel_rfl) (by kernel_rfl) (fun h_16 => ?_) (fun h_16 => ?_)
  ·
    refine st_skip (by kernel_rfl) ?_
    refine q_seq_normal ?_
    refine st_seq (by kernel_rfl) ?_
    refine st_block 1 (by kernel_rfl) ?_
    refine st_seq (by kernel_rfl) ?_
    refine st_seq (by kernel_rfl) ?_
    refine st_any (A := ((0 : Int) ≤ r_2) ∧ (r_2 < (↑(16 : Nat) : Int)) ∧ ((cA (AV.i IntKind.i64) f_3)[r_2.toNat * (1 : Nat) + 0]? = some (AV.i IntKind.i64 f_3[r_2.toNat]!)) ∧ ((0 : Int) ≤ r_2) ∧ (r_2 < (↑(16 : Nat) : Int)) ∧ ((cA (AV.i IntKind.i64) g_4)[r_2.toNat * (1 : Nat) + 0]? = some (AV.i IntKind.i64 g_4[r_2.toNat]!)) ∧ (AV.b (decide (f_3[r_2.toNat]! > g_4[r_2.toNat]!)) = AV.b (decide (g_4[r_2.toNat]! < f_3[r_2.toNat]!)))) (σ' := ⟨[(5, .ptr (5) (0) (0) (0)), (6, .ptr (6) (0) (0) (0)), (7, .i .i64 (more_0)), (8, .i .i64 (less_1)), (9, .i .i64 (r_2)), (24, .b (decide (g_4[r_2.toNat]! < f_3[r_2.toNat]!)))], [(5, ⟨0, 61, .arr (cA (AV.i IntKind.i64) f_3)⟩), (6, ⟨0, 61, .arr (cA (AV.i IntKind.i64) g_4)⟩)]⟩) cx [(2, { row := [.i .i64 (f_3[r_2.toNat]!)] }), (5, { row := [.i .i64 (g_4[r_2.toNat]!)] }), (6, { tell := some (.b (decide (g_4[r_2.toNat]! < f_3[r_2.toNat]!))) })] [5, 6, 7, 8, 9, 24] [5, 6] (by kernel_rfl) (by kernel_rfl) ⟨(by (with_reducible assumption)), (by omega), (by (simp only [Nat.mul_one, Nat.add_zero, Nat.zero_add]; with_reducible refine get_cA ?_; omega)), (by (with_reducible assumption)), (by omega), (by (simp only [Nat.mul_one, Nat.add_zero, Nat.zero_add]; with_reducible refine get_cA ?_; omega)), (by kernel_rfl)⟩ ?_
    refine q_seq_normal ?_
    refine st_dec (g_4[r_2.toNat]! < f_3[r_2.toNat]!) (by kernel_rfl) (by kernel_rfl) (fun h_17 => ?_) (fun h_17 => ?_)
    ·
      refine st_reg (A := (AV.i IntKind.i64 (IntKind.i64.wrap (more_0 + (1 : Int))) = AV.i IntKind.i64 (more_0 + (1 : Int)))) (σ' := ⟨[(5, .ptr (5) (0) (0) (0)), (6, .ptr (6) (0) (0) (0)), (7, .i .i64 (more_0 + (1 : Int))), (8, .i .i64 (less_1)), (9, .i .i64 (r_2))], [(5, ⟨0, 61, .arr (cA (AV.i IntKind.i64) f_3)⟩), (6, ⟨0, 61, .arr (cA (AV.i IntKind.i64) g_4)⟩)]⟩) cx [(1, { tell := some (.i .i64 (more_0 + (1 : Int))) })] [5, 6, 7, 8, 9] [5, 6] (by kernel_rfl) (by kernel_rfl) (told_i64 (by omega) (by omega)) ?_
      refine q_seq_normal ?_
      refine st_seq (by kernel_rfl) ?_
      refine st_any (A := ((0 : Int) ≤ r_2) ∧ (r_2 < (↑(16 : Nat) : Int)) ∧ ((cA (AV.i IntKind.i64) f_3)[r_2.toNat * (1 : Nat) + 0]? = some (AV.i IntKind.i64 f_3[r_2.toNat]!)) ∧ ((0 : Int) ≤ r_2) ∧ (r_2 < (↑(16 : Nat) : Int)) ∧ ((cA (AV.i IntKind.i64) g_4)[r_2.toNat * (1 : Nat) + 0]? = some (AV.i IntKind.i64 g_4[r_2.toNat]!)) ∧ (AV.b (decide (f_3[r_2.toNat]! < g_4[r_2.toNat]!)) = AV.b (decide (f_3[r_2.toNat]! < g_4[r_2.toNat]!)))) (σ' := ⟨[(5, .ptr (5) (0) (0) (0)), (6, .ptr (6) (0) (0) (0)), (7, .i .i64 (more_0 + (1 : Int))), (8, .i .i64 (less_1)), (9, .i .i64 (r_2)), (33, .b (decide (f_3[r_2.toNat]! < g_4[r_2.toNat]!)))], [(5, ⟨0, 61, .arr (cA (AV.i IntKind.i64) f_3)⟩), (6, ⟨0, 61, .arr (cA (AV.i IntKind.i64) g_4)⟩)]⟩) cx [(2, { row := [.i .i64 (f_3[r_2.toNat]!)] }), (5, { row := [.i .i64 (g_4[r_2.toNat]!)] }), (6, { tell := some (.b (decide (f_3[r_2.toNat]! < g_4[r_2.toNat]!))) })] [5, 6, 7, 8, 9, 33] [5, 6] (by kernel_rfl) (by kernel_rfl) ⟨(by (with_reducible assumption)), (by omega), (by (simp only [Nat.mul_one, Nat.add_zero, Nat.zero_add]; with_reducible refine get_cA ?_; omega)), (by (with_reducible assumption)), (by omega), (by (simp only [Nat.mul_one, Nat.add_zero, Nat.zero_add]; with_reducible refine get_cA ?_; omega)), (by kernel_rfl)⟩ ?_
      refine q_seq_normal ?_
      refine st_dec (f_3[r_2.toNat]! < g_4[r_2.toNat]!) (by kernel_rfl) (by kernel_rfl) (fun h_18 => absurd h_18 (by omega)) (fun h_18 => ?_)
      refine st_skip (by kernel_rfl) ?_
      refine q_blk_normal ?_
      refine q_seq_normal ?_
      refine st_reg (A := (AV.i IntKind.i64 (IntKind.i64.wrap (r_2 + (1 : Int))) = AV.i IntKind.i64 (r_2 + (1 : Int)))) (σ' := ⟨[(5, .ptr (5) (0) (0) (0)), (6, .ptr (6) (0) (0) (0)), (7, .i .i64 (more_0 + (1 : Int))), (8, .i .i64 (less_1)), (9, .i .i64 (r_2 + (1 : Int)))], [(5, ⟨0, 61, .arr (cA (AV.i IntKind.i64) f_3)⟩), (6, ⟨0, 61, .arr (cA (AV.i IntKind.i64) g_4)⟩)]⟩) cx [(1, { tell := some (.i .i64 (r_2 + (1 : Int))) })] [5, 6, 7, 8, 9] [5, 6] (by kernel_rfl) (by kernel_rfl) (told_i64 (by omega) (by omega)) ?_
      refine q_seq_normal ?_
      exact loop_next ((more_0 + (1 : Int), less_1, r_2 + (1 : Int), f_3, g_4)) (by kernel_rfl) (show ((16 : Int) - (r_2 + (1 : Int))).toNat < ((16 : Int) - r_2).toNat from (by omega)) (g1 more_0 less_1 r_2 f_3 g_4 h_6 h_7 h_8 h_9 h_10 h_11 h_12 h_13 h_14 h_15 h_16 h_17 h_18)
    ·
      refine st_skip (by kernel_rfl) ?_
      refine q_seq_normal ?_
      refine st_seq (by kernel_rfl) ?_
      refine st_any (A := ((0 : Int) ≤ r_2) ∧ (r_2 < (↑(16 : Nat) : Int)) ∧ ((cA (AV.i IntKind.i64) f_3)[r_2.toNat * (1 : Nat) + 0]? = some (AV.i IntKind.i64 f_3[r_2.toNat]!)) ∧ ((0 : Int) ≤ r_2) ∧ (r_2 < (↑(16 : Nat) : Int)) ∧ ((cA (AV.i IntKind.i64) g_4)[r_2.toNat * (1 : Nat) + 0]? = some (AV.i IntKind.i64 g_4[r_2.toNat]!)) ∧ (AV.b (decide (f_3[r_2.toNat]! < g_4[r_2.toNat]!)) = AV.b (decide (f_3[r_2.toNat]! < g_4[r_2.toNat]!)))) (σ' := ⟨[(5, .ptr (5) (0) (0) (0)), (6, .ptr (6) (0) (0) (0)), (7, .i .i64 (more_0)), (8, .i .i64 (less_1)), (9, .i .i64 (r_2)), (33, .b (decide (f_3[r_2.toNat]! < g_4[r_2.toNat]!)))], [(5, ⟨0, 61, .arr (cA (AV.i IntKind.i64) f_3)⟩), (6, ⟨0, 61, .arr (cA (AV.i IntKind.i64) g_4)⟩)]⟩) cx [(2, { row := [.i .i64 (f_3[r_2.toNat]!)] }), (5, { row := [.i .i64 (g_4[r_2.toNat]!)] }), (6, { tell := some (.b (decide (f_3[r_2.toNat]! < g_4[r_2.toNat]!))) })] [5, 6, 7, 8, 9, 33] [5, 6] (by kernel_rfl) (by kernel_rfl) ⟨(by (with_reducible assumption)), (by omega), (by (simp only [Nat.mul_one, Nat.add_zero, Nat.zero_add]; with_reducible refine get_cA ?_; omega)), (by (with_reducible assumption)), (by omega), (by (simp only [Nat.mul_one, Nat.add_zero, Nat.zero_add]; with_reducible refine get_cA ?_; omega)), (by kernel_rfl)⟩ ?_
      refine q_seq_normal ?_
      refine st_dec (f_3[r_2.toNat]! < g_4[r_2.toNat]!) (by kernel_rfl) (by kernel_rfl) (fun h_19 => ?_) (fun h_19 => ?_)
      ·
        refine st_reg (A := (AV.i IntKind.i64 (IntKind.i64.wrap (less_1 + (1 : Int))) = AV.i IntKind.i64 (less_1 + (1 : Int)))) (σ' := ⟨[(5, .ptr (5) (0) (0) (0)), (6, .ptr (6) (0) (0) (0)), (7, .i .i64 (more_0)), (8, .i .i64 (less_1 + (1 : Int))), (9, .i .i64 (r_2))], [(5, ⟨0, 61, .arr (cA (AV.i IntKind.i64) f_3)⟩), (6, ⟨0, 61, .arr (cA (AV.i IntKind.i64) g_4)⟩)]⟩) cx [(1, { tell := some (.i .i64 (less_1 + (1 : Int))) })] [5, 6, 7, 8, 9] [5, 6] (by kernel_rfl) (by kernel_rfl) (told_i64 (by omega) (by omega)) ?_
        refine q_blk_normal ?_
        refine q_seq_normal ?_
        refine st_reg (A := (AV.i IntKind.i64 (IntKind.i64.wrap (r_2 + (1 : Int))) = AV.i IntKind.i64 (r_2 + (1 : Int)))) (σ' := ⟨[(5, .ptr (5) (0) (0) (0)), (6, .ptr (6) (0) (0) (0)), (7, .i .i64 (more_0)), (8, .i .i64 (less_1 + (1 : Int))), (9, .i .i64 (r_2 + (1 : Int)))], [(5, ⟨0, 61, .arr (cA (AV.i IntKind.i64) f_3)⟩), (6, ⟨0, 61, .arr (cA (AV.i IntKind.i64) g_4)⟩)]⟩) cx [(1, { tell := some (.i .i64 (r_2 + (1 : Int))) })] [5, 6, 7, 8, 9] [5, 6] (by kernel_rfl) (by kernel_rfl) (told_i64 (by omega) (by omega)) ?_
        refine q_seq_normal ?_
        exact loop_next ((more_0, less_1 + (1 : Int), r_2 + (1 : Int), f_3, g_4)) (by kernel_rfl) (show ((16 : Int) - (r_2 + (1 : Int))).toNat < ((16 : Int) - r_2).toNat from (by omega)) (g2 more_0 less_1 r_2 f_3 g_4 h_6 h_7 h_8 h_9 h_10 h_11 h_12 h_13 h_14 h_15 h_16 h_17 h_19)
      ·
        refine st_skip (by kernel_rfl) ?_
        refine q_blk_normal ?_
        refine q_seq_normal ?_
        refine st_reg (A := (AV.i IntKind.i64 (IntKind.i64.wrap (r_2 + (1 : Int))) = AV.i IntKind.i64 (r_2 + (1 : Int)))) (σ' := ⟨[(5, .ptr (5) (0) (0) (0)), (6, .ptr (6) (0) (0) (0)), (7, .i .i64 (more_0)), (8, .i .i64 (less_1)), (9, .i .i64 (r_2 + (1 : Int)))], [(5, ⟨0, 61, .arr (cA (AV.i IntKind.i64) f_3)⟩), (6, ⟨0, 61, .arr (cA (AV.i IntKind.i64) g_4)⟩)]⟩) cx [(1, { tell := some (.i .i64 (r_2 + (1 : Int))) })] [5, 6, 7, 8, 9] [5, 6] (by kernel_rfl) (by kernel_rfl) (told_i64 (by omega) (by omega)) ?_
        refine q_seq_normal ?_
        exact loop_next ((more_0, less_1, r_2 + (1 : Int), f_3, g_4)) (by kernel_rfl) (show ((16 : Int) - (r_2 + (1 : Int))).toNat < ((16 : Int) - r_2).toNat from (by omega)) (g3 more_0 less_1 r_2 f_3 g_4 h_6 h_7 h_8 h_9 h_10 h_11 h_12 h_13 h_14 h_15 h_16 h_17 h_19)
  ·
    refine st_exit 0 (by kernel_rfl) ?_
    refine q_seq_exit ?_
    refine q_seq_exit ?_
    refine q_blk_hit ?_
    refine q_seq_normal ?_
    refine st_seq (by kernel_rfl) ?_
    refine st_block 2 (by kernel_rfl) ?_
    refine st_seq (by kernel_rfl) ?_
    refine st_join (σ' := ⟨[(7, .i .i64 (more_0)), (8, .i .i64 (less_1)), (36, .b (decide (more_0 = (0 : Int) ∧ less_1 = (0 : Int))))], []⟩) ?_ ?_
    ·
      refine st_split (more_0 = (0 : Int)) (fun h_21 => ?_) (fun h_21 => ?_)
      ·
        refine st_reg (A := (AV.b (more_0 == (0 : Int)) = AV.b true) ∧ (AV.b (less_1 == (0 : Int)) = AV.b (decide (less_1 = (0 : Int)))) ∧ (AV.b (decide (less_1 = (0 : Int))) = AV.b (decide (more_0 = (0 : Int) ∧ less_1 = (0 : Int))))) (σ' := ⟨[(7, .i .i64 (more_0)), (8, .i .i64 (less_1)), (36, .b (decide (more_0 = (0 : Int) ∧ less_1 = (0 : Int))))], []⟩) cx [(1, { tell := some (.b (true)) }), (4, { tell := some (.b (decide (less_1 = (0 : Int)))) }), (6, { tell := some (.b (decide (more_0 = (0 : Int) ∧ less_1 = (0 : Int)))) })] [7, 8, 36] [] (by kernel_rfl) (by kernel_rfl) ⟨(told_true h_21), (by kernel_rfl), (by simp only [eq_true h_21, told_simp1, told_simp2, and_true, true_and, and_false, false_and, or_true, true_or, or_false, false_or, not_true_eq_false, not_false_eq_true, decide_true, decide_false, Bool.decide_eq_true])⟩ ?_
        exact ⟨rfl, rfl⟩
      ·
        refine st_reg (A := (AV.b (more_0 == (0 : Int)) = AV.b false) ∧ (AV.b false = AV.b (decide (more_0 = (0 : Int) ∧ less_1 = (0 : Int))))) (σ' := ⟨[(7, .i .i64 (more_0)), (8, .i .i64 (less_1)), (36, .b (decide (more_0 = (0 : Int) ∧ less_1 = (0 : Int))))], []⟩) cx [(1, { tell := some (.b (false)) }), (6, { tell := some (.b (decide (more_0 = (0 : Int) ∧ less_1 = (0 : Int)))) })] [7, 8, 36] [] (by kernel_rfl) (by kernel_rfl) ⟨(told_false h_21), (by simp only [eq_false h_21, told_simp1, told_simp2, and_true, true_and, and_false, false_and, or_true, true_or, or_false, false_or, not_true_eq_false, not_false_eq_true, decide_true, decide_false, Bool.decide_eq_true])⟩ ?_
        exact ⟨rfl, rfl⟩
    ·
      refine q_seq_normal ?_
      refine st_dec (more_0 = (0 : Int) ∧ less_1 = (0 : Int)) (by kernel_rfl) (by kernel_rfl) (fun h_22 => ?_) (fun h_22 => ?_)
      ·
        refine st_seq (by kernel_rfl) ?_
        refine st_reg (A := True) (σ' := ⟨[(4, .i .i64 ((0 : Int)))], []⟩) cx [] [4] [] (by kernel_rfl) (by kernel_rfl) trivial ?_
        refine q_seq_normal ?_
        refine st_ret (by kernel_rfl) ?_
        refine q_blk_ret ?_
        refine q_seq_ret ?_
        exact q_ret (r := .i .i64 ((0 : Int))) (obl := []) (by kernel_rfl) trivial (AVle.eq (g4 more_0 less_1 r_2 f_3 g_4 h_6 h_7 h_8 h_9 h_10 h_11 h_12 h_13 h_14 h_15 h_16 h_22))
      ·
        refine st_seq (by kernel_rfl) ?_
        refine st_reg (A := (AV.b (more_0 == (0 : Int)) = AV.b (decide (more_0 = (0 : Int))))) (σ' := ⟨[(8, .i .i64 (less_1)), (43, .b (decide (more_0 = (0 : Int))))], []⟩) cx [(1, { tell := some (.b (decide (more_0 = (0 : Int)))) })] [8, 43] [] (by kernel_rfl) (by kernel_rfl) (by kernel_rfl) ?_
        refine q_seq_normal ?_
        refine st_dec (more_0 = (0 : Int)) (by kernel_rfl) (by kernel_rfl) (fun h_23 => ?_) (fun h_23 => ?_)
        ·
          refine st_seq (by kernel_rfl) ?_
          refine st_reg (A := True) (σ' := ⟨[(4, .i .i64 ((1 : Int)))], []⟩) cx [] [4] [] (by kernel_rfl) (by kernel_rfl) trivial ?_
          refine q_seq_normal ?_
          refine st_ret (by kernel_rfl) ?_
          refine q_blk_ret ?_
          refine q_seq_ret ?_
          exact q_ret (r := .i .i64 ((1 : Int))) (obl := []) (by kernel_rfl) trivial (AVle.eq (g5 more_0 less_1 r_2 f_3 g_4 h_6 h_7 h_8 h_9 h_10 h_11 h_12 h_13 h_14 h_15 h_16 h_22 h_23))
        ·
          refine st_seq (by kernel_rfl) ?_
          refine st_reg (A := (AV.b (less_1 == (0 : Int)) = AV.b (decide (less_1 = (0 : Int))))) (σ' := ⟨[(46, .b (decide (less_1 = (0 : Int))))], []⟩) cx [(1, { tell := some (.b (decide (less_1 = (0 : Int)))) })] [46] [] (by kernel_rfl) (by kernel_rfl) (by kernel_rfl) ?_
          refine q_seq_normal ?_
          refine st_dec (less_1 = (0 : Int)) (by kernel_rfl) (by kernel_rfl) (fun h_24 => ?_) (fun h_24 => ?_)
          ·
            refine st_seq (by kernel_rfl) ?_
            refine st_reg (A := True) (σ' := ⟨[(4, .i .i64 ((2 : Int)))], []⟩) cx [] [4] [] (by kernel_rfl) (by kernel_rfl) trivial ?_
            refine q_seq_normal ?_
            refine st_ret (by kernel_rfl) ?_
            refine q_blk_ret ?_
            refine q_seq_ret ?_
            exact q_ret (r := .i .i64 ((2 : Int))) (obl := []) (by kernel_rfl) trivial (AVle.eq (g6 more_0 less_1 r_2 f_3 g_4 h_6 h_7 h_8 h_9 h_10 h_11 h_12 h_13 h_14 h_15 h_16 h_22 h_23 h_24))
          ·
            refine st_skip (by kernel_rfl) ?_
            refine q_blk_normal ?_
            refine q_seq_normal ?_
            refine st_seq (by kernel_rfl) ?_
            refine st_reg (A := True) (σ' := ⟨[(4, .i .i64 ((3 : Int)))], []⟩) cx [] [4] [] (by kernel_rfl) (by kernel_rfl) trivial ?_
            refine q_seq_normal ?_
            refine st_ret (by kernel_rfl) ?_
            exact q_ret (r := .i .i64 ((3 : Int))) (obl := []) (by kernel_rfl) trivial (AVle.eq (g7 more_0 less_1 r_2 f_3 g_4 h_6 h_7 h_8 h_9 h_10 h_11 h_12 h_13 h_14 h_15 h_16 h_22 h_23 h_24))
theorem con40 (a b : List Int) : Con Try.prog 40 [.sl (a.map c3), .sl (b.map c3)] (.i .i64 (ordV (of a) (of b))) :=
  by
  refine walk40 a b ⟨by omega, by omega, rfl, rfl, by omega, by omega, by omega, by omega, ⟨fun _ j hj => by omega, fun _ => rfl⟩, ⟨fun _ j hj => by omega, fun _ => rfl⟩⟩
    (fun m l r f g h0 h1 h2 h3 h4 h5 h6 h7 h8 h9 k0 k1 k2 => inv40_step h0 k0 h2 h3 h4 h5 h6 h7 h8 h9 (by rw [if_pos k1]) (by rw [if_neg k2]; omega))
    (fun m l r f g h0 h1 h2 h3 h4 h5 h6 h7 h8 h9 k0 k1 k2 => inv40_step h0 k0 h2 h3 h4 h5 h6 h7 h8 h9 (by rw [if_neg k1]; omega) (by rw [if_pos k2]))
    (fun m l r f g h0 h1 h2 h3 h4 h5 h6 h7 h8 h9 k0 k1 k2 => inv40_step h0 k0 h2 h3 h4 h5 h6 h7 h8 h9 (by rw [if_neg k1]; omega) (by rw [if_neg k2]; omega))
    ?_ ?_ ?_ ?_ <;> intro m l r f g h0 h1 h2 h3 h4 h5 h6 h7 h8 h9 k0 <;> intros <;> exact ordV_fin h1 k0 h8 h9 (by omega) (by omega) (by omega) (by omega)
theorem walk57 (a : Vector Int (16 : Nat)) (b : Vector Int (16 : Nat)) (ha : inRange a) (hb : inRange b)
    (g0 : ¬sumN a (16 : Nat) = sumN b (16 : Nat) → AV.i IntKind.i64 (sgn (decide (sumN a (16 : Nat) < sumN b (16 : Nat)))) = AV.i IntKind.i64 (cmpV a b))
    (g1 : ¬¬sumN a (16 : Nat) = sumN b (16 : Nat) → a = b → AV.i IntKind.i64 (0 : Int) = AV.i IntKind.i64 (cmpV a b))
    (g2 : ¬¬sumN a (16 : Nat) = sumN b (16 : Nat) → ¬a = b → inv57 a b (0 : Int) a b)
    (g3 : ¬¬sumN a (16 : Nat) = sumN b (16 : Nat) → ¬a = b → ∀ (i_2 : Int) (a_3 b_4 : Vector Int (16 : Nat)), (0 : Int) ≤ i_2 → i_2 ≤ (16 : Int) → a_3 = a → b_4 = b → lexV a b (16 : Nat) = lexV a b ((16 : Int) - i_2).toNat → i_2 < (16 : Int) → ¬a_3[i_2.toNat]! = b_4[i_2.toNat]! → AV.i IntKind.i64 (sgn (decide (a_3[i_2.toNat]! < b_4[i_2.toNat]!))) = AV.i IntKind.i64 (cmpV a b))
    (g4 : ¬¬sumN a (16 : Nat) = sumN b (16 : Nat) → ¬a = b → ∀ (i_2 : Int) (a_3 b_4 : Vector Int (16 : Nat)), (0 : Int) ≤ i_2 → i_2 ≤ (16 : Int) → a_3 = a → b_4 = b → lexV a b (16 : Nat) = lexV a b ((16 : Int) - i_2).toNat → i_2 < (16 : Int) → ¬¬a_3[i_2.toNat]! = b_4[i_2.toNat]! → inv57 a b (i_2 + (1 : Int)) a_3 b_4)
    (g5 : ¬¬sumN a (16 : Nat) = sumN b (16 : Nat) → ¬a = b → ∀ (i_2 : Int) (a_3 b_4 : Vector Int (16 : Nat)), (0 : Int) ≤ i_2 → i_2 ≤ (16 : Int) → a_3 = a → b_4 = b → lexV a b (16 : Nat) = lexV a b ((16 : Int) - i_2).toNat → ¬i_2 < (16 : Int) → AV.i IntKind.i64 (0 : Int) = AV.i IntKind.i64 (cmpV a b)) :
    Con Try.prog (57 : FuncId) [AV.agg (c62 a), AV.agg (c62 b)] (AV.i IntKind.i64 (cmpV a b)) := by
  refine st_con tab_ok (by kernel_rfl) [.tmp 4] 41 Go.Proofs.Try.func57 (by kernel_rfl) (by kernel_rfl) ?_
  intro e0 cx
  refine st_seq (by kernel_rfl) ?_
  refine st_reg (A := True) (σ' := ⟨[(2, .ptr (2) (0) (0) (0)), (3, .ptr (3) (0) (0) (0))], [(2, ⟨0, 62, .arr (cA (AV.i IntKind.i64) a)⟩), (3, ⟨0, 62, .arr (cA (AV.i IntKind.i64) b)⟩)]⟩) cx [] [2, 3] [2, 3] (by kernel_rfl) (by kernel_rfl) trivial ?_
  refine q_seq_normal ?_
  refine st_seq (by kernel_rfl) ?_
  refine st_seq (by kernel_rfl) ?_
  refine st_any (A := ((cA (AV.i IntKind.i64) a).length = (16 : Nat)) ∧ (Con Try.prog (55 : FuncId) [AV.agg (c62 a)] (AV.i IntKind.i64 (sumN a (16 : Nat)))) ∧ ((cA (AV.i IntKind.i64) b).length = (16 : Nat)) ∧ (Con Try.prog (55 : FuncId) [AV.agg (c62 b)] (AV.i IntKind.i64 (sumN b (16 : Nat))))) (σ' := ⟨[(2, .ptr (2) (0) (0) (0)), (3, .ptr (3) (0) (0) (0)), (5, .i .i64 (sumN a (16 : Nat))), (6, .i .i64 (sumN b (16 : Nat)))], [(2, ⟨0, 62, .arr (cA (AV.i IntKind.i64) a)⟩), (3, ⟨0, 62, .arr (cA (AV.i IntKind.i64) b)⟩)]⟩) cx [(1, { val := some (.i .i64 (sumN a (16 : Nat))) }), (3, { val := some (.i .i64 (sumN b (16 : Nat))) })] [2, 3, 5, 6] [2, 3] (by kernel_rfl) (by kernel_rfl) ⟨(by (simp only [len_cA]; done)), (con55 (a) (by (with_reducible assumption))), (by (simp only [len_cA]; done)), (con55 (b) (by (with_reducible assumption)))⟩ ?_
  refine q_seq_normal ?_
  refine st_seq (by kernel_rfl) ?_
  refine st_reg (A := (AV.b (sumN a (16 : Nat) != sumN b (16 : Nat)) = AV.b (decide ¬sumN a (16 : Nat) = sumN b (16 : Nat)))) (σ' := ⟨[(2, .ptr (2) (0) (0) (0)), (3, .ptr (3) (0) (0) (0)), (5, .i .i64 (sumN a (16 : Nat))), (6, .i .i64 (sumN b (16 : Nat))), (14, .b (decide ¬sumN a (16 : Nat) = sumN b (16 : Nat)))], [(2, ⟨0, 62, .arr (cA (AV.i IntKind.i64) a)⟩), (3, ⟨0, 62, .arr (cA (AV.i IntKind.i64) b)⟩)]⟩) cx [(2, { tell := some (.b (decide ¬sumN a (16 : Nat) = sumN b (16 : Nat))) })] [2, 3, 5, 6, 14] [2, 3] (by kernel_rfl) (by kernel_rfl) (told_neq) ?_
  refine q_seq_normal ?_
  refine st_dec (¬sumN a (16 : Nat) = sumN b (16 : Nat)) (by kernel_rfl) (by kernel_rfl) (fun h_0 => ?_) (fun h_0 => ?_)
  ·
    refine st_seq (by kernel_rfl) ?_
    refine st_reg (A := (AV.b (decide (sumN a (16 : Nat) < sumN b (16 : Nat))) = AV.b (decide (sumN a (16 : Nat) < sumN b (16 : Nat)))) ∧ (Con Try.prog (62 : FuncId) [AV.b (decide (sumN a (16 : Nat) < sumN b (16 : Nat)))] (AV.i IntKind.i64 (sgn (decide (sumN a (16 : Nat) < sumN b (16 : Nat))))))) (σ' := ⟨[(4, .i .i64 (sgn (decide (sumN a (16 : Nat) < sumN b (16 : Nat)))))], []⟩) cx [(2, { tell := some (.b (decide (sumN a (16 : Nat) < sumN b (16 : Nat)))) }), (3, { val := some (.i .i64 (sgn (decide (sumN a (16 : Nat) < sumN b (16 : Nat))))) })] [4] [] (by kernel_rfl) (by kernel_rfl) ⟨(by kernel_rfl), (con62 (decide (sumN a (16 : Nat) < sumN b (16 : Nat))))⟩ ?_
    refine q_seq_normal ?_
    refine st_ret (by kernel_rfl) ?_
    refine q_seq_ret ?_
    exact q_ret (r := .i .i64 (sgn (decide (sumN a (16 : Nat) < sumN b (16 : Nat))))) (obl := []) (by kernel_rfl) trivial (AVle.eq (g0 h_0))
  ·
    refine st_skip (by kernel_rfl) ?_
    refine q_seq_normal ?_
    refine st_seq (by kernel_rfl) ?_
    refine st_seq (by kernel_rfl) ?_
    refine st_reg (A := ((cA (AV.i IntKind.i64) a).length = (16 : Nat)) ∧ ((cA (AV.i IntKind.i64) b).length = (16 : Nat)) ∧ (AggEq Try.prog (62 : Nat) (cA (AV.i IntKind.i64) a) (cA (AV.i IntKind.i64) b) (decide (a = b)))) (σ' := ⟨[(2, .ptr (2) (0) (0) (0)), (3, .ptr (3) (0) (0) (0)), (21, .b (decide (a = b)))], [(2, ⟨0, 62, .arr (cA (AV.i IntKind.i64) a)⟩), (3, ⟨0, 62, .arr (cA (AV.i IntKind.i64) b)⟩)]⟩) cx [(2, { val := some (.b (decide (a = b))) })] [2, 3, 21] [2, 3] (by kernel_rfl) (by kernel_rfl) ⟨(by (simp only [len_cA]; done)), (by (simp only [len_cA]; done)), (eq62 a b)⟩ ?_
    refine q_seq_normal ?_
    refine st_dec (a = b) (by kernel_rfl) (by kernel_rfl) (fun h_1 => ?_) (fun h_1 => ?_)
    ·
      refine st_seq (by kernel_rfl) ?_
      refine st_reg (A := True) (σ' := ⟨[(4, .i .i64 ((0 : Int)))], []⟩) cx [] [4] [] (by kernel_rfl) (by kernel_rfl) trivial ?_
      refine q_seq_normal ?_
      refine st_ret (by kernel_rfl) ?_
      refine q_seq_ret ?_
      exact q_ret (r := .i .i64 ((0 : Int))) (obl := []) (by kernel_rfl) trivial (AVle.eq (g1 h_0 h_1))
    ·
      refine st_skip (by kernel_rfl) ?_
      refine q_seq_normal ?_
      refine st_seq (by kernel_rfl) ?_
      refine st_seq (by kernel_rfl) ?_
      refine st_reg (A := True) (σ' := ⟨[(2, .ptr (2) (0) (0) (0)), (3, .ptr (3) (0) (0) (0)), (22, .i .i64 ((0 : Int)))], [(2, ⟨0, 62, .arr (cA (AV.i IntKind.i64) a)⟩), (3, ⟨0, 62, .arr (cA (AV.i IntKind.i64) b)⟩)]⟩) cx [] [2, 3, 22] [2, 3] (by kernel_rfl) (by kernel_rfl) trivial ?_
      refine q_seq_normal ?_
      refine st_block 0 (by kernel_rfl) ?_
      refine st_loop (X := Int × Vector Int (16 : Nat) × Vector Int (16 : Nat)) (fun x => ⟨[(2, .ptr (2) (0) (0) (0)), (3, .ptr (3) (0) (0) (0)), (22, .i .i64 (x.fst))], [(2, ⟨0, 62, .arr (cA (AV.i IntKind.i64) x.snd.fst)⟩), (3, ⟨0, 62, .arr (cA (AV.i IntKind.i64) x.snd.snd)⟩)]⟩) (fun x ↦ dec57 x.fst x.snd.fst x.snd.snd) (fun x ↦ inv57 a b x.fst x.snd.fst x.snd.snd) [2, 3, 22] [2, 3] (((0 : Int), a, b)) (by kernel_rfl) (by kernel_rfl) (g2 h_0 h_1) ?_
      rintro ⟨i_2, a_3, b_4⟩ h_5
      obtain ⟨h_6, h_7, h_8, h_9, h_10⟩ : (0 : Int) ≤ i_2 ∧ i_2 ≤ (16 : Int) ∧ a_3 = a ∧ b_4 = b ∧ lexV a b (16 : Nat) = lexV a b ((16 : Int) - i_2).toNat := h_5
      refine st_seq (by kernel_rfl) ?_
      refine st_reg (A := (AV.b (decide (i_2 < (16 : Int))) = AV.b (decide (i_2 < (16 : Int))))) (σ' := ⟨[(2, .ptr (2) (0) (0) (0)), (3, .ptr (3) (0) (0) (0)), (22, .i .i64 (i_2)), (23, .b (decide (i_2 < (16 : Int))))], [(2, ⟨0, 62, .arr (cA (AV.i IntKind.i64) a_3)⟩), (3, ⟨0, 62, .arr (cA (AV.i IntKind.i64) b_4)⟩)]⟩) cx [(0, { tell := some (.b (decide (i_2 < (16 : Int)))) })] [2, 3, 22, 23] [2, 3] (by kernel_rfl) (by kernel_rfl) (by kernel_rfl) ?_
      refine q_seq_normal ?_
      refine st_seq (by kernel_rfl) ?_
      refine st_dec (i_2 < (16 : Int)) (by kernel_rfl) (by kernel_rfl) (fun h_11 => ?_) (fun h_11 => ?_)
      ·
        refine st_skip (by kernel_rfl) ?_
        refine q_seq_normal ?_
        refine st_seq (by kernel_rfl) ?_
        refine st_block 1 (by kernel_rfl) ?_
        refine st_seq (by kernel_rfl) ?_
        refine st_reg (A := True) (σ' := ⟨[(2, .ptr (2) (0) (0) (0)), (3, .ptr (3) (0) (0) (0)), (22, .i .i64 (i_2)), (7, .i .i64 (i_2))], [(2, ⟨0, 62, .arr (cA (AV.i IntKind.i64) a_3)⟩), (3, ⟨0, 62, .arr (cA (AV.i IntKind.i64) b_4)⟩)]⟩) cx [] [2, 3, 22, 7] [2, 3] (by kernel_rfl) (by kernel_rfl) trivial ?_
        refine q_seq_normal ?_
        refine st_seq (by kernel_rfl) ?_
        refine st_any (A := ((0 : Int) ≤ i_2) ∧ (i_2 < (↑(16 : Nat) : Int)) ∧ ((cA (AV.i IntKind.i64) a_3)[i_2.toNat * (1 : Nat) + 0]? = some (AV.i IntKind.i64 a_3[i_2.toNat]!)) ∧ ((0 : Int) ≤ i_2) ∧ (i_2 < (↑(16 : Nat) : Int)) ∧ ((cA (AV.i IntKind.i64) b_4)[i_2.toNat * (1 : Nat) + 0]? = some (AV.i IntKind.i64 b_4[i_2.toNat]!)) ∧ (AV.b (a_3[i_2.toNat]! != b_4[i_2.toNat]!) = AV.b (decide ¬a_3[i_2.toNat]! = b_4[i_2.toNat]!))) (σ' := ⟨[(2, .ptr (2) (0) (0) (0)), (3, .ptr (3) (0) (0) (0)), (22, .i .i64 (i_2)), (7, .i .i64 (i_2)), (31, .b (decide ¬a_3[i_2.toNat]! = b_4[i_2.toNat]!))], [(2, ⟨0, 62, .arr (cA (AV.i IntKind.i64) a_3)⟩), (3, ⟨0, 62, .arr (cA (AV.i IntKind.i64) b_4)⟩)]⟩) cx [(2, { row := [.i .i64 (a_3[i_2.toNat]!)] }), (5, { row := [.i .i64 (b_4[i_2.toNat]!)] }), (6, { tell := some (.b (decide ¬a_3[i_2.toNat]! = b_4[i_2.toNat]!)) })] [2, 3, 22, 7, 31] [2, 3] (by kernel_rfl) (by kernel_rfl) ⟨(by (with_reducible assumption)), (by omega), (by (simp only [Nat.mul_one, Nat.add_zero, Nat.zero_add]; with_reducible refine get_cA ?_; omega)), (by (with_reducible assumption)), (by omega), (by (simp only [Nat.mul_one, Nat.add_zero, Nat.zero_add]; with_reducible refine get_cA ?_; omega)), (told_neq)⟩ ?_
        refine q_seq_normal ?_
        refine st_dec (¬a_3[i_2.toNat]! = b_4[i_2.toNat]!) (by kernel_rfl) (by kernel_rfl) (fun h_12 => ?_) (fun h_12 => ?_)
        ·
          refine st_seq (by kernel_rfl) ?_
          refine st_any (A := ((0 : Int) ≤ i_2) ∧ (i_2 < (↑(16 : Nat) : Int)) ∧ ((cA (AV.i IntKind.i64) a_3)[i_2.toNat * (1 : Nat) + 0]? = some (AV.i IntKind.i64 a_3[i_2.toNat]!)) ∧ ((0 : Int) ≤ i_2) ∧ (i_2 < (↑(16 : Nat) : Int)) ∧ ((cA (AV.i IntKind.i64) b_4)[i_2.toNat * (1 : Nat) + 0]? = some (AV.i IntKind.i64 b_4[i_2.toNat]!)) ∧ (AV.b (decide (a_3[i_2.toNat]! < b_4[i_2.toNat]!)) = AV.b (decide (a_3[i_2.toNat]! < b_4[i_2.toNat]!))) ∧ (Con Try.prog (62 : FuncId) [AV.b (decide (a_3[i_2.toNat]! < b_4[i_2.toNat]!))] (AV.i IntKind.i64 (sgn (decide (a_3[i_2.toNat]! < b_4[i_2.toNat]!)))))) (σ' := ⟨[(4, .i .i64 (sgn (decide (a_3[i_2.toNat]! < b_4[i_2.toNat]!))))], []⟩) cx [(2, { row := [.i .i64 (a_3[i_2.toNat]!)] }), (5, { row := [.i .i64 (b_4[i_2.toNat]!)] }), (6, { tell := some (.b (decide (a_3[i_2.toNat]! < b_4[i_2.toNat]!))) }), (7, { val := some (.i .i64 (sgn (decide (a_3[i_2.toNat]! < b_4[i_2.toNat]!)))) })] [4] [] (by kernel_rfl) (by kernel_rfl) ⟨(by (with_reducible assumption)), (by omega), (by (simp only [Nat.mul_one, Nat.add_zero, Nat.zero_add]; with_reducible refine get_cA ?_; omega)), (by (with_reducible assumption)), (by omega), (by (simp only [Nat.mul_one, Nat.add_zero, Nat.zero_add]; with_reducible refine get_cA ?_; omega)), (by kernel_rfl), (con62 (decide (a_3[i_2.toNat]! < b_4[i_2.toNat]!)))⟩ ?_
          refine q_seq_normal ?_
          refine st_ret (by kernel_rfl) ?_
          refine q_blk_ret ?_
          refine q_seq_ret ?_
          refine q_seq_ret ?_
          refine q_blk_ret ?_
          refine q_seq_ret ?_
          exact q_ret (r := .i .i64 (sgn (decide (a_3[i_2.toNat]! < b_4[i_2.toNat]!)))) (obl := []) (by kernel_rfl) trivial (AVle.eq (g3 h_0 h_1 i_2 a_3 b_4 h_6 h_7 h_8 h_9 h_10 h_11 h_12))
        ·
          refine st_skip (by kernel_rfl) ?_
          refine q_blk_normal ?_
          refine q_seq_normal ?_
          refine st_reg (A := (AV.i IntKind.i64 (IntKind.i64.wrap (i_2 + (1 : Int))) = AV.i IntKind.i64 (i_2 + (1 : Int)))) (σ' := ⟨[(2, .ptr (2) (0) (0) (0)), (3, .ptr (3) (0) (0) (0)), (22, .i .i64 (i_2 + (1 : Int)))], [(2, ⟨0, 62, .arr (cA (AV.i IntKind.i64) a_3)⟩), (3, ⟨0, 62, .arr (cA (AV.i IntKind.i64) b_4)⟩)]⟩) cx [(0, { tell := some (.i .i64 (i_2 + (1 : Int))) })] [2, 3, 22] [2, 3] (by kernel_rfl) (by kernel_rfl) (told_i64 (by omega) (by omega)) ?_
          refine q_seq_normal ?_
          exact loop_next ((i_2 + (1 : Int), a_3, b_4)) (by kernel_rfl) (show ((16 : Int) - (i_2 + (1 : Int))).toNat < ((16 : Int) - i_2).toNat from (by omega)) (g4 h_0 h_1 i_2 a_3 b_4 h_6 h_7 h_8 h_9 h_10 h_11 h_12)
      ·
        refine st_exit 0 (by kernel_rfl) ?_
        refine q_seq_exit ?_
        refine q_seq_exit ?_
        refine q_blk_hit ?_
        refine q_seq_normal ?_
        refine st_seq (by kernel_rfl) ?_
        refine st_reg (A := True) (σ' := ⟨[(4, .i .i64 ((0 : Int)))], []⟩) cx [] [4] [] (by kernel_rfl) (by kernel_rfl) trivial ?_
        refine q_seq_normal ?_
        refine st_ret (by kernel_rfl) ?_
        exact q_ret (r := .i .i64 ((0 : Int))) (obl := []) (by kernel_rfl) trivial (AVle.eq (g5 h_0 h_1 i_2 a_3 b_4 h_6 h_7 h_8 h_9 h_10 h_11))
theorem con57 (a b : Vector Int 16) (ha : inRange a) (hb : inRange b) : Con Try.prog 57 [.agg (c62 a), .agg (c62 b)] (.i .i64 (cmpV a b)) :=
  walk57 a b ha hb (fun h => by rw [cmpV, if_neg h]) (fun h h1 => by rw [cmpV, if_pos (Classical.not_not.1 h), h1, lexV_self]) (fun h h1 => ⟨by omega, by omega, rfl, rfl, rfl⟩)
    (fun h h1 i x y k0 k1 k2 k3 k4 k5 k6 => by subst k2 k3; rw [cmpV, if_pos (Classical.not_not.1 h), k4, lexV_step k0 k5, if_neg k6])
    (fun h h1 i x y k0 k1 k2 k3 k4 k5 k6 => by subst k2 k3; exact ⟨by omega, by omega, rfl, rfl, by rw [k4, lexV_step k0 k5, if_pos (Classical.not_not.1 k6)]⟩)
    (fun h h1 i x y k0 k1 k2 k3 k4 k5 => by have : i = 16 := by omega
                                            subst this; rw [cmpV, if_pos (Classical.not_not.1 h), k4]; rfl)
theorem walk38 (a : List Int) (b : List Int)
    (g0 : inRange (of a))
    (g1 : inRange (of b)) :
    Con Try.prog (38 : FuncId) [AV.sl (List.map c3 a), AV.sl (List.map c3 b)] (AV.i IntKind.i64 (cmpV (of a) (of b))) := by
  refine con_lens 0 (c3) (a) (by kernel_rfl) Go.Proofs.Try.func38 (by kernel_rfl) fun hl_0 => ?_
  refine con_lens 1 (c3) (b) (by kernel_rfl) Go.Proofs.Try.func38 (by kernel_rfl) fun hl_1 => ?_
  refine st_con tab_ok (by kernel_rfl) [.tmp 4] 10 Go.Proofs.Try.func38 (by kernel_rfl) (by kernel_rfl) ?_
  intro e0 cx
  refine st_seq (by kernel_rfl) ?_
  refine st_reg (A := True) (σ' := ⟨[(0, .sl (List.map c3 a)), (1, .sl (List.map c3 b))], []⟩) cx [] [0, 1] [] (by kernel_rfl) (by kernel_rfl) trivial ?_
  refine q_seq_normal ?_
  refine st_seq (by kernel_rfl) ?_
  refine st_reg (A := (Con Try.prog (49 : FuncId) [AV.sl (List.map c3 a)] (AV.agg (c62 (of a)))) ∧ (Con Try.prog (49 : FuncId) [AV.sl (List.map c3 b)] (AV.agg (c62 (of b)))) ∧ (Con Try.prog (57 : FuncId) [AV.agg (c62 (of a)), AV.agg (c62 (of b))] (AV.i IntKind.i64 (cmpV (of a) (of b))))) (σ' := ⟨[(4, .i .i64 (cmpV (of a) (of b)))], []⟩) cx [(1, { val := some (.agg (cA (AV.i IntKind.i64) (of a))) }), (3, { val := some (.agg (cA (AV.i IntKind.i64) (of b))) }), (4, { val := some (.i .i64 (cmpV (of a) (of b))) })] [4] [] (by kernel_rfl) (by kernel_rfl) ⟨(con49 (a)), (con49 (b)), (con57 (of a) (of b) g0 g1)⟩ ?_
  refine q_seq_normal ?_
  refine st_ret (by kernel_rfl) ?_
  exact q_ret (r := .i .i64 (cmpV (of a) (of b))) (obl := []) (by kernel_rfl) trivial (AVle.refl _)
theorem con38 (a b : List Int) : Con Try.prog 38 [.sl (a.map c3), .sl (b.map c3)] (.i .i64 (cmpV (of a) (of b))) :=
  walk38 a b (of_range a) (of_range b)
theorem walk41 (a : List Int) (b : List Int)
    (g0 : inv41 (of a) (of b) (sumN (of a) (16 : Nat)) (sumN (of b) (16 : Nat)) (0 : Int) (of a) (of b))
    (g1 : ∀ (x_0 y_1 r_2 : Int) (f_3 g_4 : Vector Int (16 : Nat)), (0 : Int) ≤ r_2 → r_2 ≤ (16 : Int) → f_3 = of a → g_4 = of b → (cmpV (of a) (of b) = if x_0 = y_1 then lexV (of a) (of b) ((16 : Int) - r_2).toNat else sgn (decide (x_0 < y_1))) → r_2 < (16 : Int) ∧ x_0 = y_1 → inv41 (of a) (of b) f_3[r_2.toNat]! g_4[r_2.toNat]! (r_2 + (1 : Int)) f_3 g_4)
    (g2 : ∀ (x_0 y_1 r_2 : Int) (f_3 g_4 : Vector Int (16 : Nat)), (0 : Int) ≤ r_2 → r_2 ≤ (16 : Int) → f_3 = of a → g_4 = of b → (cmpV (of a) (of b) = if x_0 = y_1 then lexV (of a) (of b) ((16 : Int) - r_2).toNat else sgn (decide (x_0 < y_1))) → ¬(r_2 < (16 : Int) ∧ x_0 = y_1) → x_0 < y_1 → AV.i IntKind.i64 (-1 : Int) = AV.i IntKind.i64 (cmpV (of a) (of b)))
    (g3 : ∀ (x_0 y_1 r_2 : Int) (f_3 g_4 : Vector Int (16 : Nat)), (0 : Int) ≤ r_2 → r_2 ≤ (16 : Int) → f_3 = of a → g_4 = of b → (cmpV (of a) (of b) = if x_0 = y_1 then lexV (of a) (of b) ((16 : Int) - r_2).toNat else sgn (decide (x_0 < y_1))) → ¬(r_2 < (16 : Int) ∧ x_0 = y_1) → ¬x_0 < y_1 → y_1 < x_0 → AV.i IntKind.i64 (1 : Int) = AV.i IntKind.i64 (cmpV (of a) (of b)))
    (g4 : ∀ (x_0 y_1 r_2 : Int) (f_3 g_4 : Vector Int (16 : Nat)), (0 : Int) ≤ r_2 → r_2 ≤ (16 : Int) → f_3 = of a → g_4 = of b → (cmpV (of a) (of b) = if x_0 = y_1 then lexV (of a) (of b) ((16 : Int) - r_2).toNat else sgn (decide (x_0 < y_1))) → ¬(r_2 < (16 : Int) ∧ x_0 = y_1) → ¬x_0 < y_1 → ¬y_1 < x_0 → AV.i IntKind.i64 (0 : Int) = AV.i IntKind.i64 (cmpV (of a) (of b))) :
    Con Try.prog (41 : FuncId) [AV.sl (List.map c3 a), AV.sl (List.map c3 b)] (AV.i IntKind.i64 (cmpV (of a) (of b))) := by
  refine con_lens 0 (c3) (a) (by kernel_rfl) Go.Proofs.Try.func41 (by kernel_rfl) fun hl_0 => ?_
  refine con_lens 1 (c3) (b) (by kernel_rfl) Go.Proofs.Try.func41 (by kernel_rfl) fun hl_1 => ?_
  refine st_con tab_ok (by kernel_rfl) [.tmp 4] 39 Go.Proofs.Try.func41 (by kernel_rfl) (by kernel_rfl) ?_
  intro e0 cx
  refine st_seq (by kernel_rfl) ?_
  refine st_reg (A := True) (σ' := ⟨[(0, .sl (List.map c3 a)), (1, .sl (List.map c3 b))], []⟩) cx [] [0, 1] [] (by kernel_rfl) (by kernel_rfl) trivial ?_
  refine q_seq_normal ?_
  refine st_seq (by kernel_rfl) ?_
  refine st_reg (A := (Con Try.prog (35 : FuncId) [AV.sl (List.map c3 a)] (AV.i IntKind.i64 (sumN (of a) (16 : Nat))))) (σ' := ⟨[(0, .sl (List.map c3 a)), (1, .sl (List.map c3 b)), (5, .i .i64 (sumN (of a) (16 : Nat)))], []⟩) cx [(1, { val := some (.i .i64 (sumN (of a) (16 : Nat))) })] [0, 1, 5] [] (by kernel_rfl) (by kernel_rfl) (con35 (a)) ?_
  refine q_seq_normal ?_
  refine st_seq (by kernel_rfl) ?_
  refine st_reg (A := (Con Try.prog (35 : FuncId) [AV.sl (List.map c3 b)] (AV.i IntKind.i64 (sumN (of b) (16 : Nat))))) (σ' := ⟨[(0, .sl (List.map c3 a)), (1, .sl (List.map c3 b)), (5, .i .i64 (sumN (of a) (16 : Nat))), (6, .i .i64 (sumN (of b) (16 : Nat)))], []⟩) cx [(1, { val := some (.i .i64 (sumN (of b) (16 : Nat))) })] [0, 1, 5, 6] [] (by kernel_rfl) (by kernel_rfl) (con35 (b)) ?_
  refine q_seq_normal ?_
  refine st_seq (by kernel_rfl) ?_
  refine st_reg (A := (Con Try.prog (50 : FuncId) [AV.sl (List.map c3 a)] (AV.agg (c61 (of a)))) ∧ ((cA (AV.i IntKind.i64) (of a)).length = (cA (AV.i IntKind.i64) (Vector.replicate (16 : Nat) (0 : Int))).length) ∧ ((cA (AV.i IntKind.i64) (of a)).length = (16 : Nat))) (σ' := ⟨[(1, .sl (List.map c3 b)), (5, .i .i64 (sumN (of a) (16 : Nat))), (6, .i .i64 (sumN (of b) (16 : Nat))), (7, .ptr (7) (0) (0) (0))], [(7, ⟨0, 61, .arr (cA (AV.i IntKind.i64) (of a))⟩)]⟩) cx [(1, { val := some (.agg (cA (AV.i IntKind.i64) (of a))) })] [1, 5, 6, 7] [7] (by kernel_rfl) (by kernel_rfl) ⟨(con50 (a)), (by kernel_rfl), (by kernel_rfl)⟩ ?_
  refine q_seq_normal ?_
  refine st_seq (by kernel_rfl) ?_
  refine st_reg (A := (Con Try.prog (50 : FuncId) [AV.sl (List.map c3 b)] (AV.agg (c61 (of b)))) ∧ ((cA (AV.i IntKind.i64) (of b)).length = (cA (AV.i IntKind.i64) (Vector.replicate (16 : Nat) (0 : Int))).length) ∧ ((cA (AV.i IntKind.i64) (of b)).length = (16 : Nat))) (σ' := ⟨[(5, .i .i64 (sumN (of a) (16 : Nat))), (6, .i .i64 (sumN (of b) (16 : Nat))), (7, .ptr (7) (0) (0) (0)), (8, .ptr (8) (0) (0) (0))], [(7, ⟨0, 61, .arr (cA (AV.i IntKind.i64) (of a))⟩), (8, ⟨0, 61, .arr (cA (AV.i IntKind.i64) (of b))⟩)]⟩) cx [(1, { val := some (.agg (cA (AV.i IntKind.i64) (of b))) })] [5, 6, 7, 8] [7, 8] (by kernel_rfl) (by kernel_rfl) ⟨(con50 (b)), (by kernel_rfl), (by kernel_rfl)⟩ ?_
  refine q_seq_normal ?_
  refine st_seq (by kernel_rfl) ?_
  refine st_seq (by kernel_rfl) ?_
  refine st_reg (A := True) (σ' := ⟨[(5, .i .i64 (sumN (of a) (16 : Nat))), (6, .i .i64 (sumN (of b) (16 : Nat))), (7, .ptr (7) (0) (0) (0)), (8, .ptr (8) (0) (0) (0)), (9, .i .i64 ((0 : Int)))], [(7, ⟨0, 61, .arr (cA (AV.i IntKind.i64) (of a))⟩), (8, ⟨0, 61, .arr (cA (AV.i IntKind.i64) (of b))⟩)]⟩) cx [] [5, 6, 7, 8, 9] [7, 8] (by kernel_rfl) (by kernel_rfl) trivial ?_
  refine q_seq_normal ?_
  refine st_block 0 (by kernel_rfl) ?_
  refine st_loop (X := Int × Int × Int × Vector Int (16 : Nat) × Vector Int (16 : Nat)) (fun x => ⟨[(5, .i .i64 (x.fst)), (6, .i .i64 (x.snd.fst)), (7, .ptr (7) (0) (0) (0)), (8, .ptr (8) (0) (0) (0)), (9, .i .i64 (x.snd.snd.fst))], [(7, ⟨0, 61, .arr (cA (AV.i IntKind.i64) x.snd.snd.snd.fst)⟩), (8, ⟨0, 61, .arr (cA (AV.i IntKind.i64) x.snd.snd.snd.snd)⟩)]⟩) (fun x ↦ dec41 x.fst x.snd.fst x.snd.snd.fst x.snd.snd.snd.fst x.snd.snd.snd.snd) (fun x ↦ inv41 (of a) (of b) x.fst x.snd.fst x.snd.snd.fst x.snd.snd.snd.fst x.snd.snd.snd.snd) [5, 6, 7, 8, 9] [7, 8] ((sumN (of a) (16 : Nat), sumN (of b) (16 : Nat), (0 : Int), of a, of b)) (by kernel_rfl) (by kernel_rfl) g0 ?_
  rintro ⟨x_0, y_1, r_2, f_3, g_4⟩ h_5
  obtain ⟨h_6, h_7, h_8, h_9, h_10⟩ : (0 : Int) ≤ r_2 ∧ r_2 ≤ (16 : Int) ∧ f_3 = of a ∧ g_4 = of b ∧ cmpV (of a) (of b) = if x_0 = y_1 then lexV (of a) (of b) ((16 : Int) - r_2).toNat else sgn (decide (x_0 < y_1)) := h_5
  refine st_seq (by kernel_rfl) ?_
  refine st_seq (by kernel_rfl) ?_
  refine st_join (σ' := ⟨[(5, .i .i64 (x_0)), (6, .i .i64 (y_1)), (7, .ptr (7) (0) (0) (0)), (8, .ptr (8) (0) (0) (0)), (9, .i .i64 (r_2)), (24, .b (decide (r_2 < (16 : Int) ∧ x_0 = y_1)))], [(7, ⟨0, 61, .arr (cA (AV.i IntKind.i64) f_3)⟩), (8, ⟨0, 61, .arr (cA (AV.i IntKind.i64) g_4)⟩)]⟩) ?_ ?_
  ·
    refine st_split (r_2 < (16 : Int)) (fun h_12 => ?_) (fun h_12 => ?_)
    ·
      refine st_reg (A := (AV.b (decide (r_2 < (16 : Int))) = AV.b true) ∧ (AV.b (x_0 == y_1) = AV.b (decide (x_0 = y_1))) ∧ (AV.b (decide (x_0 = y_1)) = AV.b (decide (r_2 < (16 : Int) ∧ x_0 = y_1)))) (σ' := ⟨[(5, .i .i64 (x_0)), (6, .i .i64 (y_1)), (7, .ptr (7) (0) (0) (0)), (8, .ptr (8) (0) (0) (0)), (9, .i .i64 (r_2)), (24, .b (decide (r_2 < (16 : Int) ∧ x_0 = y_1)))], [(7, ⟨0, 61, .arr (cA (AV.i IntKind.i64) f_3)⟩), (8, ⟨0, 61, .arr (cA (AV.i IntKind.i64) g_4)⟩)]⟩) cx [(1, { tell := some (.b (true)) }), (5, { tell := some (.b (decide (x_0 = y_1))) }), (6, { tell := some (.b (decide (r_2 < (16 : Int) ∧ x_0 = y_1))) })] [5, 6, 7, 8, 9, 24] [7, 8] (by kernel_rfl) (by kernel_rfl) ⟨(told_true h_12), (by kernel_rfl), (by simp only [eq_true h_12, told_simp1, told_simp2, and_true, true_and, and_false, false_and, or_true, true_or, or_false, false_or, not_true_eq_false, not_false_eq_true, decide_true, decide_false, Bool.decide_eq_true])⟩ ?_
      exact ⟨rfl, rfl⟩
    ·
      refine st_reg (A := (AV.b (decide (r_2 < (16 : Int))) = AV.b false) ∧ (AV.b false = AV.b (decide (r_2 < (16 : Int) ∧ x_0 = y_1)))) (σ' := ⟨[(5, .i .i64 (x_0)), (6, .i .i64 (y_1)), (7, .ptr (7) (0) (0) (0)), (8, .ptr (8) (0) (0) (0)), (9, .i .i64 (r_2)), (24, .b (decide (r_2 < (16 : Int) ∧ x_0 = y_1)))], [(7, ⟨0, 61, .arr (cA (AV.i IntKind.i64) f_3)⟩), (8, ⟨0, 61, .arr (cA (AV.i IntKind.i64) g_4)⟩)]⟩) cx [(1, { tell := some (.b (false)) }), (6, { tell := some (.b (decide (r_2 < (16 : Int) ∧ x_0 = y_1))) })] [5, 6, 7, 8, 9, 24] [7, 8] (by kernel_rfl) (by kernel_rfl) ⟨(told_false h_12), (by simp only [eq_false h_12, told_simp1, told_simp2, and_true, true_and, and_false, false_and, or_true, true_or, or_false, false_or, not_true_eq_false, not_false_eq_true, decide_true, decide_false, Bool.decide_eq_true])⟩ ?_
      exact ⟨rfl, rfl⟩
  ·
    refine q_seq_normal ?_
    refine st_dec (r_2 < (16 : Int) ∧ x_0 = y_1) (by kernel_rfl) (by kernel_rfl) (fun h_13 => ?_) (fun h_13 => ?_)
    ·
      refine st_skip (by kernel_rfl) ?_
      refine q_seq_normal ?_
      refine st_seq (by kernel_rfl) ?_
      refine st_block 1 (by kernel_rfl) ?_
      refine st_seq (by kernel_rfl) ?_
      refine st_reg (A := ((0 : Int) ≤ r_2) ∧ (r_2 < (↑(16 : Nat) : Int)) ∧ ((cA (AV.i IntKind.i64) f_3)[r_2.toNat * (1 : Nat) + 0]? = some (AV.i IntKind.i64 f_3[r_2.toNat]!))) (σ' := ⟨[(5, .i .i64 (f_3[r_2.toNat]!)), (7, .ptr (7) (0) (0) (0)), (8, .ptr (8) (0) (0) (0)), (9, .i .i64 (r_2))], [(7, ⟨0, 61, .arr (cA (AV.i IntKind.i64) f_3)⟩), (8, ⟨0, 61, .arr (cA (AV.i IntKind.i64) g_4)⟩)]⟩) cx [(2, { row := [.i .i64 (f_3[r_2.toNat]!)] })] [5, 7, 8, 9] [7, 8] (by kernel_rfl) (by kernel_rfl) ⟨(by (with_reducible assumption)), (by omega), (by (simp only [Nat.mul_one, Nat.add_zero, Nat.zero_add]; with_reducible refine get_cA ?_; omega))⟩ ?_
      refine q_seq_normal ?_
      refine st_reg (A := ((0 : Int) ≤ r_2) ∧ (r_2 < (↑(16 : Nat) : Int)) ∧ ((cA (AV.i IntKind.i64) g_4)[r_2.toNat * (1 : Nat) + 0]? = some (AV.i IntKind.i64 g_4[r_2.toNat]!))) (σ' := ⟨[(5, .i .i64 (f_3[r_2.toNat]!)), (7, .ptr (7) (0) (0) (0)), (8, .ptr (8) (0) (0) (0)), (9, .i .i64 (r_2)), (6, .i .i64 (g_4[r_2.toNat]!))], [(7, ⟨0, 61, .arr (cA (AV.i IntKind.i64) f_3)⟩), (8, ⟨0, 61, .arr (cA (AV.i IntKind.i64) g_4)⟩)]⟩) cx [(2, { row := [.i .i64 (g_4[r_2.toNat]!)] })] [5, 7, 8, 9, 6] [7, 8] (by kernel_rfl) (by kernel_rfl) ⟨(by (with_reducible assumption)), (by omega), (by (simp only [Nat.mul_one, Nat.add_zero, Nat.zero_add]; with_reducible refine get_cA ?_; omega))⟩ ?_
      refine q_blk_normal ?_
      refine q_seq_normal ?_
      refine st_reg (A := (AV.i IntKind.i64 (IntKind.i64.wrap (r_2 + (1 : Int))) = AV.i IntKind.i64 (r_2 + (1 : Int)))) (σ' := ⟨[(5, .i .i64 (f_3[r_2.toNat]!)), (7, .ptr (7) (0) (0) (0)), (8, .ptr (8) (0) (0) (0)), (9, .i .i64 (r_2 + (1 : Int))), (6, .i .i64 (g_4[r_2.toNat]!))], [(7, ⟨0, 61, .arr (cA (AV.i IntKind.i64) f_3)⟩), (8, ⟨0, 61, .arr (cA (AV.i IntKind.i64) g_4)⟩)]⟩) cx [(1, { tell := some (.i .i64 (r_2 + (1 : Int))) })] [5, 7, 8, 9, 6] [7, 8] (by kernel_rfl) (by kernel_rfl) (told_i64 (by omega) (by omega)) ?_
      refine q_seq_normal ?_
      exact loop_next ((f_3[r_2.toNat]!, g_4[r_2.toNat]!, r_2 + (1 : Int), f_3, g_4)) (by kernel_rfl) (show ((16 : Int) - (r_2 + (1 : Int))).toNat < ((16 : Int) - r_2).toNat from (by omega)) (g1 x_0 y_1 r_2 f_3 g_4 h_6 h_7 h_8 h_9 h_10 h_13)
    ·
      refine st_exit 0 (by kernel_rfl) ?_
      refine q_seq_exit ?_
      refine q_seq_exit ?_
      refine q_blk_hit ?_
      refine q_seq_normal ?_
      refine st_seq (by kernel_rfl) ?_
      refine st_seq (by kernel_rfl) ?_
      refine st_reg (A := (AV.b (decide (x_0 < y_1)) = AV.b (decide (x_0 < y_1)))) (σ' := ⟨[(5, .i .i64 (x_0)), (6, .i .i64 (y_1)), (35, .b (decide (x_0 < y_1)))], []⟩) cx [(2, { tell := some (.b (decide (x_0 < y_1))) })] [5, 6, 35] [] (by kernel_rfl) (by kernel_rfl) (by kernel_rfl) ?_
      refine q_seq_normal ?_
      refine st_dec (x_0 < y_1) (by kernel_rfl) (by kernel_rfl) (fun h_14 => ?_) (fun h_14 => ?_)
      ·
        refine st_seq (by kernel_rfl) ?_
        refine st_reg (A := True) (σ' := ⟨[(4, .i .i64 ((-1 : Int)))], []⟩) cx [] [4] [] (by kernel_rfl) (by kernel_rfl) trivial ?_
        refine q_seq_normal ?_
        refine st_ret (by kernel_rfl) ?_
        refine q_seq_ret ?_
        exact q_ret (r := .i .i64 ((-1 : Int))) (obl := []) (by kernel_rfl) trivial (AVle.eq (g2 x_0 y_1 r_2 f_3 g_4 h_6 h_7 h_8 h_9 h_10 h_13 h_14))
      ·
        refine st_skip (by kernel_rfl) ?_
        refine q_seq_normal ?_
        refine st_seq (by kernel_rfl) ?_
        refine st_seq (by kernel_rfl) ?_
        refine st_reg (A := (AV.b (decide (x_0 > y_1)) = AV.b (decide (y_1 < x_0)))) (σ' := ⟨[(38, .b (decide (y_1 < x_0)))], []⟩) cx [(2, { tell := some (.b (decide (y_1 < x_0))) })] [38] [] (by kernel_rfl) (by kernel_rfl) (by kernel_rfl) ?_
        refine q_seq_normal ?_
        refine st_dec (y_1 < x_0) (by kernel_rfl) (by kernel_rfl) (fun h_15 => ?_) (fun h_15 => ?_)
        ·
          refine st_seq (by kernel_rfl) ?_
          refine st_reg (A := True) (σ' := ⟨[(4, .i .i64 ((1 : Int)))], []⟩) cx [] [4] [] (by kernel_rfl) (by kernel_rfl) trivial ?_
          refine q_seq_normal ?_
          refine st_ret (by kernel_rfl) ?_
          refine q_seq_ret ?_
          exact q_ret (r := .i .i64 ((1 : Int))) (obl := []) (by kernel_rfl) trivial (AVle.eq (g3 x_0 y_1 r_2 f_3 g_4 h_6 h_7 h_8 h_9 h_10 h_13 h_14 h_15))
        ·
          refine st_skip (by kernel_rfl) ?_
          refine q_seq_normal ?_
          refine st_seq (by kernel_rfl) ?_
          refine st_reg (A := True) (σ' := ⟨[(4, .i .i64 ((0 : Int)))], []⟩) cx [] [4] [] (by kernel_rfl) (by kernel_rfl) trivial ?_
          refine q_seq_normal ?_
          refine st_ret (by kernel_rfl) ?_
          exact q_ret (r := .i .i64 ((0 : Int))) (obl := []) (by kernel_rfl) trivial (AVle.eq (g4 x_0 y_1 r_2 f_3 g_4 h_6 h_7 h_8 h_9 h_10 h_13 h_14 h_15))
theorem con41 (a b : List Int) : Con Try.prog 41 [.sl (a.map c3), .sl (b.map c3)] (.i .i64 (cmpV (of a) (of b))) :=
  by
  refine walk41 a b ⟨by omega, by omega, rfl, rfl, rfl⟩ (fun x y r f g h0 h1 h2 h3 h4 k0 => ?_) ?_ ?_ ?_
  · subst h2 h3; exact ⟨by omega, by omega, rfl, rfl, by rw [h4, if_pos k0.2, lexV_step h0 k0.1]⟩
  · intro x y r f g h0 h1 h2 h3 h4 k0 k1; rw [h4, if_neg (by omega), decide_eq_true k1]; rfl
  · intro x y r f g h0 h1 h2 h3 h4 k0 k1 k2; rw [h4, if_neg (by omega), decide_eq_false k1]; rfl
  · intro x y r f g h0 h1 h2 h3 h4 k0 k1 k2; have : r = 16 := by omega
    subst this; rw [h4, if_pos (by omega)]; rfl
theorem walk39 (a : List Int) (b : List Int)
    (g0 : inv39 (of a) (of b) (0 : Int) (of a) (of b) [])
    (g1 : ∀ (i_0 : Int) (a_1 b_2 : Vector Int (16 : Nat)) (l_3 : List Span), (0 : Int) ≤ i_0 → i_0 ≤ (16 : Int) → a_1 = of a → b_2 = of b → l_3 = behN (of a) (of b) i_0.toNat → l_3.length ≤ i_0.toNat → i_0 < (16 : Int) → a_1[i_0.toNat]! < b_2[i_0.toNat]! → (-9223372036854775808 : Int) ≤ a_1[i_0.toNat]! + (1 : Int))
    (g2 : ∀ (i_0 : Int) (a_1 b_2 : Vector Int (16 : Nat)) (l_3 : List Span), (0 : Int) ≤ i_0 → i_0 ≤ (16 : Int) → a_1 = of a → b_2 = of b → l_3 = behN (of a) (of b) i_0.toNat → l_3.length ≤ i_0.toNat → i_0 < (16 : Int) → a_1[i_0.toNat]! < b_2[i_0.toNat]! → a_1[i_0.toNat]! + (1 : Int) ≤ (9223372036854775807 : Int))
    (g3 : ∀ (i_0 : Int) (a_1 b_2 : Vector Int (16 : Nat)) (l_3 : List Span), (0 : Int) ≤ i_0 → i_0 ≤ (16 : Int) → a_1 = of a → b_2 = of b → l_3 = behN (of a) (of b) i_0.toNat → l_3.length ≤ i_0.toNat → i_0 < (16 : Int) → a_1[i_0.toNat]! < b_2[i_0.toNat]! → inv39 (of a) (of b) (i_0 + (1 : Int)) a_1 b_2 (l_3 ++ [{ rep := i_0, lo := a_1[i_0.toNat]! + (1 : Int), hi := b_2[i_0.toNat]! : Span }]))
    (g4 : ∀ (i_0 : Int) (a_1 b_2 : Vector Int (16 : Nat)) (l_3 : List Span), (0 : Int) ≤ i_0 → i_0 ≤ (16 : Int) → a_1 = of a → b_2 = of b → l_3 = behN (of a) (of b) i_0.toNat → l_3.length ≤ i_0.toNat → i_0 < (16 : Int) → ¬a_1[i_0.toNat]! < b_2[i_0.toNat]! → inv39 (of a) (of b) (i_0 + (1 : Int)) a_1 b_2 l_3)
    (g5 : ∀ (i_0 : Int) (a_1 b_2 : Vector Int (16 : Nat)) (l_3 : List Span), (0 : Int) ≤ i_0 → i_0 ≤ (16 : Int) → a_1 = of a → b_2 = of b → l_3 = behN (of a) (of b) i_0.toNat → l_3.length ≤ i_0.toNat → ¬i_0 < (16 : Int) → AV.sl (List.map c53 l_3) = AV.sl (List.map c53 (behN (of a) (of b) (16 : Nat)))) :
    Con Try.prog (39 : FuncId) [AV.sl (List.map c3 a), AV.sl (List.map c3 b)] (AV.sl (List.map c53 (behN (of a) (of b) (16 : Nat)))) := by
  refine con_lens 0 (c3) (a) (by kernel_rfl) Go.Proofs.Try.func39 (by kernel_rfl) fun hl_0 => ?_
  refine con_lens 1 (c3) (b) (by kernel_rfl) Go.Proofs.Try.func39 (by kernel_rfl) fun hl_1 => ?_
  refine st_con tab_ok (by kernel_rfl) [.tmp 4] 37 Go.Proofs.Try.func39 (by kernel_rfl) (by kernel_rfl) ?_
  intro e0 cx
  refine st_seq (by kernel_rfl) ?_
  refine st_reg (A := True) (σ' := ⟨[(0, .sl (List.map c3 a)), (1, .sl (List.map c3 b))], []⟩) cx [] [0, 1] [] (by kernel_rfl) (by kernel_rfl) trivial ?_
  refine q_seq_normal ?_
  refine st_seq (by kernel_rfl) ?_
  refine st_reg (A := (Con Try.prog (49 : FuncId) [AV.sl (List.map c3 a)] (AV.agg (c62 (of a)))) ∧ (Con Try.prog (49 : FuncId) [AV.sl (List.map c3 b)] (AV.agg (c62 (of b)))) ∧ ((cA (AV.i IntKind.i64) (of a)).length = (cA (AV.i IntKind.i64) (Vector.replicate (16 : Nat) (0 : Int))).length) ∧ ((cA (AV.i IntKind.i64) (of a)).length = (16 : Nat)) ∧ ((cA (AV.i IntKind.i64) (of b)).length = (cA (AV.i IntKind.i64) (Vector.replicate (16 : Nat) (0 : Int))).length) ∧ ((cA (AV.i IntKind.i64) (of b)).length = (16 : Nat))) (σ' := ⟨[(5, .ptr (5) (0) (0) (0)), (6, .ptr (6) (0) (0) (0))], [(5, ⟨0, 62, .arr (cA (AV.i IntKind.i64) (of a))⟩), (6, ⟨0, 62, .arr (cA (AV.i IntKind.i64) (of b))⟩)]⟩) cx [(1, { val := some (.agg (cA (AV.i IntKind.i64) (of a))) }), (3, { val := some (.agg (cA (AV.i IntKind.i64) (of b))) })] [5, 6] [5, 6] (by kernel_rfl) (by kernel_rfl) ⟨(con49 (a)), (con49 (b)), (by kernel_rfl), (by kernel_rfl), (by kernel_rfl), (by kernel_rfl)⟩ ?_
  refine q_seq_normal ?_
  refine st_seq (by kernel_rfl) ?_
  refine st_reg (A := True) (σ' := ⟨[(5, .ptr (5) (0) (0) (0)), (6, .ptr (6) (0) (0) (0)), (7, .nl)], [(5, ⟨0, 62, .arr (cA (AV.i IntKind.i64) (of a))⟩), (6, ⟨0, 62, .arr (cA (AV.i IntKind.i64) (of b))⟩)]⟩) cx [] [5, 6, 7] [5, 6] (by kernel_rfl) (by kernel_rfl) trivial ?_
  refine q_seq_normal ?_
  refine st_seq (by kernel_rfl) ?_
  refine st_seq (by kernel_rfl) ?_
  refine st_reg (A := True) (σ' := ⟨[(5, .ptr (5) (0) (0) (0)), (6, .ptr (6) (0) (0) (0)), (7, .nl), (13, .i .i64 ((0 : Int)))], [(5, ⟨0, 62, .arr (cA (AV.i IntKind.i64) (of a))⟩), (6, ⟨0, 62, .arr (cA (AV.i IntKind.i64) (of b))⟩)]⟩) cx [] [5, 6, 7, 13] [5, 6] (by kernel_rfl) (by kernel_rfl) trivial ?_
  refine q_seq_normal ?_
  refine st_block 0 (by kernel_rfl) ?_
  refine awp_adopt 7 1007 53 3 (σ' := ⟨[(5, .ptr (5) (0) (0) (0)), (6, .ptr (6) (0) (0) (0)), (7, .own 1007 0), (13, .i .i64 ((0 : Int)))], [(5, ⟨0, 62, .arr (cA (AV.i IntKind.i64) (of a))⟩), (6, ⟨0, 62, .arr (cA (AV.i IntKind.i64) (of b))⟩), (1007, ⟨0, 53, .row 3 (List.map c53 [])⟩)]⟩) (by kernel_rfl) ?_
  refine st_loop (X := Int × Vector Int (16 : Nat) × Vector Int (16 : Nat) × List Span) (fun x => ⟨[(5, .ptr (5) (0) (0) (0)), (6, .ptr (6) (0) (0) (0)), (7, .own 1007 0), (13, .i .i64 (x.fst))], [(5, ⟨0, 62, .arr (cA (AV.i IntKind.i64) x.snd.fst)⟩), (6, ⟨0, 62, .arr (cA (AV.i IntKind.i64) x.snd.snd.fst)⟩), (1007, ⟨0, 53, .row 3 (List.map c53 x.snd.snd.snd)⟩)]⟩) (fun x ↦ dec39 x.fst x.snd.fst x.snd.snd.fst x.snd.snd.snd) (fun x ↦ inv39 (of a) (of b) x.fst x.snd.fst x.snd.snd.fst x.snd.snd.snd) [5, 6, 7, 13] [5, 6, 1007] (((0 : Int), of a, of b, [])) (by kernel_rfl) (by kernel_rfl) g0 ?_
  rintro ⟨i_0, a_1, b_2, l_3⟩ h_4
  obtain ⟨h_5, h_6, h_7, h_8, h_9, h_10⟩ : (0 : Int) ≤ i_0 ∧ i_0 ≤ (16 : Int) ∧ a_1 = of a ∧ b_2 = of b ∧ l_3 = behN (of a) (of b) i_0.toNat ∧ l_3.length ≤ i_0.toNat := h_4
  refine st_seq (by kernel_rfl) ?_
  refine st_reg (A := (AV.b (decide (i_0 < (16 : Int))) = AV.b (decide (i_0 < (16 : Int))))) (σ' := ⟨[(5, .ptr (5) (0) (0) (0)), (6, .ptr (6) (0) (0) (0)), (7, .own 1007 0), (13, .i .i64 (i_0)), (14, .b (decide (i_0 < (16 : Int))))], [(5, ⟨0, 62, .arr (cA (AV.i IntKind.i64) a_1)⟩), (6, ⟨0, 62, .arr (cA (AV.i IntKind.i64) b_2)⟩), (1007, ⟨0, 53, .row 3 (List.map c53 l_3)⟩)]⟩) cx [(0, { tell := some (.b (decide (i_0 < (16 : Int)))) })] [5, 6, 7, 13, 14] [5, 6, 1007] (by kernel_rfl) (by kernel_rfl) (by kernel_rfl) ?_
  refine q_seq_normal ?_
  refine st_seq (by kernel_rfl) ?_
  refine st_dec (i_0 < (16 : Int)) (by kernel_rfl) (by kernel_rfl) (fun h_11 => ?_) (fun h_11 => ?_)
  ·
    refine st_skip (by kernel_rfl) ?_
    refine q_seq_normal ?_
    refine st_seq (by kernel_rfl) ?_
    refine st_block 1 (by kernel_rfl) ?_
    refine st_seq (by kernel_rfl) ?_
    refine st_reg (A := True) (σ' := ⟨[(5, .ptr (5) (0) (0) (0)), (6, .ptr (6) (0) (0) (0)), (7, .own 1007 0), (13, .i .i64 (i_0)), (8, .i .i64 (i_0))], [(5, ⟨0, 62, .arr (cA (AV.i IntKind.i64) a_1)⟩), (6, ⟨0, 62, .arr (cA (AV.i IntKind.i64) b_2)⟩), (1007, ⟨0, 53, .row 3 (List.map c53 l_3)⟩)]⟩) cx [] [5, 6, 7, 13, 8] [5, 6, 1007] (by kernel_rfl) (by kernel_rfl) trivial ?_
    refine q_seq_normal ?_
    refine st_seq (by kernel_rfl) ?_
    refine st_any (A := ((0 : Int) ≤ i_0) ∧ (i_0 < (↑(16 : Nat) : Int)) ∧ ((cA (AV.i IntKind.i64) b_2)[i_0.toNat * (1 : Nat) + 0]? = some (AV.i IntKind.i64 b_2[i_0.toNat]!)) ∧ ((0 : Int) ≤ i_0) ∧ (i_0 < (↑(16 : Nat) : Int)) ∧ ((cA (AV.i IntKind.i64) a_1)[i_0.toNat * (1 : Nat) + 0]? = some (AV.i IntKind.i64 a_1[i_0.toNat]!)) ∧ (AV.b (decide (b_2[i_0.toNat]! > a_1[i_0.toNat]!)) = AV.b (decide (a_1[i_0.toNat]! < b_2[i_0.toNat]!)))) (σ' := ⟨[(5, .ptr (5) (0) (0) (0)), (6, .ptr (6) (0) (0) (0)), (7, .own 1007 0), (13, .i .i64 (i_0)), (8, .i .i64 (i_0)), (22, .b (decide (a_1[i_0.toNat]! < b_2[i_0.toNat]!)))], [(5, ⟨0, 62, .arr (cA (AV.i IntKind.i64) a_1)⟩), (6, ⟨0, 62, .arr (cA (AV.i IntKind.i64) b_2)⟩), (1007, ⟨0, 53, .row 3 (List.map c53 l_3)⟩)]⟩) cx [(2, { row := [.i .i64 (b_2[i_0.toNat]!)] }), (5, { row := [.i .i64 (a_1[i_0.toNat]!)] }), (6, { tell := some (.b (decide (a_1[i_0.toNat]! < b_2[i_0.toNat]!))) })] [5, 6, 7, 13, 8, 22] [5, 6, 1007] (by kernel_rfl) (by kernel_rfl) ⟨(by (with_reducible assumption)), (by omega), (by (simp only [Nat.mul_one, Nat.add_zero, Nat.zero_add]; with_reducible refine get_cA ?_; omega)), (by (with_reducible assumption)), (by omega), (by (simp only [Nat.mul_one, Nat.add_zero, Nat.zero_add]; with_reducible refine get_cA ?_; omega)), (by kernel_rfl)⟩ ?_
    refine q_seq_normal ?_
    refine st_dec (a_1[i_0.toNat]! < b_2[i_0.toNat]!) (by kernel_rfl) (by kernel_rfl) (fun h_12 => ?_) (fun h_12 => ?_)
    ·
      refine st_any (A := ((0 : Int) ≤ i_0) ∧ (i_0 < (↑(16 : Nat) : Int)) ∧ ((cA (AV.i IntKind.i64) a_1)[i_0.toNat * (1 : Nat) + 0]? = some (AV.i IntKind.i64 a_1[i_0.toNat]!)) ∧ (AV.i IntKind.i64 (IntKind.i64.wrap (a_1[i_0.toNat]! + (1 : Int))) = AV.i IntKind.i64 (a_1[i_0.toNat]! + (1 : Int))) ∧ ((0 : Int) ≤ i_0) ∧ (i_0 < (↑(16 : Nat) : Int)) ∧ ((cA (AV.i IntKind.i64) b_2)[i_0.toNat * (1 : Nat) + 0]? = some (AV.i IntKind.i64 b_2[i_0.toNat]!)) ∧ (53 = (53 : Nat)) ∧ ((3 : Nat) = 3) ∧ ([AV.i IntKind.i64 (0 : Int), AV.i IntKind.i64 (0 : Int), AV.i IntKind.i64 (0 : Int)].length = (3 : Nat)) ∧ (∀ (r : List AV), r ∈ List.map c53 [{ rep := i_0, lo := a_1[i_0.toNat]! + (1 : Int), hi := b_2[i_0.toNat]! : Span }] → r.length = 3) ∧ ((List.map c53 l_3).length + (List.map c53 [{ rep := i_0, lo := a_1[i_0.toNat]! + (1 : Int), hi := b_2[i_0.toNat]! : Span }]).length ≤ maxLen) ∧ (((List.map c53 l_3).length + (List.map c53 [{ rep := i_0, lo := a_1[i_0.toNat]! + (1 : Int), hi := b_2[i_0.toNat]! : Span }]).length) * (24 : Nat) ≤ (140737488355328 : Nat)) ∧ (List.map c53 l_3 ++ List.map c53 [{ rep := i_0, lo := a_1[i_0.toNat]! + (1 : Int), hi := b_2[i_0.toNat]! : Span }] = List.map c53 (l_3 ++ [{ rep := i_0, lo := a_1[i_0.toNat]! + (1 : Int), hi := b_2[i_0.toNat]! : Span }]))) (σ' := ⟨[(5, .ptr (5) (0) (0) (0)), (6, .ptr (6) (0) (0) (0)), (7, .own 1007 0), (13, .i .i64 (i_0))], [(5, ⟨0, 62, .arr (cA (AV.i IntKind.i64) a_1)⟩), (6, ⟨0, 62, .arr (cA (AV.i IntKind.i64) b_2)⟩), (1007, ⟨0, 53, .row 3 (List.map c53 (l_3 ++ [{ rep := i_0, lo := a_1[i_0.toNat]! + (1 : Int), hi := b_2[i_0.toNat]! : Span }]))⟩)]⟩) cx [(4, { row := [.i .i64 (a_1[i_0.toNat]!)] }), (5, { tell := some (.i .i64 (a_1[i_0.toNat]! + (1 : Int))) }), (8, { row := [.i .i64 (b_2[i_0.toNat]!)] }), (11, { rows := some (List.map c53 (l_3 ++ [{ rep := i_0, lo := a_1[i_0.toNat]! + (1 : Int), hi := b_2[i_0.toNat]! : Span }])) })] [5, 6, 7, 13] [5, 6, 1007] (by kernel_rfl) (by kernel_rfl) ⟨(by (with_reducible assumption)), (by omega), (by (simp only [Nat.mul_one, Nat.add_zero, Nat.zero_add]; with_reducible refine get_cA ?_; omega)), (told_i64 (g1 i_0 a_1 b_2 l_3 h_5 h_6 h_7 h_8 h_9 h_10 h_11 h_12) (g2 i_0 a_1 b_2 l_3 h_5 h_6 h_7 h_8 h_9 h_10 h_11 h_12)), (by (with_reducible assumption)), (by omega), (by (simp only [Nat.mul_one, Nat.add_zero, Nat.zero_add]; with_reducible refine get_cA ?_; omega)), (by kernel_rfl), (by kernel_rfl), (by kernel_rfl), (by (with_reducible refine len_map (fun _ => ?_) _; kernel_rfl)), (by (simp only [Go.maxLen, List.length_map, List.length_append, List.length_cons, List.length_nil]; omega)), (by (simp only [Go.maxLen, List.length_map, List.length_append, List.length_cons, List.length_nil]; omega)), (by (with_reducible refine app_map ?_; kernel_rfl))⟩ ?_
      refine q_blk_normal ?_
      refine q_seq_normal ?_
      refine st_reg (A := (AV.i IntKind.i64 (IntKind.i64.wrap (i_0 + (1 : Int))) = AV.i IntKind.i64 (i_0 + (1 : Int)))) (σ' := ⟨[(5, .ptr (5) (0) (0) (0)), (6, .ptr (6) (0) (0) (0)), (7, .own 1007 0), (13, .i .i64 (i_0 + (1 : Int)))], [(5, ⟨0, 62, .arr (cA (AV.i IntKind.i64) a_1)⟩), (6, ⟨0, 62, .arr (cA (AV.i IntKind.i64) b_2)⟩), (1007, ⟨0, 53, .row 3 (List.map c53 (l_3 ++ [{ rep := i_0, lo := a_1[i_0.toNat]! + (1 : Int), hi := b_2[i_0.toNat]! : Span }]))⟩)]⟩) cx [(0, { tell := some (.i .i64 (i_0 + (1 : Int))) })] [5, 6, 7, 13] [5, 6, 1007] (by kernel_rfl) (by kernel_rfl) (told_i64 (by omega) (by omega)) ?_
      refine q_seq_normal ?_
      exact loop_next ((i_0 + (1 : Int), a_1, b_2, l_3 ++ [{ rep := i_0, lo := a_1[i_0.toNat]! + (1 : Int), hi := b_2[i_0.toNat]! : Span }])) (by kernel_rfl) (show ((16 : Int) - (i_0 + (1 : Int))).toNat < ((16 : Int) - i_0).toNat from (by omega)) (g3 i_0 a_1 b_2 l_3 h_5 h_6 h_7 h_8 h_9 h_10 h_11 h_12)
    ·
      refine st_skip (by kernel_rfl) ?_
      refine q_blk_normal ?_
      refine q_seq_normal ?_
      refine st_reg (A := (AV.i IntKind.i64 (IntKind.i64.wrap (i_0 + (1 : Int))) = AV.i IntKind.i64 (i_0 + (1 : Int)))) (σ' := ⟨[(5, .ptr (5) (0) (0) (0)), (6, .ptr (6) (0) (0) (0)), (7, .own 1007 0), (13, .i .i64 (i_0 + (1 : Int)))], [(5, ⟨0, 62, .arr (cA (AV.i IntKind.i64) a_1)⟩), (6, ⟨0, 62, .arr (cA (AV.i IntKind.i64) b_2)⟩), (1007, ⟨0, 53, .row 3 (List.map c53 l_3)⟩)]⟩) cx [(0, { tell := some (.i .i64 (i_0 + (1 : Int))) })] [5, 6, 7, 13] [5, 6, 1007] (by kernel_rfl) (by kernel_rfl) (told_i64 (by omega) (by omega)) ?_
      refine q_seq_normal ?_
      exact loop_next ((i_0 + (1 : Int), a_1, b_2, l_3)) (by kernel_rfl) (show ((16 : Int) - (i_0 + (1 : Int))).toNat < ((16 : Int) - i_0).toNat from (by omega)) (g4 i_0 a_1 b_2 l_3 h_5 h_6 h_7 h_8 h_9 h_10 h_11 h_12)
  ·
    refine st_exit 0 (by kernel_rfl) ?_
    refine q_seq_exit ?_
    refine q_seq_exit ?_
    refine q_blk_hit ?_
    refine q_seq_normal ?_
    refine st_seq (by kernel_rfl) ?_
    refine st_reg (A := True) (σ' := ⟨[(4, .own 1007 0)], [(1007, ⟨0, 53, .row 3 (List.map c53 l_3)⟩)]⟩) cx [] [4] [1007] (by kernel_rfl) (by kernel_rfl) trivial ?_
    refine q_seq_normal ?_
    refine st_ret (by kernel_rfl) ?_
    exact q_ret (r := .sl (List.map c53 l_3)) (obl := []) (by kernel_rfl) trivial (AVle.eq (g5 i_0 a_1 b_2 l_3 h_5 h_6 h_7 h_8 h_9 h_10 h_11))
theorem con39 (a b : List Int) : Con Try.prog 39 [.sl (a.map c3), .sl (b.map c3)] (.sl ((behN (of a) (of b) 16).map c53)) :=
  by
  have key : ∀ i : Int, 0 ≤ i → i < 16 → 0 ≤ (of a)[i.toNat]! ∧ (of a)[i.toNat]! ≤ 1000000000 := fun i h0 h1 => of_range a _ (by omega)
  refine walk39 a b ⟨by omega, by omega, rfl, rfl, rfl, by simp⟩ ?_ ?_ ?_ ?_ ?_
  · intro i x y l h0 h1 h2 h3 h4 h5 k0 k1; subst h2; have := key i h0 k0; omega
  · intro i x y l h0 h1 h2 h3 h4 h5 k0 k1; subst h2; have := key i h0 k0; omega
  · intro i x y l h0 h1 h2 h3 h4 h5 k0 k1; subst h2 h3
    exact ⟨by omega, by omega, rfl, rfl, by rw [behN_step h0, if_pos k1, h4], by simp only [List.length_append, List.length_cons, List.length_nil]; omega⟩
  · intro i x y l h0 h1 h2 h3 h4 h5 k0 k1; subst h2 h3
    exact ⟨by omega, by omega, rfl, rfl, by rw [behN_step h0, if_neg k1, h4], by omega⟩
  · intro i x y l h0 h1 h2 h3 h4 h5 k0; have : i = 16 := by omega
    subst this; rw [h4]; rfl
theorem walk42 (a : List Int) (b : List Int)
    (g0 : inv39 (of a) (of b) (0 : Int) (of a) (of b) [])
    (g1 : ∀ (i_0 : Int) (a_1 b_2 : Vector Int (16 : Nat)) (l_3 : List Span), (0 : Int) ≤ i_0 → i_0 ≤ (16 : Int) → a_1 = of a → b_2 = of b → l_3 = behN (of a) (of b) i_0.toNat → l_3.length ≤ i_0.toNat → i_0 < (16 : Int) → a_1[i_0.toNat]! < b_2[i_0.toNat]! → (-9223372036854775808 : Int) ≤ a_1[i_0.toNat]! + (1 : Int))
    (g2 : ∀ (i_0 : Int) (a_1 b_2 : Vector Int (16 : Nat)) (l_3 : List Span), (0 : Int) ≤ i_0 → i_0 ≤ (16 : Int) → a_1 = of a → b_2 = of b → l_3 = behN (of a) (of b) i_0.toNat → l_3.length ≤ i_0.toNat → i_0 < (16 : Int) → a_1[i_0.toNat]! < b_2[i_0.toNat]! → a_1[i_0.toNat]! + (1 : Int) ≤ (9223372036854775807 : Int))
    (g3 : ∀ (i_0 : Int) (a_1 b_2 : Vector Int (16 : Nat)) (l_3 : List Span), (0 : Int) ≤ i_0 → i_0 ≤ (16 : Int) → a_1 = of a → b_2 = of b → l_3 = behN (of a) (of b) i_0.toNat → l_3.length ≤ i_0.toNat → i_0 < (16 : Int) → a_1[i_0.toNat]! < b_2[i_0.toNat]! → inv39 (of a) (of b) (i_0 + (1 : Int)) a_1 b_2 (l_3 ++ [{ rep := i_0, lo := a_1[i_0.toNat]! + (1 : Int), hi := b_2[i_0.toNat]! : Span }]))
    (g4 : ∀ (i_0 : Int) (a_1 b_2 : Vector Int (16 : Nat)) (l_3 : List Span), (0 : Int) ≤ i_0 → i_0 ≤ (16 : Int) → a_1 = of a → b_2 = of b → l_3 = behN (of a) (of b) i_0.toNat → l_3.length ≤ i_0.toNat → i_0 < (16 : Int) → ¬a_1[i_0.toNat]! < b_2[i_0.toNat]! → inv39 (of a) (of b) (i_0 + (1 : Int)) a_1 b_2 l_3)
    (g5 : ∀ (i_0 : Int) (a_1 b_2 : Vector Int (16 : Nat)) (l_3 : List Span), (0 : Int) ≤ i_0 → i_0 ≤ (16 : Int) → a_1 = of a → b_2 = of b → l_3 = behN (of a) (of b) i_0.toNat → l_3.length ≤ i_0.toNat → ¬i_0 < (16 : Int) → AV.sl (List.map c53 l_3) = AV.sl (List.map c53 (behN (of a) (of b) (16 : Nat)))) :
    Con Try.prog (42 : FuncId) [AV.sl (List.map c3 a), AV.sl (List.map c3 b)] (AV.sl (List.map c53 (behN (of a) (of b) (16 : Nat)))) := by
  refine con_lens 0 (c3) (a) (by kernel_rfl) Go.Proofs.Try.func42 (by kernel_rfl) fun hl_0 => ?_
  refine con_lens 1 (c3) (b) (by kernel_rfl) Go.Proofs.Try.func42 (by kernel_rfl) fun hl_1 => ?_
  refine st_con tab_ok (by kernel_rfl) [.tmp 4] 37 Go.Proofs.Try.func42 (by kernel_rfl) (by kernel_rfl) ?_
  intro e0 cx
  refine st_seq (by kernel_rfl) ?_
  refine st_reg (A := True) (σ' := ⟨[(0, .sl (List.map c3 a)), (1, .sl (List.map c3 b))], []⟩) cx [] [0, 1] [] (by kernel_rfl) (by kernel_rfl) trivial ?_
  refine q_seq_normal ?_
  refine st_seq (by kernel_rfl) ?_
  refine st_reg (A := (Con Try.prog (50 : FuncId) [AV.sl (List.map c3 a)] (AV.agg (c61 (of a)))) ∧ ((cA (AV.i IntKind.i64) (of a)).length = (cA (AV.i IntKind.i64) (Vector.replicate (16 : Nat) (0 : Int))).length) ∧ ((cA (AV.i IntKind.i64) (of a)).length = (16 : Nat))) (σ' := ⟨[(1, .sl (List.map c3 b)), (5, .ptr (5) (0) (0) (0))], [(5, ⟨0, 61, .arr (cA (AV.i IntKind.i64) (of a))⟩)]⟩) cx [(1, { val := some (.agg (cA (AV.i IntKind.i64) (of a))) })] [1, 5] [5] (by kernel_rfl) (by kernel_rfl) ⟨(con50 (a)), (by kernel_rfl), (by kernel_rfl)⟩ ?_
  refine q_seq_normal ?_
  refine st_seq (by kernel_rfl) ?_
  refine st_reg (A := (Con Try.prog (50 : FuncId) [AV.sl (List.map c3 b)] (AV.agg (c61 (of b)))) ∧ ((cA (AV.i IntKind.i64) (of b)).length = (cA (AV.i IntKind.i64) (Vector.replicate (16 : Nat) (0 : Int))).length) ∧ ((cA (AV.i IntKind.i64) (of b)).length = (16 : Nat))) (σ' := ⟨[(5, .ptr (5) (0) (0) (0)), (6, .ptr (6) (0) (0) (0))], [(5, ⟨0, 61, .arr (cA (AV.i IntKind.i64) (of a))⟩), (6, ⟨0, 61, .arr (cA (AV.i IntKind.i64) (of b))⟩)]⟩) cx [(1, { val := some (.agg (cA (AV.i IntKind.i64) (of b))) })] [5, 6] [5, 6] (by kernel_rfl) (by kernel_rfl) ⟨(con50 (b)), (by kernel_rfl), (by kernel_rfl)⟩ ?_
  refine q_seq_normal ?_
  refine st_seq (by kernel_rfl) ?_
  refine st_reg (A := True) (σ' := ⟨[(5, .ptr (5) (0) (0) (0)), (6, .ptr (6) (0) (0) (0)), (7, .nl)], [(5, ⟨0, 61, .arr (cA (AV.i IntKind.i64) (of a))⟩), (6, ⟨0, 61, .arr (cA (AV.i IntKind.i64) (of b))⟩)]⟩) cx [] [5, 6, 7] [5, 6] (by kernel_rfl) (by kernel_rfl) trivial ?_
  refine q_seq_normal ?_
  refine st_seq (by kernel_rfl) ?_
  refine st_seq (by kernel_rfl) ?_
  refine st_reg (A := True) (σ' := ⟨[(5, .ptr (5) (0) (0) (0)), (6, .ptr (6) (0) (0) (0)), (7, .nl), (8, .i .i64 ((0 : Int)))], [(5, ⟨0, 61, .arr (cA (AV.i IntKind.i64) (of a))⟩), (6, ⟨0, 61, .arr (cA (AV.i IntKind.i64) (of b))⟩)]⟩) cx [] [5, 6, 7, 8] [5, 6] (by kernel_rfl) (by kernel_rfl) trivial ?_
  refine q_seq_normal ?_
  refine st_block 0 (by kernel_rfl) ?_
  refine awp_adopt 7 1007 53 3 (σ' := ⟨[(5, .ptr (5) (0) (0) (0)), (6, .ptr (6) (0) (0) (0)), (7, .own 1007 0), (8, .i .i64 ((0 : Int)))], [(5, ⟨0, 61, .arr (cA (AV.i IntKind.i64) (of a))⟩), (6, ⟨0, 61, .arr (cA (AV.i IntKind.i64) (of b))⟩), (1007, ⟨0, 53, .row 3 (List.map c53 [])⟩)]⟩) (by kernel_rfl) ?_
  refine st_loop (X := Int × Vector Int (16 : Nat) × Vector Int (16 : Nat) × List Span) (fun x => ⟨[(5, .ptr (5) (0) (0) (0)), (6, .ptr (6) (0) (0) (0)), (7, .own 1007 0), (8, .i .i64 (x.fst))], [(5, ⟨0, 61, .arr (cA (AV.i IntKind.i64) x.snd.fst)⟩), (6, ⟨0, 61, .arr (cA (AV.i IntKind.i64) x.snd.snd.fst)⟩), (1007, ⟨0, 53, .row 3 (List.map c53 x.snd.snd.snd)⟩)]⟩) (fun x ↦ dec39 x.fst x.snd.fst x.snd.snd.fst x.snd.snd.snd) (fun x ↦ inv39 (of a) (of b) x.fst x.snd.fst x.snd.snd.fst x.snd.snd.snd) [5, 6, 7, 8] [5, 6, 1007] (((0 : Int), of a, of b, [])) (by kernel_rfl) (by kernel_rfl) g0 ?_
  rintro ⟨i_0, a_1, b_2, l_3⟩ h_4
  obtain ⟨h_5, h_6, h_7, h_8, h_9, h_10⟩ : (0 : Int) ≤ i_0 ∧ i_0 ≤ (16 : Int) ∧ a_1 = of a ∧ b_2 = of b ∧ l_3 = behN (of a) (of b) i_0.toNat ∧ l_3.length ≤ i_0.toNat := h_4
  refine st_seq (by kernel_rfl) ?_
  refine st_seq (by kernel_rfl) ?_
  refine st_reg (A := (AV.b (decide (i_0 < (16 : Int))) = AV.b (decide (i_0 < (16 : Int))))) (σ' := ⟨[(5, .ptr (5) (0) (0) (0)), (6, .ptr (6) (0) (0) (0)), (7, .own 1007 0), (8, .i .i64 (i_0)), (14, .b (decide (i_0 < (16 : Int))))], [(5, ⟨0, 61, .arr (cA (AV.i IntKind.i64) a_1)⟩), (6, ⟨0, 61, .arr (cA (AV.i IntKind.i64) b_2)⟩), (1007, ⟨0, 53, .row 3 (List.map c53 l_3)⟩)]⟩) cx [(1, { tell := some (.b (decide (i_0 < (16 : Int)))) })] [5, 6, 7, 8, 14] [5, 6, 1007] (by kernel_rfl) (by kernel_rfl) (by kernel_rfl) ?_
  refine q_seq_normal ?_
  refine st_dec (i_0 < (16 : Int)) (by kernel_rfl) (by kernel_rfl) (fun h_11 => ?_) (fun h_11 => ?_)
  ·
    refine st_skip (by kernel_rfl) ?_
    refine q_seq_normal ?_
    refine st_seq (by kernel_rfl) ?_
    refine st_block 1 (by kernel_rfl) ?_
    refine st_seq (by kernel_rfl) ?_
    refine st_any (A := ((0 : Int) ≤ i_0) ∧ (i_0 < (↑(16 : Nat) : Int)) ∧ ((cA (AV.i IntKind.i64) b_2)[i_0.toNat * (1 : Nat) + 0]? = some (AV.i IntKind.i64 b_2[i_0.toNat]!)) ∧ ((0 : Int) ≤ i_0) ∧ (i_0 < (↑(16 : Nat) : Int)) ∧ ((cA (AV.i IntKind.i64) a_1)[i_0.toNat * (1 : Nat) + 0]? = some (AV.i IntKind.i64 a_1[i_0.toNat]!)) ∧ (AV.b (decide (b_2[i_0.toNat]! > a_1[i_0.toNat]!)) = AV.b (decide (a_1[i_0.toNat]! < b_2[i_0.toNat]!)))) (σ' := ⟨[(5, .ptr (5) (0) (0) (0)), (6, .ptr (6) (0) (0) (0)), (7, .own 1007 0), (8, .i .i64 (i_0)), (23, .b (decide (a_1[i_0.toNat]! < b_2[i_0.toNat]!)))], [(5, ⟨0, 61, .arr (cA (AV.i IntKind.i64) a_1)⟩), (6, ⟨0, 61, .arr (cA (AV.i IntKind.i64) b_2)⟩), (1007, ⟨0, 53, .row 3 (List.map c53 l_3)⟩)]⟩) cx [(2, { row := [.i .i64 (b_2[i_0.toNat]!)] }), (5, { row := [.i .i64 (a_1[i_0.toNat]!)] }), (6, { tell := some (.b (decide (a_1[i_0.toNat]! < b_2[i_0.toNat]!))) })] [5, 6, 7, 8, 23] [5, 6, 1007] (by kernel_rfl) (by kernel_rfl) ⟨(by (with_reducible assumption)), (by omega), (by (simp only [Nat.mul_one, Nat.add_zero, Nat.zero_add]; with_reducible refine get_cA ?_; omega)), (by (with_reducible assumption)), (by omega), (by (simp only [Nat.mul_one, Nat.add_zero, Nat.zero_add]; with_reducible refine get_cA ?_; omega)), (by kernel_rfl)⟩ ?_
    refine q_seq_normal ?_
    refine st_dec (a_1[i_0.toNat]! < b_2[i_0.toNat]!) (by kernel_rfl) (by kernel_rfl) (fun h_12 => ?_) (fun h_12 => ?_)
    ·
      refine st_any (A := ((0 : Int) ≤ i_0) ∧ (i_0 < (↑(16 : Nat) : Int)) ∧ ((cA (AV.i IntKind.i64) a_1)[i_0.toNat * (1 : Nat) + 0]? = some (AV.i IntKind.i64 a_1[i_0.toNat]!)) ∧ (AV.i IntKind.i64 (IntKind.i64.wrap (a_1[i_0.toNat]! + (1 : Int))) = AV.i IntKind.i64 (a_1[i_0.toNat]! + (1 : Int))) ∧ ((0 : Int) ≤ i_0) ∧ (i_0 < (↑(16 : Nat) : Int)) ∧ ((cA (AV.i IntKind.i64) b_2)[i_0.toNat * (1 : Nat) + 0]? = some (AV.i IntKind.i64 b_2[i_0.toNat]!)) ∧ (53 = (53 : Nat)) ∧ ((3 : Nat) = 3) ∧ ([AV.i IntKind.i64 (0 : Int), AV.i IntKind.i64 (0 : Int), AV.i IntKind.i64 (0 : Int)].length = (3 : Nat)) ∧ (∀ (r : List AV), r ∈ List.map c53 [{ rep := i_0, lo := a_1[i_0.toNat]! + (1 : Int), hi := b_2[i_0.toNat]! : Span }] → r.length = 3) ∧ ((List.map c53 l_3).length + (List.map c53 [{ rep := i_0, lo := a_1[i_0.toNat]! + (1 : Int), hi := b_2[i_0.toNat]! : Span }]).length ≤ maxLen) ∧ (((List.map c53 l_3).length + (List.map c53 [{ rep := i_0, lo := a_1[i_0.toNat]! + (1 : Int), hi := b_2[i_0.toNat]! : Span }]).length) * (24 : Nat) ≤ (140737488355328 : Nat)) ∧ (List.map c53 l_3 ++ List.map c53 [{ rep := i_0, lo := a_1[i_0.toNat]! + (1 : Int), hi := b_2[i_0.toNat]! : Span }] = List.map c53 (l_3 ++ [{ rep := i_0, lo := a_1[i_0.toNat]! + (1 : Int), hi := b_2[i_0.toNat]! : Span }]))) (σ' := ⟨[(5, .ptr (5) (0) (0) (0)), (6, .ptr (6) (0) (0) (0)), (7, .own 1007 0), (8, .i .i64 (i_0))], [(5, ⟨0, 61, .arr (cA (AV.i IntKind.i64) a_1)⟩), (6, ⟨0, 61, .arr (cA (AV.i IntKind.i64) b_2)⟩), (1007, ⟨0, 53, .row 3 (List.map c53 (l_3 ++ [{ rep := i_0, lo := a_1[i_0.toNat]! + (1 : Int), hi := b_2[i_0.toNat]! : Span }]))⟩)]⟩) cx [(4, { row := [.i .i64 (a_1[i_0.toNat]!)] }), (5, { tell := some (.i .i64 (a_1[i_0.toNat]! + (1 : Int))) }), (8, { row := [.i .i64 (b_2[i_0.toNat]!)] }), (11, { rows := some (List.map c53 (l_3 ++ [{ rep := i_0, lo := a_1[i_0.toNat]! + (1 : Int), hi := b_2[i_0.toNat]! : Span }])) })] [5, 6, 7, 8] [5, 6, 1007] (by kernel_rfl) (by kernel_rfl) ⟨(by (with_reducible assumption)), (by omega), (by (simp only [Nat.mul_one, Nat.add_zero, Nat.zero_add]; with_reducible refine get_cA ?_; omega)), (told_i64 (g1 i_0 a_1 b_2 l_3 h_5 h_6 h_7 h_8 h_9 h_10 h_11 h_12) (g2 i_0 a_1 b_2 l_3 h_5 h_6 h_7 h_8 h_9 h_10 h_11 h_12)), (by (with_reducible assumption)), (by omega), (by (simp only [Nat.mul_one, Nat.add_zero, Nat.zero_add]; with_reducible refine get_cA ?_; omega)), (by kernel_rfl), (by kernel_rfl), (by kernel_rfl), (by (with_reducible refine len_map (fun _ => ?_) _; kernel_rfl)), (by (simp only [Go.maxLen, List.length_map, List.length_append, List.length_cons, List.length_nil]; omega)), (by (simp only [Go.maxLen, List.length_map, List.length_append, List.length_cons, List.length_nil]; omega)), (by (with_reducible refine app_map ?_; kernel_rfl))⟩ ?_
      refine q_blk_normal ?_
      refine q_seq_normal ?_
      refine st_reg (A := (AV.i IntKind.i64 (IntKind.i64.wrap (i_0 + (1 : Int))) = AV.i IntKind.i64 (i_0 + (1 : Int)))) (σ' := ⟨[(5, .ptr (5) (0) (0) (0)), (6, .ptr (6) (0) (0) (0)), (7, .own 1007 0), (8, .i .i64 (i_0 + (1 : Int)))], [(5, ⟨0, 61, .arr (cA (AV.i IntKind.i64) a_1)⟩), (6, ⟨0, 61, .arr (cA (AV.i IntKind.i64) b_2)⟩), (1007, ⟨0, 53, .row 3 (List.map c53 (l_3 ++ [{ rep := i_0, lo := a_1[i_0.toNat]! + (1 : Int), hi := b_2[i_0.toNat]! : Span }]))⟩)]⟩) cx [(1, { tell := some (.i .i64 (i_0 + (1 : Int))) })] [5, 6, 7, 8] [5, 6, 1007] (by kernel_rfl) (by kernel_rfl) (told_i64 (by omega) (by omega)) ?_
      refine q_seq_normal ?_
      exact loop_next ((i_0 + (1 : Int), a_1, b_2, l_3 ++ [{ rep := i_0, lo := a_1[i_0.toNat]! + (1 : Int), hi := b_2[i_0.toNat]! : Span }])) (by kernel_rfl) (show ((16 : Int) - (i_0 + (1 : Int))).toNat < ((16 : Int) - i_0).toNat from (by omega)) (g3 i_0 a_1 b_2 l_3 h_5 h_6 h_7 h_8 h_9 h_10 h_11 h_12)
    ·
      refine st_skip (by kernel_rfl) ?_
      refine q_blk_normal ?_
      refine q_seq_normal ?_
      refine st_reg (A := (AV.i IntKind.i64 (IntKind.i64.wrap (i_0 + (1 : Int))) = AV.i IntKind.i64 (i_0 + (1 : Int)))) (σ' := ⟨[(5, .ptr (5) (0) (0) (0)), (6, .ptr (6) (0) (0) (0)), (7, .own 1007 0), (8, .i .i64 (i_0 + (1 : Int)))], [(5, ⟨0, 61, .arr (cA (AV.i IntKind.i64) a_1)⟩), (6, ⟨0, 61, .arr (cA (AV.i IntKind.i64) b_2)⟩), (1007, ⟨0, 53, .row 3 (List.map c53 l_3)⟩)]⟩) cx [(1, { tell := some (.i .i64 (i_0 + (1 : Int))) })] [5, 6, 7, 8] [5, 6, 1007] (by kernel_rfl) (by kernel_rfl) (told_i64 (by omega) (by omega)) ?_
      refine q_seq_normal ?_
      exact loop_next ((i_0 + (1 : Int), a_1, b_2, l_3)) (by kernel_rfl) (show ((16 : Int) - (i_0 + (1 : Int))).toNat < ((16 : Int) - i_0).toNat from (by omega)) (g4 i_0 a_1 b_2 l_3 h_5 h_6 h_7 h_8 h_9 h_10 h_11 h_12)
  ·
    refine st_exit 0 (by kernel_rfl) ?_
    refine q_seq_exit ?_
    refine q_seq_exit ?_
    refine q_blk_hit ?_
    refine q_seq_normal ?_
    refine st_seq (by kernel_rfl) ?_
    refine st_reg (A := True) (σ' := ⟨[(4, .own 1007 0)], [(1007, ⟨0, 53, .row 3 (List.map c53 l_3)⟩)]⟩) cx [] [4] [1007] (by kernel_rfl) (by kernel_rfl) trivial ?_
    refine q_seq_normal ?_
    refine st_ret (by kernel_rfl) ?_
    exact q_ret (r := .sl (List.map c53 l_3)) (obl := []) (by kernel_rfl) trivial (AVle.eq (g5 i_0 a_1 b_2 l_3 h_5 h_6 h_7 h_8 h_9 h_10 h_11))
theorem con42 (a b : List Int) : Con Try.prog 42 [.sl (a.map c3), .sl (b.map c3)] (.sl ((behN (of a) (of b) 16).map c53)) :=
  by
  have key : ∀ i : Int, 0 ≤ i → i < 16 → 0 ≤ (of a)[i.toNat]! ∧ (of a)[i.toNat]! ≤ 1000000000 := fun i h0 h1 => of_range a _ (by omega)
  refine walk42 a b ⟨by omega, by omega, rfl, rfl, rfl, by simp⟩ ?_ ?_ ?_ ?_ ?_
  · intro i x y l h0 h1 h2 h3 h4 h5 k0 k1; subst h2; have := key i h0 k0; omega
  · intro i x y l h0 h1 h2 h3 h4 h5 k0 k1; subst h2; have := key i h0 k0; omega
  · intro i x y l h0 h1 h2 h3 h4 h5 k0 k1; subst h2 h3
    exact ⟨by omega, by omega, rfl, rfl, by rw [behN_step h0, if_pos k1, h4], by simp only [List.length_append, List.length_cons, List.length_nil]; omega⟩
  · intro i x y l h0 h1 h2 h3 h4 h5 k0 k1; subst h2 h3
    exact ⟨by omega, by omega, rfl, rfl, by rw [behN_step h0, if_neg k1, h4], by omega⟩
  · intro i x y l h0 h1 h2 h3 h4 h5 k0; have : i = 16 := by omega
    subst this; rw [h4]; rfl
end Go.Proofs.Ytoeifjooljkpaaa
