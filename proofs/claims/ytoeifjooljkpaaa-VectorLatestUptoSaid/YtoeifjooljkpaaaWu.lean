/- Wu: Heads. Conditions: sizes. -/
import Derived.Test.YtoeifjooljkpaaaWt
set_option linter.unusedVariables false
set_option linter.unusedSimpArgs false
namespace Go.Proofs.Ytoeifjooljkpaaa
open Go.E
set_option maxRecDepth 100000
set_option maxHeartbeats 4000000
def inv43 (vs : List (List Int)) (i : Int) (hs : List (Vector Int 16)) : Prop := 0 ≤ i ∧ i ≤ vs.length ∧ hs = hdN (lateV vs) (srtV vs) i.toNat ∧ hs.length ≤ i
def dec43 (vs : List (List Int)) (i : Int) (hs : List (Vector Int 16)) : Nat := (vs.length - i).toNat
theorem srt_len (vs : List (List Int)) : (((vs.map of).mergeSort (fun x y => !ltV y x)).map short).length = vs.length := by simp
theorem srt_get {vs : List (List Int)} {i : Int} (h0 : 0 ≤ i) (h : i < vs.length) : of (((vs.map of).mergeSort (fun x y => !ltV y x)).map short)[i.toNat]! = (srtV vs)[i.toNat]! := by
  have hl := srtV_length vs
  have h1 : i.toNat < (srtV vs).length := by omega
  have e1 : ((srtV vs).map short)[i.toNat]! = short (srtV vs)[i.toNat]! := by
    rw [getElem!_pos ((srtV vs).map short) i.toNat (by simpa using h1), getElem!_pos (srtV vs) i.toNat h1, List.getElem_map]
  show of ((srtV vs).map short)[i.toNat]! = _
  rw [e1, of_short (srtV_range (bang_mem h1))]
theorem last_bang {hs : List (Vector Int 16)} (h : ¬ (hs.length : Int) = 0) : hs.getLast? = some hs[((hs.length : Int) - 1).toNat]! := by
  have e : ((hs.length : Int) - 1).toNat = hs.length - 1 := by omega
  rw [e, List.getLast?_eq_getElem?, getElem!_pos hs _ (by omega), List.getElem?_eq_getElem (by omega)]
theorem heads_step {vs : List (List Int)} {i : Int} {hs : List (Vector Int 16)} (h0 : 0 ≤ i) (h : i < vs.length) (h2 : hs = hdN (lateV vs) (srtV vs) i.toNat) :
    inv43 vs (i + 1) (if lateV vs (srtV vs)[i.toNat]! = true ∧ ((hs.length : Int) = 0 ∨ ¬ hs[((hs.length : Int) - 1).toNat]! = (srtV vs)[i.toNat]!) then hs ++ [(srtV vs)[i.toNat]!] else hs) := by
  have hl := srtV_length vs
  have e : (i + 1).toNat = i.toNat + 1 := by omega
  have key : hdN (lateV vs) (srtV vs) (i + 1).toNat = (if lateV vs (srtV vs)[i.toNat]! = true ∧ ((hs.length : Int) = 0 ∨ ¬ hs[((hs.length : Int) - 1).toNat]! = (srtV vs)[i.toNat]!) then hs ++ [(srtV vs)[i.toNat]!] else hs) := by
    rw [e, hdN, ← h2]
    by_cases hp : lateV vs (srtV vs)[i.toNat]! = true
    · have hstep := hdN_step (srtV_together vs) (n := i.toNat) (by omega) hp
      rw [← h2] at hstep
      have : (hs = [] ∨ hs.getLast? ≠ some (srtV vs)[i.toNat]!) ↔ ((hs.length : Int) = 0 ∨ ¬ hs[((hs.length : Int) - 1).toNat]! = (srtV vs)[i.toNat]!) := by
        by_cases hz : (hs.length : Int) = 0
        · have : hs = [] := List.eq_nil_of_length_eq_zero (by omega)
          simp [this]
        · rw [last_bang hz]
          have : ¬ hs = [] := fun k => hz (by rw [k]; rfl)
          simp [this, hz]
      rw [this] at hstep
      simp only [hp, true_and, hstep]
    · rw [if_neg (fun k => hp k.1), if_neg (fun k => hp k.1)]
  refine ⟨by omega, by omega, key.symm, ?_⟩
  rw [← key]
  have := hdN_len (lateV vs) (srtV vs) (i + 1).toNat
  omega
theorem walk61 (a : Vector Int (16 : Nat)) (vs : List (List Int))
    (g0 : invLate a vs (0 : Int) a)
    (g1 : ∀ (i_0 : Int) (b_1 : Vector Int (16 : Nat)), (0 : Int) ≤ i_0 → i_0 ≤ (↑vs.length : Int) → b_1 = a → (∀ (j : Nat), (↑j : Int) < i_0 → ¬ordV a (of vs[j]!) = (1 : Int)) → i_0 < (↑vs.length : Int) → ordV b_1 (of vs[i_0.toNat]!) = (1 : Int) → AV.b false = AV.b (lateV vs a))
    (g2 : ∀ (i_0 : Int) (b_1 : Vector Int (16 : Nat)), (0 : Int) ≤ i_0 → i_0 ≤ (↑vs.length : Int) → b_1 = a → (∀ (j : Nat), (↑j : Int) < i_0 → ¬ordV a (of vs[j]!) = (1 : Int)) → i_0 < (↑vs.length : Int) → ¬ordV b_1 (of vs[i_0.toNat]!) = (1 : Int) → invLate a vs (i_0 + (1 : Int)) b_1)
    (g3 : ∀ (i_0 : Int) (b_1 : Vector Int (16 : Nat)), (0 : Int) ≤ i_0 → i_0 ≤ (↑vs.length : Int) → b_1 = a → (∀ (j : Nat), (↑j : Int) < i_0 → ¬ordV a (of vs[j]!) = (1 : Int)) → ¬i_0 < (↑vs.length : Int) → AV.b true = AV.b (lateV vs a)) :
    Con Try.prog (61 : FuncId) [AV.agg (c62 a), AV.sl (List.map c22 vs)] (AV.b (lateV vs a)) := by
  refine con_lens 1 (c22) (vs) (by kernel_rfl) Go.Proofs.Try.func61 (by kernel_rfl) fun hl_1 => ?_
  refine st_con tab_ok (by kernel_rfl) [.tmp 4] 19 Go.Proofs.Try.func61 (by kernel_rfl) (by kernel_rfl) ?_
  intro e0 cx
  refine st_seq (by kernel_rfl) ?_
  refine st_reg (A := True) (σ' := ⟨[(1, .sl (List.map c22 vs)), (2, .ptr (2) (0) (0) (0))], [(2, ⟨0, 62, .arr (cA (AV.i IntKind.i64) a)⟩)]⟩) cx [] [1, 2] [2] (by kernel_rfl) (by kernel_rfl) trivial ?_
  refine q_seq_normal ?_
  refine st_seq (by kernel_rfl) ?_
  refine st_seq (by kernel_rfl) ?_
  refine st_reg (A := (AV.i IntKind.i64 (↑(List.map c22 vs).length : Int) = AV.i IntKind.i64 (↑vs.length : Int))) (σ' := ⟨[(2, .ptr (2) (0) (0) (0)), (7, .sl (List.map c22 vs)), (8, .i .i64 ((↑vs.length : Int))), (9, .i .i64 ((0 : Int)))], [(2, ⟨0, 62, .arr (cA (AV.i IntKind.i64) a)⟩)]⟩) cx [(1, { tell := some (.i .i64 ((↑vs.length : Int))) })] [2, 7, 8, 9] [2] (by kernel_rfl) (by kernel_rfl) (told_len c22 vs) ?_
  refine q_seq_normal ?_
  refine st_block 0 (by kernel_rfl) ?_
  refine st_loop (X := Int × Vector Int (16 : Nat)) (fun x => ⟨[(2, .ptr (2) (0) (0) (0)), (7, .sl (List.map c22 vs)), (8, .i .i64 ((↑vs.length : Int))), (9, .i .i64 (x.fst))], [(2, ⟨0, 62, .arr (cA (AV.i IntKind.i64) x.snd)⟩)]⟩) (fun x ↦ decLate vs x.fst x.snd) (fun x ↦ invLate a vs x.fst x.snd) [2, 7, 8, 9] [2] (((0 : Int), a)) (by kernel_rfl) (by kernel_rfl) g0 ?_
  rintro ⟨i_0, b_1⟩ h_2
  obtain ⟨h_3, h_4, h_5, h_6⟩ : (0 : Int) ≤ i_0 ∧ i_0 ≤ (↑vs.length : Int) ∧ b_1 = a ∧ ∀ (j : Nat), (↑j : Int) < i_0 → ¬ordV a (of vs[j]!) = (1 : Int) := h_2
  refine st_seq (by kernel_rfl) ?_
  refine st_reg (A := (AV.b (decide (i_0 < (↑vs.length : Int))) = AV.b (decide (i_0 < (↑vs.length : Int))))) (σ' := ⟨[(2, .ptr (2) (0) (0) (0)), (7, .sl (List.map c22 vs)), (8, .i .i64 ((↑vs.length : Int))), (9, .i .i64 (i_0)), (10, .b (decide (i_0 < (↑vs.length : Int))))], [(2, ⟨0, 62, .arr (cA (AV.i IntKind.i64) b_1)⟩)]⟩) cx [(0, { tell := some (.b (decide (i_0 < (↑vs.length : Int)))) })] [2, 7, 8, 9, 10] [2] (by kernel_rfl) (by kernel_rfl) (by kernel_rfl) ?_
  refine q_seq_normal ?_
  refine st_seq (by kernel_rfl) ?_
  refine st_dec (i_0 < (↑vs.length : Int)) (by kernel_rfl) (by kernel_rfl) (fun h_7 => ?_) (fun h_7 => ?_)
  ·
    refine st_skip (by kernel_rfl) ?_
    refine q_seq_normal ?_
    refine st_seq (by kernel_rfl) ?_
    refine st_block 1 (by kernel_rfl) ?_
    refine st_seq (by kernel_rfl) ?_
    refine st_reg (A := ((0 : Int) ≤ i_0) ∧ ((List.map c22 vs)[i_0.toNat]? = some (c22 vs[i_0.toNat]!)) ∧ ((c22 vs[i_0.toNat]!).length = (1 : Nat))) (σ' := ⟨[(2, .ptr (2) (0) (0) (0)), (7, .sl (List.map c22 vs)), (8, .i .i64 ((↑vs.length : Int))), (9, .i .i64 (i_0)), (6, .sl (List.map c3 vs[i_0.toNat]!))], [(2, ⟨0, 62, .arr (cA (AV.i IntKind.i64) b_1)⟩)]⟩) cx [(0, { row := (c22 vs[i_0.toNat]!) })] [2, 7, 8, 9, 6] [2] (by kernel_rfl) (by kernel_rfl) ⟨(by (with_reducible assumption)), (by (with_reducible refine get_map ?_; omega)), (by kernel_rfl)⟩ ?_
    refine q_seq_normal ?_
    refine st_seq (by kernel_rfl) ?_
    refine st_any (A := ((cA (AV.i IntKind.i64) b_1).length = (16 : Nat)) ∧ (Con Try.prog (49 : FuncId) [AV.sl (List.map c3 vs[i_0.toNat]!)] (AV.agg (c62 (of vs[i_0.toNat]!)))) ∧ (Con Try.prog (56 : FuncId) [AV.agg (c62 b_1), AV.agg (c62 (of vs[i_0.toNat]!))] (AV.i IntKind.i64 (ordV b_1 (of vs[i_0.toNat]!)))) ∧ (AV.b (ordV b_1 (of vs[i_0.toNat]!) == (1 : Int)) = AV.b (decide (ordV b_1 (of vs[i_0.toNat]!) = (1 : Int))))) (σ' := ⟨[(2, .ptr (2) (0) (0) (0)), (7, .sl (List.map c22 vs)), (8, .i .i64 ((↑vs.length : Int))), (9, .i .i64 (i_0)), (17, .b (decide (ordV b_1 (of vs[i_0.toNat]!) = (1 : Int))))], [(2, ⟨0, 62, .arr (cA (AV.i IntKind.i64) b_1)⟩)]⟩) cx [(2, { val := some (.agg (cA (AV.i IntKind.i64) (of vs[i_0.toNat]!))) }), (3, { val := some (.i .i64 (ordV b_1 (of vs[i_0.toNat]!))) }), (4, { tell := some (.b (decide (ordV b_1 (of vs[i_0.toNat]!) = (1 : Int)))) })] [2, 7, 8, 9, 17] [2] (by kernel_rfl) (by kernel_rfl) ⟨(by (simp only [len_cA]; done)), (con49 (vs[i_0.toNat]!)), (con56 (b_1) (of vs[i_0.toNat]!)), (by kernel_rfl)⟩ ?_
    refine q_seq_normal ?_
    refine st_dec (ordV b_1 (of vs[i_0.toNat]!) = (1 : Int)) (by kernel_rfl) (by kernel_rfl) (fun h_8 => ?_) (fun h_8 => ?_)
    ·
      refine st_seq (by kernel_rfl) ?_
      refine st_reg (A := True) (σ' := ⟨[(4, .b (false))], []⟩) cx [] [4] [] (by kernel_rfl) (by kernel_rfl) trivial ?_
      refine q_seq_normal ?_
      refine st_ret (by kernel_rfl) ?_
      refine q_blk_ret ?_
      refine q_seq_ret ?_
      refine q_seq_ret ?_
      refine q_blk_ret ?_
      refine q_seq_ret ?_
      exact q_ret (r := .b (false)) (obl := []) (by kernel_rfl) trivial (AVle.eq (g1 i_0 b_1 h_3 h_4 h_5 h_6 h_7 h_8))
    ·
      refine st_skip (by kernel_rfl) ?_
      refine q_blk_normal ?_
      refine q_seq_normal ?_
      refine st_reg (A := (AV.i IntKind.i64 (IntKind.i64.wrap (i_0 + (1 : Int))) = AV.i IntKind.i64 (i_0 + (1 : Int)))) (σ' := ⟨[(2, .ptr (2) (0) (0) (0)), (7, .sl (List.map c22 vs)), (8, .i .i64 ((↑vs.length : Int))), (9, .i .i64 (i_0 + (1 : Int)))], [(2, ⟨0, 62, .arr (cA (AV.i IntKind.i64) b_1)⟩)]⟩) cx [(0, { tell := some (.i .i64 (i_0 + (1 : Int))) })] [2, 7, 8, 9] [2] (by kernel_rfl) (by kernel_rfl) (told_i64 (by omega) (by omega)) ?_
      refine q_seq_normal ?_
      exact loop_next ((i_0 + (1 : Int), b_1)) (by kernel_rfl) (show ((↑vs.length : Int) - (i_0 + (1 : Int))).toNat < ((↑vs.length : Int) - i_0).toNat from (by omega)) (g2 i_0 b_1 h_3 h_4 h_5 h_6 h_7 h_8)
  ·
    refine st_exit 0 (by kernel_rfl) ?_
    refine q_seq_exit ?_
    refine q_seq_exit ?_
    refine q_blk_hit ?_
    refine q_seq_normal ?_
    refine st_seq (by kernel_rfl) ?_
    refine st_reg (A := True) (σ' := ⟨[(4, .b (true))], []⟩) cx [] [4] [] (by kernel_rfl) (by kernel_rfl) trivial ?_
    refine q_seq_normal ?_
    refine st_ret (by kernel_rfl) ?_
    exact q_ret (r := .b (true)) (obl := []) (by kernel_rfl) trivial (AVle.eq (g3 i_0 b_1 h_3 h_4 h_5 h_6 h_7))
theorem con61 (a : Vector Int 16) (vs : List (List Int)) : Con Try.prog 61 [.agg (c62 a), .sl (vs.map c22)] (.b (lateV vs a)) :=
  walk61 a vs ⟨by omega, by omega, rfl, fun j hj => by omega⟩ (fun i b h0 h1 h2 h3 h4 h5 => by subst h2; rw [lateV_no h0 h4 h5])
    (fun i b h0 h1 h2 h3 h4 h5 => ⟨by omega, by omega, h2, fun j hj => by
      subst h2
      by_cases e : j = i.toNat
      · rw [e]; exact h5
      · exact h3 j (by omega)⟩)
    (fun i b h0 h1 h2 h3 h4 => by rw [lateV_yes h4 h3])
theorem walk48 (vs : List (List Int)) (hl : vs.length * (128 : Nat) ≤ (140737488351232 : Nat))
    (g0 : (256 : Int) < (↑vs.length : Int) → AV.i IntKind.i64 (2 : Int) = AV.i IntKind.i64 (headsV vs).snd)
    (g1 : (256 : Int) < (↑vs.length : Int) → List.map c22 (headsV vs).fst = [])
    (g2 : ¬(256 : Int) < (↑vs.length : Int) → inv43 vs (0 : Int) [])
    (g3 : ¬(256 : Int) < (↑vs.length : Int) → ∀ (i_1 : Int) (hs_2 : List (Vector Int (16 : Nat))), (0 : Int) ≤ i_1 → i_1 ≤ (↑vs.length : Int) → hs_2 = hdN (lateV vs) (srtV vs) i_1.toNat → (↑hs_2.length : Int) ≤ i_1 → i_1 < (↑(List.map short ((List.map of vs).mergeSort fun x y ↦ !ltV y x)).length : Int) → lateV vs (of (List.map short ((List.map of vs).mergeSort fun x y ↦ !ltV y x))[i_1.toNat]!) = true → ¬(↑hs_2.length : Int) = (0 : Int) → E.rowAt { ver := 0, ty := 62, k := BK.row (16) (List.map c62 hs_2) : Blk } ((↑hs_2.length : Int) - (1 : Int)).toNat (c62 hs_2[((↑hs_2.length : Int) - (1 : Int)).toNat]!))
    (g4 : ¬(256 : Int) < (↑vs.length : Int) → ∀ (i_1 : Int) (hs_2 : List (Vector Int (16 : Nat))), (0 : Int) ≤ i_1 → i_1 ≤ (↑vs.length : Int) → hs_2 = hdN (lateV vs) (srtV vs) i_1.toNat → (↑hs_2.length : Int) ≤ i_1 → i_1 < (↑(List.map short ((List.map of vs).mergeSort fun x y ↦ !ltV y x)).length : Int) → lateV vs (of (List.map short ((List.map of vs).mergeSort fun x y ↦ !ltV y x))[i_1.toNat]!) = true → ¬(↑hs_2.length : Int) = (0 : Int) → 0 + (16 : Nat) ≤ (c62 hs_2[((↑hs_2.length : Int) - (1 : Int)).toNat]!).length)
    (g5 : ¬(256 : Int) < (↑vs.length : Int) → ∀ (i_1 : Int) (hs_2 : List (Vector Int (16 : Nat))), (0 : Int) ≤ i_1 → i_1 ≤ (↑vs.length : Int) → hs_2 = hdN (lateV vs) (srtV vs) i_1.toNat → (↑hs_2.length : Int) ≤ i_1 → i_1 < (↑(List.map short ((List.map of vs).mergeSort fun x y ↦ !ltV y x)).length : Int) → lateV vs (of (List.map short ((List.map of vs).mergeSort fun x y ↦ !ltV y x))[i_1.toNat]!) = true ∧ ((↑hs_2.length : Int) = (0 : Int) ∨ ¬hs_2[((↑hs_2.length : Int) - (1 : Int)).toNat]! = of (List.map short ((List.map of vs).mergeSort fun x y ↦ !ltV y x))[i_1.toNat]!) → ((↑vs.length : Int) - (i_1 + (1 : Int))).toNat < ((↑vs.length : Int) - i_1).toNat)
    (g6 : ¬(256 : Int) < (↑vs.length : Int) → ∀ (i_1 : Int) (hs_2 : List (Vector Int (16 : Nat))), (0 : Int) ≤ i_1 → i_1 ≤ (↑vs.length : Int) → hs_2 = hdN (lateV vs) (srtV vs) i_1.toNat → (↑hs_2.length : Int) ≤ i_1 → i_1 < (↑(List.map short ((List.map of vs).mergeSort fun x y ↦ !ltV y x)).length : Int) → lateV vs (of (List.map short ((List.map of vs).mergeSort fun x y ↦ !ltV y x))[i_1.toNat]!) = true ∧ ((↑hs_2.length : Int) = (0 : Int) ∨ ¬hs_2[((↑hs_2.length : Int) - (1 : Int)).toNat]! = of (List.map short ((List.map of vs).mergeSort fun x y ↦ !ltV y x))[i_1.toNat]!) → inv43 vs (i_1 + (1 : Int)) (hs_2 ++ [of (List.map short ((List.map of vs).mergeSort fun x y ↦ !ltV y x))[i_1.toNat]!]))
    (g7 : ¬(256 : Int) < (↑vs.length : Int) → ∀ (i_1 : Int) (hs_2 : List (Vector Int (16 : Nat))), (0 : Int) ≤ i_1 → i_1 ≤ (↑vs.length : Int) → hs_2 = hdN (lateV vs) (srtV vs) i_1.toNat → (↑hs_2.length : Int) ≤ i_1 → i_1 < (↑(List.map short ((List.map of vs).mergeSort fun x y ↦ !ltV y x)).length : Int) → ¬(lateV vs (of (List.map short ((List.map of vs).mergeSort fun x y ↦ !ltV y x))[i_1.toNat]!) = true ∧ ((↑hs_2.length : Int) = (0 : Int) ∨ ¬hs_2[((↑hs_2.length : Int) - (1 : Int)).toNat]! = of (List.map short ((List.map of vs).mergeSort fun x y ↦ !ltV y x))[i_1.toNat]!)) → ((↑vs.length : Int) - (i_1 + (1 : Int))).toNat < ((↑vs.length : Int) - i_1).toNat)
    (g8 : ¬(256 : Int) < (↑vs.length : Int) → ∀ (i_1 : Int) (hs_2 : List (Vector Int (16 : Nat))), (0 : Int) ≤ i_1 → i_1 ≤ (↑vs.length : Int) → hs_2 = hdN (lateV vs) (srtV vs) i_1.toNat → (↑hs_2.length : Int) ≤ i_1 → i_1 < (↑(List.map short ((List.map of vs).mergeSort fun x y ↦ !ltV y x)).length : Int) → ¬(lateV vs (of (List.map short ((List.map of vs).mergeSort fun x y ↦ !ltV y x))[i_1.toNat]!) = true ∧ ((↑hs_2.length : Int) = (0 : Int) ∨ ¬hs_2[((↑hs_2.length : Int) - (1 : Int)).toNat]! = of (List.map short ((List.map of vs).mergeSort fun x y ↦ !ltV y x))[i_1.toNat]!)) → inv43 vs (i_1 + (1 : Int)) hs_2)
    (g9 : ¬(256 : Int) < (↑vs.length : Int) → ∀ (i_1 : Int) (hs_2 : List (Vector Int (16 : Nat))), (0 : Int) ≤ i_1 → i_1 ≤ (↑vs.length : Int) → hs_2 = hdN (lateV vs) (srtV vs) i_1.toNat → (↑hs_2.length : Int) ≤ i_1 → ¬i_1 < (↑(List.map short ((List.map of vs).mergeSort fun x y ↦ !ltV y x)).length : Int) → AV.i IntKind.i64 (0 : Int) = AV.i IntKind.i64 (headsV vs).snd)
    (g10 : ¬(256 : Int) < (↑vs.length : Int) → ∀ (i_1 : Int) (hs_2 : List (Vector Int (16 : Nat))), (0 : Int) ≤ i_1 → i_1 ≤ (↑vs.length : Int) → hs_2 = hdN (lateV vs) (srtV vs) i_1.toNat → (↑hs_2.length : Int) ≤ i_1 → ¬i_1 < (↑(List.map short ((List.map of vs).mergeSort fun x y ↦ !ltV y x)).length : Int) → AV.sl (List.map c22 (List.map short hs_2)) = AV.sl (List.map c22 (headsV vs).fst)) :
    Con Try.prog (48 : FuncId) [AV.sl (List.map c22 vs)] (AV.tup [AV.sl (List.map c22 (headsV vs).fst), AV.i IntKind.i64 (headsV vs).snd]) := by
  refine con_lens 0 (c22) (vs) (by kernel_rfl) Go.Proofs.Try.func48 (by kernel_rfl) fun hl_0 => ?_
  refine st_con tab_ok (by kernel_rfl) [.tmp 2, .tmp 3] 45 Go.Proofs.Try.func48 (by kernel_rfl) (by kernel_rfl) ?_
  intro e0 cx
  refine st_seq (by kernel_rfl) ?_
  refine st_reg (A := True) (σ' := ⟨[(0, .sl (List.map c22 vs))], []⟩) cx [] [0] [] (by kernel_rfl) (by kernel_rfl) trivial ?_
  refine q_seq_normal ?_
  refine st_seq (by kernel_rfl) ?_
  refine st_seq (by kernel_rfl) ?_
  refine st_reg (A := (AV.i IntKind.i64 (↑(List.map c22 vs).length : Int) = AV.i IntKind.i64 (↑vs.length : Int)) ∧ (AV.b (decide ((↑vs.length : Int) > (256 : Int))) = AV.b (decide ((256 : Int) < (↑vs.length : Int))))) (σ' := ⟨[(0, .sl (List.map c22 vs)), (10, .b (decide ((256 : Int) < (↑vs.length : Int))))], []⟩) cx [(1, { tell := some (.i .i64 ((↑vs.length : Int))) }), (2, { tell := some (.b (decide ((256 : Int) < (↑vs.length : Int)))) })] [0, 10] [] (by kernel_rfl) (by kernel_rfl) ⟨(told_len c22 vs), (by kernel_rfl)⟩ ?_
  refine q_seq_normal ?_
  refine st_dec ((256 : Int) < (↑vs.length : Int)) (by kernel_rfl) (by kernel_rfl) (fun h_0 => ?_) (fun h_0 => ?_)
  ·
    refine st_seq (by kernel_rfl) ?_
    refine st_reg (A := True) (σ' := ⟨[(2, .nl), (3, .i .i64 ((2 : Int)))], []⟩) cx [] [2, 3] [] (by kernel_rfl) (by kernel_rfl) trivial ?_
    refine q_seq_normal ?_
    refine st_ret (by kernel_rfl) ?_
    refine q_seq_ret ?_
    exact q_ret (r := .tup [.nl, .i .i64 ((2 : Int))]) (obl := []) (by kernel_rfl) trivial (AVle.tup (ZLe.cons (AVle.nl' (g1 h_0)) (ZLe.cons (AVle.eq (g0 h_0)) ZLe.nil)))
  ·
    refine st_skip (by kernel_rfl) ?_
    refine q_seq_normal ?_
    refine st_seq (by kernel_rfl) ?_
    refine st_reg (A := True) (σ' := ⟨[(0, .sl (List.map c22 vs)), (4, .nl)], []⟩) cx [] [0, 4] [] (by kernel_rfl) (by kernel_rfl) trivial ?_
    refine q_seq_normal ?_
    refine st_seq (by kernel_rfl) ?_
    refine st_seq (by kernel_rfl) ?_
    refine st_reg (A := (Con Try.prog (45 : FuncId) [AV.sl (List.map c22 vs)] (AV.sl (List.map c22 (List.map short ((List.map of vs).mergeSort fun x y ↦ !ltV y x))))) ∧ (AV.i IntKind.i64 (↑(List.map c22 (List.map short ((List.map of vs).mergeSort fun x y ↦ !ltV y x))).length : Int) = AV.i IntKind.i64 (↑(List.map short ((List.map of vs).mergeSort fun x y ↦ !ltV y x)).length : Int))) (σ' := ⟨[(0, .sl (List.map c22 vs)), (4, .nl), (12, .sl (List.map c22 (List.map short ((List.map of vs).mergeSort fun x y ↦ !ltV y x)))), (13, .i .i64 ((↑(List.map short ((List.map of vs).mergeSort fun x y ↦ !ltV y x)).length : Int))), (14, .i .i64 ((0 : Int)))], []⟩) cx [(1, { val := some (.sl (List.map c22 (List.map short ((List.map of vs).mergeSort fun x y ↦ !ltV y x)))) }), (2, { tell := some (.i .i64 ((↑(List.map short ((List.map of vs).mergeSort fun x y ↦ !ltV y x)).length : Int))) })] [0, 4, 12, 13, 14] [] (by kernel_rfl) (by kernel_rfl) ⟨(con45 (vs) (by (with_reducible assumption))), (told_len c22 (List.map short ((List.map of vs).mergeSort fun x y ↦ !ltV y x)))⟩ ?_
    refine q_seq_normal ?_
    refine st_block 0 (by kernel_rfl) ?_
    refine awp_adopt 4 1004 62 16 (σ' := ⟨[(0, .sl (List.map c22 vs)), (4, .own 1004 0), (12, .sl (List.map c22 (List.map short ((List.map of vs).mergeSort fun x y ↦ !ltV y x)))), (13, .i .i64 ((↑(List.map short ((List.map of vs).mergeSort fun x y ↦ !ltV y x)).length : Int))), (14, .i .i64 ((0 : Int)))], [(1004, ⟨0, 62, .row 16 (List.map c62 [])⟩)]⟩) (by kernel_rfl) ?_
    refine st_loop (X := Int × List (Vector Int (16 : Nat))) (fun x => ⟨[(0, .sl (List.map c22 vs)), (4, .own 1004 0), (12, .sl (List.map c22 (List.map short ((List.map of vs).mergeSort fun x y ↦ !ltV y x)))), (13, .i .i64 ((↑(List.map short ((List.map of vs).mergeSort fun x y ↦ !ltV y x)).length : Int))), (14, .i .i64 (x.fst))], [(1004, ⟨0, 62, .row 16 (List.map c62 x.snd)⟩)]⟩) (fun x ↦ dec43 vs x.fst x.snd) (fun x ↦ inv43 vs x.fst x.snd) [0, 4, 12, 13, 14] [1004] (((0 : Int), [])) (by kernel_rfl) (by kernel_rfl) (g2 h_0) ?_
    rintro ⟨i_1, hs_2⟩ h_3
    obtain ⟨h_4, h_5, h_6, h_7⟩ : (0 : Int) ≤ i_1 ∧ i_1 ≤ (↑vs.length : Int) ∧ hs_2 = hdN (lateV vs) (srtV vs) i_1.toNat ∧ (↑hs_2.length : Int) ≤ i_1 := h_3
    refine st_seq (by kernel_rfl) ?_
    refine st_reg (A := (AV.b (decide (i_1 < (↑(List.map short ((List.map of vs).mergeSort fun x y ↦ !ltV y x)).length : Int))) = AV.b (decide (i_1 < (↑(List.map short ((List.map of vs).mergeSort fun x y ↦ !ltV y x)).length : Int))))) (σ' := ⟨[(0, .sl (List.map c22 vs)), (4, .own 1004 0), (12, .sl (List.map c22 (List.map short ((List.map of vs).mergeSort fun x y ↦ !ltV y x)))), (13, .i .i64 ((↑(List.map short ((List.map of vs).mergeSort fun x y ↦ !ltV y x)).length : Int))), (14, .i .i64 (i_1)), (15, .b (decide (i_1 < (↑(List.map short ((List.map of vs).mergeSort fun x y ↦ !ltV y x)).length : Int))))], [(1004, ⟨0, 62, .row 16 (List.map c62 hs_2)⟩)]⟩) cx [(0, { tell := some (.b (decide (i_1 < (↑(List.map short ((List.map of vs).mergeSort fun x y ↦ !ltV y x)).length : Int)))) })] [0, 4, 12, 13, 14, 15] [1004] (by kernel_rfl) (by kernel_rfl) (by kernel_rfl) ?_
    refine q_seq_normal ?_
    refine st_seq (by kernel_rfl) ?_
    refine st_dec (i_1 < (↑(List.map short ((List.map of vs).mergeSort fun x y ↦ !ltV y x)).length : Int)) (by kernel_rfl) (by kernel_rfl) (fun h_8 => ?_) (fun h_8 => ?_)
    ·
      refine st_skip (by kernel_rfl) ?_
      refine q_seq_normal ?_
      refine st_seq (by kernel_rfl) ?_
      refine st_block 1 (by kernel_rfl) ?_
      refine st_seq (by kernel_rfl) ?_
      refine st_reg (A := ((0 : Int) ≤ i_1) ∧ ((List.map c22 (List.map short ((List.map of vs).mergeSort fun x y ↦ !ltV y x)))[i_1.toNat]? = some (c22 (List.map short ((List.map of vs).mergeSort fun x y ↦ !ltV y x))[i_1.toNat]!)) ∧ ((c22 (List.map short ((List.map of vs).mergeSort fun x y ↦ !ltV y x))[i_1.toNat]!).length = (1 : Nat))) (σ' := ⟨[(0, .sl (List.map c22 vs)), (4, .own 1004 0), (12, .sl (List.map c22 (List.map short ((List.map of vs).mergeSort fun x y ↦ !ltV y x)))), (13, .i .i64 ((↑(List.map short ((List.map of vs).mergeSort fun x y ↦ !ltV y x)).length : Int))), (14, .i .i64 (i_1)), (6, .sl (List.map c3 (List.map short ((List.map of vs).mergeSort fun x y ↦ !ltV y x))[i_1.toNat]!))], [(1004, ⟨0, 62, .row 16 (List.map c62 hs_2)⟩)]⟩) cx [(0, { row := (c22 (List.map short ((List.map of vs).mergeSort fun x y ↦ !ltV y x))[i_1.toNat]!) })] [0, 4, 12, 13, 14, 6] [1004] (by kernel_rfl) (by kernel_rfl) ⟨(by (with_reducible assumption)), (by (with_reducible refine get_map ?_; omega)), (by kernel_rfl)⟩ ?_
      refine q_seq_normal ?_
      refine st_seq (by kernel_rfl) ?_
      refine st_reg (A := (Con Try.prog (49 : FuncId) [AV.sl (List.map c3 (List.map short ((List.map of vs).mergeSort fun x y ↦ !ltV y x))[i_1.toNat]!)] (AV.agg (c62 (of (List.map short ((List.map of vs).mergeSort fun x y ↦ !ltV y x))[i_1.toNat]!)))) ∧ ((cA (AV.i IntKind.i64) (of (List.map short ((List.map of vs).mergeSort fun x y ↦ !ltV y x))[i_1.toNat]!)).length = (cA (AV.i IntKind.i64) (Vector.replicate (16 : Nat) (0 : Int))).length) ∧ ((cA (AV.i IntKind.i64) (of (List.map short ((List.map of vs).mergeSort fun x y ↦ !ltV y x))[i_1.toNat]!)).length = (16 : Nat))) (σ' := ⟨[(0, .sl (List.map c22 vs)), (4, .own 1004 0), (12, .sl (List.map c22 (List.map short ((List.map of vs).mergeSort fun x y ↦ !ltV y x)))), (13, .i .i64 ((↑(List.map short ((List.map of vs).mergeSort fun x y ↦ !ltV y x)).length : Int))), (14, .i .i64 (i_1)), (7, .ptr (7) (0) (0) (0))], [(1004, ⟨0, 62, .row 16 (List.map c62 hs_2)⟩), (7, ⟨0, 62, .arr (cA (AV.i IntKind.i64) (of (List.map short ((List.map of vs).mergeSort fun x y ↦ !ltV y x))[i_1.toNat]!))⟩)]⟩) cx [(1, { val := some (.agg (cA (AV.i IntKind.i64) (of (List.map short ((List.map of vs).mergeSort fun x y ↦ !ltV y x))[i_1.toNat]!))) })] [0, 4, 12, 13, 14, 7] [1004, 7] (by kernel_rfl) (by kernel_rfl) ⟨(con49 ((List.map short ((List.map of vs).mergeSort fun x y ↦ !ltV y x))[i_1.toNat]!)), (by kernel_rfl), (by kernel_rfl)⟩ ?_
      refine q_seq_normal ?_
      refine st_seq (by kernel_rfl) ?_
      refine st_join (σ' := ⟨[(0, .sl (List.map c22 vs)), (4, .own 1004 0), (12, .sl (List.map c22 (List.map short ((List.map of vs).mergeSort fun x y ↦ !ltV y x)))), (13, .i .i64 ((↑(List.map short ((List.map of vs).mergeSort fun x y ↦ !ltV y x)).length : Int))), (14, .i .i64 (i_1)), (7, .ptr (7) (0) (0) (0)), (37, .b (decide (lateV vs (of (List.map short ((List.map of vs).mergeSort fun x y ↦ !ltV y x))[i_1.toNat]!) = true ∧ ((↑hs_2.length : Int) = (0 : Int) ∨ ¬hs_2[((↑hs_2.length : Int) - (1 : Int)).toNat]! = of (List.map short ((List.map of vs).mergeSort fun x y ↦ !ltV y x))[i_1.toNat]!))))], [(1004, ⟨0, 62, .row 16 (List.map c62 hs_2)⟩), (7, ⟨0, 62, .arr (cA (AV.i IntKind.i64) (of (List.map short ((List.map of vs).mergeSort fun x y ↦ !ltV y x))[i_1.toNat]!))⟩)]⟩) ?_ ?_
      ·
        refine st_split (lateV vs (of (List.map short ((List.map of vs).mergeSort fun x y ↦ !ltV y x))[i_1.toNat]!) = true) (fun h_10 => ?_) (fun h_10 => ?_)
        ·
          refine st_split ((↑hs_2.length : Int) = (0 : Int)) (fun h_11 => ?_) (fun h_11 => ?_)
          ·
            refine st_any (A := ((cA (AV.i IntKind.i64) (of (List.map short ((List.map of vs).mergeSort fun x y ↦ !ltV y x))[i_1.toNat]!)).length = (16 : Nat)) ∧ (AV.b (lateV vs (of (List.map short ((List.map of vs).mergeSort fun x y ↦ !ltV y x))[i_1.toNat]!)) = AV.b true) ∧ (Con Try.prog (61 : FuncId) [AV.agg (c62 (of (List.map short ((List.map of vs).mergeSort fun x y ↦ !ltV y x))[i_1.toNat]!)), AV.sl (List.map c22 vs)] (AV.b (lateV vs (of (List.map short ((List.map of vs).mergeSort fun x y ↦ !ltV y x))[i_1.toNat]!)))) ∧ (AV.i IntKind.i64 (↑(List.map c62 hs_2).length : Int) = AV.i IntKind.i64 (↑hs_2.length : Int)) ∧ (AV.b ((↑hs_2.length : Int) == (0 : Int)) = AV.b true) ∧ (AV.b true = AV.b (decide (lateV vs (of (List.map short ((List.map of vs).mergeSort fun x y ↦ !ltV y x))[i_1.toNat]!) = true ∧ ((↑hs_2.length : Int) = (0 : Int) ∨ ¬hs_2[((↑hs_2.length : Int) - (1 : Int)).toNat]! = of (List.map short ((List.map of vs).mergeSort fun x y ↦ !ltV y x))[i_1.toNat]!))))) (σ' := ⟨[(0, .sl (List.map c22 vs)), (4, .own 1004 0), (12, .sl (List.map c22 (List.map short ((List.map of vs).mergeSort fun x y ↦ !ltV y x)))), (13, .i .i64 ((↑(List.map short ((List.map of vs).mergeSort fun x y ↦ !ltV y x)).length : Int))), (14, .i .i64 (i_1)), (7, .ptr (7) (0) (0) (0)), (37, .b (decide (lateV vs (of (List.map short ((List.map of vs).mergeSort fun x y ↦ !ltV y x))[i_1.toNat]!) = true ∧ ((↑hs_2.length : Int) = (0 : Int) ∨ ¬hs_2[((↑hs_2.length : Int) - (1 : Int)).toNat]! = of (List.map short ((List.map of vs).mergeSort fun x y ↦ !ltV y x))[i_1.toNat]!))))], [(1004, ⟨0, 62, .row 16 (List.map c62 hs_2)⟩), (7, ⟨0, 62, .arr (cA (AV.i IntKind.i64) (of (List.map short ((List.map of vs).mergeSort fun x y ↦ !ltV y x))[i_1.toNat]!))⟩)]⟩) cx [(2, { val := some (.b (lateV vs (of (List.map short ((List.map of vs).mergeSort fun x y ↦ !ltV y x))[i_1.toNat]!))), tell := some (.b (true)) }), (5, { tell := some (.i .i64 ((↑hs_2.length : Int))) }), (6, { tell := some (.b (true)) }), (17, { tell := some (.b (decide (lateV vs (of (List.map short ((List.map of vs).mergeSort fun x y ↦ !ltV y x))[i_1.toNat]!) = true ∧ ((↑hs_2.length : Int) = (0 : Int) ∨ ¬hs_2[((↑hs_2.length : Int) - (1 : Int)).toNat]! = of (List.map short ((List.map of vs).mergeSort fun x y ↦ !ltV y x))[i_1.toNat]!)))) })] [0, 4, 12, 13, 14, 7, 37] [1004, 7] (by kernel_rfl) (by kernel_rfl) ⟨(by kernel_rfl), (told_eqt h_10), (con61 (of (List.map short ((List.map of vs).mergeSort fun x y ↦ !ltV y x))[i_1.toNat]!) (vs)), (told_len c62 hs_2), (told_true h_11), (by simp only [eq_true h_10, eq_true h_11, told_simp1, told_simp2, and_true, true_and, and_false, false_and, or_true, true_or, or_false, false_or, not_true_eq_false, not_false_eq_true, decide_true, decide_false, Bool.decide_eq_true])⟩ ?_
            exact ⟨rfl, rfl⟩
          ·
            refine st_any (A := ((cA (AV.i IntKind.i64) (of (List.map short ((List.map of vs).mergeSort fun x y ↦ !ltV y x))[i_1.toNat]!)).length = (16 : Nat)) ∧ (AV.b (lateV vs (of (List.map short ((List.map of vs).mergeSort fun x y ↦ !ltV y x))[i_1.toNat]!)) = AV.b true) ∧ (Con Try.prog (61 : FuncId) [AV.agg (c62 (of (List.map short ((List.map of vs).mergeSort fun x y ↦ !ltV y x))[i_1.toNat]!)), AV.sl (List.map c22 vs)] (AV.b (lateV vs (of (List.map short ((List.map of vs).mergeSort fun x y ↦ !ltV y x))[i_1.toNat]!)))) ∧ (AV.i IntKind.i64 (↑(List.map c62 hs_2).length : Int) = AV.i IntKind.i64 (↑hs_2.length : Int)) ∧ (AV.b ((↑hs_2.length : Int) == (0 : Int)) = AV.b false) ∧ (AV.i IntKind.i64 (↑(List.map c62 hs_2).length : Int) = AV.i IntKind.i64 (↑hs_2.length : Int)) ∧ (AV.i IntKind.i64 (IntKind.i64.wrap ((↑hs_2.length : Int) - (1 : Int))) = AV.i IntKind.i64 ((↑hs_2.length : Int) - (1 : Int))) ∧ ((0 : Int) ≤ (↑hs_2.length : Int) - (1 : Int)) ∧ (((↑hs_2.length : Int) - (1 : Int)).toNat < (List.map c62 hs_2).length) ∧ ((16 : Nat) = 16) ∧ (AV.agg (List.take (16 : Nat) (List.drop (0) (c62 hs_2[((↑hs_2.length : Int) - (1 : Int)).toNat]!))) = AV.agg (c62 hs_2[((↑hs_2.length : Int) - (1 : Int)).toNat]!)) ∧ (E.rowAt { ver := 0, ty := 62, k := BK.row (16) (List.map c62 hs_2) : Blk } ((↑hs_2.length : Int) - (1 : Int)).toNat (c62 hs_2[((↑hs_2.length : Int) - (1 : Int)).toNat]!)) ∧ (0 + (16 : Nat) ≤ (c62 hs_2[((↑hs_2.length : Int) - (1 : Int)).toNat]!).length) ∧ ((cA (AV.i IntKind.i64) (of (List.map short ((List.map of vs).mergeSort fun x y ↦ !ltV y x))[i_1.toNat]!)).length = (16 : Nat)) ∧ (AggEq Try.prog (62 : Nat) (cA (AV.i IntKind.i64) hs_2[((↑hs_2.length : Int) - (1 : Int)).toNat]!) (cA (AV.i IntKind.i64) (of (List.map short ((List.map of vs).mergeSort fun x y ↦ !ltV y x))[i_1.toNat]!)) !decide ¬hs_2[((↑hs_2.length : Int) - (1 : Int)).toNat]! = of (List.map short ((List.map of vs).mergeSort fun x y ↦ !ltV y x))[i_1.toNat]!) ∧ (AV.b (decide ¬hs_2[((↑hs_2.length : Int) - (1 : Int)).toNat]! = of (List.map short ((List.map of vs).mergeSort fun x y ↦ !ltV y x))[i_1.toNat]!) = AV.b (decide (lateV vs (of (List.map short ((List.map of vs).mergeSort fun x y ↦ !ltV y x))[i_1.toNat]!) = true ∧ ((↑hs_2.length : Int) = (0 : Int) ∨ ¬hs_2[((↑hs_2.length : Int) - (1 : Int)).toNat]! = of (List.map short ((List.map of vs).mergeSort fun x y ↦ !ltV y x))[i_1.toNat]!))))) (σ' := ⟨[(0, .sl (List.map c22 vs)), (4, .own 1004 0), (12, .sl (List.map c22 (List.map short ((List.map of vs).mergeSort fun x y ↦ !ltV y x)))), (13, .i .i64 ((↑(List.map short ((List.map of vs).mergeSort fun x y ↦ !ltV y x)).length : Int))), (14, .i .i64 (i_1)), (7, .ptr (7) (0) (0) (0)), (37, .b (decide (lateV vs (of (List.map short ((List.map of vs).mergeSort fun x y ↦ !ltV y x))[i_1.toNat]!) = true ∧ ((↑hs_2.length : Int) = (0 : Int) ∨ ¬hs_2[((↑hs_2.length : Int) - (1 : Int)).toNat]! = of (List.map short ((List.map of vs).mergeSort fun x y ↦ !ltV y x))[i_1.toNat]!))))], [(1004, ⟨0, 62, .row 16 (List.map c62 hs_2)⟩), (7, ⟨0, 62, .arr (cA (AV.i IntKind.i64) (of (List.map short ((List.map of vs).mergeSort fun x y ↦ !ltV y x))[i_1.toNat]!))⟩)]⟩) cx [(2, { val := some (.b (lateV vs (of (List.map short ((List.map of vs).mergeSort fun x y ↦ !ltV y x))[i_1.toNat]!))), tell := some (.b (true)) }), (5, { tell := some (.i .i64 ((↑hs_2.length : Int))) }), (6, { tell := some (.b (false)) }), (10, { tell := some (.i .i64 ((↑hs_2.length : Int))) }), (11, { tell := some (.i .i64 ((↑hs_2.length : Int) - (1 : Int))) }), (13, { row := (c62 hs_2[((↑hs_2.length : Int) - (1 : Int)).toNat]!), tell := some (.agg (c62 hs_2[((↑hs_2.length : Int) - (1 : Int)).toNat]!)) }), (15, { val := some (.b (decide ¬hs_2[((↑hs_2.length : Int) - (1 : Int)).toNat]! = of (List.map short ((List.map of vs).mergeSort fun x y ↦ !ltV y x))[i_1.toNat]!)) }), (17, { tell := some (.b (decide (lateV vs (of (List.map short ((List.map of vs).mergeSort fun x y ↦ !ltV y x))[i_1.toNat]!) = true ∧ ((↑hs_2.length : Int) = (0 : Int) ∨ ¬hs_2[((↑hs_2.length : Int) - (1 : Int)).toNat]! = of (List.map short ((List.map of vs).mergeSort fun x y ↦ !ltV y x))[i_1.toNat]!)))) })] [0, 4, 12, 13, 14, 7, 37] [1004, 7] (by kernel_rfl) (by kernel_rfl) ⟨(by kernel_rfl), (told_eqt h_10), (con61 (of (List.map short ((List.map of vs).mergeSort fun x y ↦ !ltV y x))[i_1.toNat]!) (vs)), (told_len c62 hs_2), (told_false h_11), (told_len c62 hs_2), (told_i64 (by omega) (by omega)), (by omega), (by (first | omega | (simp only [List.length_map]; omega))), (by kernel_rfl), (told_take (AV.i IntKind.i64) hs_2[((↑hs_2.length : Int) - (1 : Int)).toNat]!), (g3 h_0 i_1 hs_2 h_4 h_5 h_6 h_7 h_8 h_10 h_11), (g4 h_0 i_1 hs_2 h_4 h_5 h_6 h_7 h_8 h_10 h_11), (by kernel_rfl), (aggNe_dec (eq62 hs_2[((↑hs_2.length : Int) - (1 : Int)).toNat]! (of (List.map short ((List.map of vs).mergeSort fun x y ↦ !ltV y x))[i_1.toNat]!))), (by simp only [eq_true h_10, eq_false h_11, told_simp1, told_simp2, and_true, true_and, and_false, false_and, or_true, true_or, or_false, false_or, not_true_eq_false, not_false_eq_true, decide_true, decide_false, Bool.decide_eq_true])⟩ ?_
            exact ⟨rfl, rfl⟩
        ·
          refine st_any (A := ((cA (AV.i IntKind.i64) (of (List.map short ((List.map of vs).mergeSort fun x y ↦ !ltV y x))[i_1.toNat]!)).length = (16 : Nat)) ∧ (AV.b (lateV vs (of (List.map short ((List.map of vs).mergeSort fun x y ↦ !ltV y x))[i_1.toNat]!)) = AV.b false) ∧ (Con Try.prog (61 : FuncId) [AV.agg (c62 (of (List.map short ((List.map of vs).mergeSort fun x y ↦ !ltV y x))[i_1.toNat]!)), AV.sl (List.map c22 vs)] (AV.b (lateV vs (of (List.map short ((List.map of vs).mergeSort fun x y ↦ !ltV y x))[i_1.toNat]!)))) ∧ (AV.b false = AV.b (decide (lateV vs (of (List.map short ((List.map of vs).mergeSort fun x y ↦ !ltV y x))[i_1.toNat]!) = true ∧ ((↑hs_2.length : Int) = (0 : Int) ∨ ¬hs_2[((↑hs_2.length : Int) - (1 : Int)).toNat]! = of (List.map short ((List.map of vs).mergeSort fun x y ↦ !ltV y x))[i_1.toNat]!))))) (σ' := ⟨[(0, .sl (List.map c22 vs)), (4, .own 1004 0), (12, .sl (List.map c22 (List.map short ((List.map of vs).mergeSort fun x y ↦ !ltV y x)))), (13, .i .i64 ((↑(List.map short ((List.map of vs).mergeSort fun x y ↦ !ltV y x)).length : Int))), (14, .i .i64 (i_1)), (7, .ptr (7) (0) (0) (0)), (37, .b (decide (lateV vs (of (List.map short ((List.map of vs).mergeSort fun x y ↦ !ltV y x))[i_1.toNat]!) = true ∧ ((↑hs_2.length : Int) = (0 : Int) ∨ ¬hs_2[((↑hs_2.length : Int) - (1 : Int)).toNat]! = of (List.map short ((List.map of vs).mergeSort fun x y ↦ !ltV y x))[i_1.toNat]!))))], [(1004, ⟨0, 62, .row 16 (List.map c62 hs_2)⟩), (7, ⟨0, 62, .arr (cA (AV.i IntKind.i64) (of (List.map short ((List.map of vs).mergeSort fun x y ↦ !ltV y x))[i_1.toNat]!))⟩)]⟩) cx [(2, { val := some (.b (lateV vs (of (List.map short ((List.map of vs).mergeSort fun x y ↦ !ltV y x))[i_1.toNat]!))), tell := some (.b (false)) }), (17, { tell := some (.b (decide (lateV vs (of (List.map short ((List.map of vs).mergeSort fun x y ↦ !ltV y x))[i_1.toNat]!) = true ∧ ((↑hs_2.length : Int) = (0 : Int) ∨ ¬hs_2[((↑hs_2.length : Int) - (1 : Int)).toNat]! = of (List.map short ((List.map of vs).mergeSort fun x y ↦ !ltV y x))[i_1.toNat]!)))) })] [0, 4, 12, 13, 14, 7, 37] [1004, 7] (by kernel_rfl) (by kernel_rfl) ⟨(by kernel_rfl), (told_eqn h_10), (con61 (of (List.map short ((List.map of vs).mergeSort fun x y ↦ !ltV y x))[i_1.toNat]!) (vs)), (by simp only [eq_false h_10, told_simp1, told_simp2, and_true, true_and, and_false, false_and, or_true, true_or, or_false, false_or, not_true_eq_false, not_false_eq_true, decide_true, decide_false, Bool.decide_eq_true])⟩ ?_
          exact ⟨rfl, rfl⟩
      ·
        refine q_seq_normal ?_
        refine st_dec (lateV vs (of (List.map short ((List.map of vs).mergeSort fun x y ↦ !ltV y x))[i_1.toNat]!) = true ∧ ((↑hs_2.length : Int) = (0 : Int) ∨ ¬hs_2[((↑hs_2.length : Int) - (1 : Int)).toNat]! = of (List.map short ((List.map of vs).mergeSort fun x y ↦ !ltV y x))[i_1.toNat]!)) (by kernel_rfl) (by kernel_rfl) (fun h_12 => ?_) (fun h_12 => ?_)
        ·
          refine st_reg (A := ((cA (AV.i IntKind.i64) (of (List.map short ((List.map of vs).mergeSort fun x y ↦ !ltV y x))[i_1.toNat]!)).length = (16 : Nat)) ∧ (chunks (16 : Nat) (1 : Nat) (List.take ((0 : Nat) * (16 : Nat)) (List.replicate (1 : Nat) [AV.i IntKind.i64 (0 : Int), AV.i IntKind.i64 (0 : Int), AV.i IntKind.i64 (0 : Int), AV.i IntKind.i64 (0 : Int), AV.i IntKind.i64 (0 : Int), AV.i IntKind.i64 (0 : Int), AV.i IntKind.i64 (0 : Int), AV.i IntKind.i64 (0 : Int), AV.i IntKind.i64 (0 : Int), AV.i IntKind.i64 (0 : Int), AV.i IntKind.i64 (0 : Int), AV.i IntKind.i64 (0 : Int), AV.i IntKind.i64 (0 : Int), AV.i IntKind.i64 (0 : Int), AV.i IntKind.i64 (0 : Int), AV.i IntKind.i64 (0 : Int)]).flatten ++ cellsA (AV.agg (cA (AV.i IntKind.i64) (of (List.map short ((List.map of vs).mergeSort fun x y ↦ !ltV y x))[i_1.toNat]!))) ++ List.drop ((0 : Nat) * (16 : Nat) + (16 : Nat)) (List.replicate (1 : Nat) [AV.i IntKind.i64 (0 : Int), AV.i IntKind.i64 (0 : Int), AV.i IntKind.i64 (0 : Int), AV.i IntKind.i64 (0 : Int), AV.i IntKind.i64 (0 : Int), AV.i IntKind.i64 (0 : Int), AV.i IntKind.i64 (0 : Int), AV.i IntKind.i64 (0 : Int), AV.i IntKind.i64 (0 : Int), AV.i IntKind.i64 (0 : Int), AV.i IntKind.i64 (0 : Int), AV.i IntKind.i64 (0 : Int), AV.i IntKind.i64 (0 : Int), AV.i IntKind.i64 (0 : Int), AV.i IntKind.i64 (0 : Int), AV.i IntKind.i64 (0 : Int)]).flatten) = List.map c62 [of (List.map short ((List.map of vs).mergeSort fun x y ↦ !ltV y x))[i_1.toNat]!]) ∧ (62 = (62 : Nat)) ∧ ((16 : Nat) = 16) ∧ ([AV.i IntKind.i64 (0 : Int), AV.i IntKind.i64 (0 : Int), AV.i IntKind.i64 (0 : Int), AV.i IntKind.i64 (0 : Int), AV.i IntKind.i64 (0 : Int), AV.i IntKind.i64 (0 : Int), AV.i IntKind.i64 (0 : Int), AV.i IntKind.i64 (0 : Int), AV.i IntKind.i64 (0 : Int), AV.i IntKind.i64 (0 : Int), AV.i IntKind.i64 (0 : Int), AV.i IntKind.i64 (0 : Int), AV.i IntKind.i64 (0 : Int), AV.i IntKind.i64 (0 : Int), AV.i IntKind.i64 (0 : Int), AV.i IntKind.i64 (0 : Int)].length = (16 : Nat)) ∧ (∀ (r : List AV), r ∈ List.map c62 [of (List.map short ((List.map of vs).mergeSort fun x y ↦ !ltV y x))[i_1.toNat]!] → r.length = 16) ∧ ((List.map c62 hs_2).length + (List.map c62 [of (List.map short ((List.map of vs).mergeSort fun x y ↦ !ltV y x))[i_1.toNat]!]).length ≤ maxLen) ∧ (((List.map c62 hs_2).length + (List.map c62 [of (List.map short ((List.map of vs).mergeSort fun x y ↦ !ltV y x))[i_1.toNat]!]).length) * (128 : Nat) ≤ (140737488355328 : Nat)) ∧ (List.map c62 hs_2 ++ List.map c62 [of (List.map short ((List.map of vs).mergeSort fun x y ↦ !ltV y x))[i_1.toNat]!] = List.map c62 (hs_2 ++ [of (List.map short ((List.map of vs).mergeSort fun x y ↦ !ltV y x))[i_1.toNat]!]))) (σ' := ⟨[(0, .sl (List.map c22 vs)), (4, .own 1004 0), (12, .sl (List.map c22 (List.map short ((List.map of vs).mergeSort fun x y ↦ !ltV y x)))), (13, .i .i64 ((↑(List.map short ((List.map of vs).mergeSort fun x y ↦ !ltV y x)).length : Int))), (14, .i .i64 (i_1))], [(1004, ⟨0, 62, .row 16 (List.map c62 (hs_2 ++ [of (List.map short ((List.map of vs).mergeSort fun x y ↦ !ltV y x))[i_1.toNat]!]))⟩)]⟩) cx [(2, { rows := some (List.map c62 [of (List.map short ((List.map of vs).mergeSort fun x y ↦ !ltV y x))[i_1.toNat]!]) }), (3, { rows := some (List.map c62 (hs_2 ++ [of (List.map short ((List.map of vs).mergeSort fun x y ↦ !ltV y x))[i_1.toNat]!])) })] [0, 4, 12, 13, 14] [1004] (by kernel_rfl) (by kernel_rfl) ⟨(by kernel_rfl), (by (exact told_chunk (len_cA _ _))), (by kernel_rfl), (by kernel_rfl), (by kernel_rfl), (by ((with_reducible refine len_map (fun _ => ?_) _); exact len_cA _ _)), (by (simp only [Go.maxLen, List.length_map, List.length_append, List.length_cons, List.length_nil]; omega)), (by (simp only [Go.maxLen, List.length_map, List.length_append, List.length_cons, List.length_nil]; omega)), (by (with_reducible refine app_map ?_; kernel_rfl))⟩ ?_
          refine q_blk_normal ?_
          refine q_seq_normal ?_
          refine st_reg (A := (AV.i IntKind.i64 (IntKind.i64.wrap (i_1 + (1 : Int))) = AV.i IntKind.i64 (i_1 + (1 : Int)))) (σ' := ⟨[(0, .sl (List.map c22 vs)), (4, .own 1004 0), (12, .sl (List.map c22 (List.map short ((List.map of vs).mergeSort fun x y ↦ !ltV y x)))), (13, .i .i64 ((↑(List.map short ((List.map of vs).mergeSort fun x y ↦ !ltV y x)).length : Int))), (14, .i .i64 (i_1 + (1 : Int)))], [(1004, ⟨0, 62, .row 16 (List.map c62 (hs_2 ++ [of (List.map short ((List.map of vs).mergeSort fun x y ↦ !ltV y x))[i_1.toNat]!]))⟩)]⟩) cx [(0, { tell := some (.i .i64 (i_1 + (1 : Int))) })] [0, 4, 12, 13, 14] [1004] (by kernel_rfl) (by kernel_rfl) (told_i64 (by omega) (by omega)) ?_
          refine q_seq_normal ?_
          exact loop_next ((i_1 + (1 : Int), hs_2 ++ [of (List.map short ((List.map of vs).mergeSort fun x y ↦ !ltV y x))[i_1.toNat]!])) (by kernel_rfl) (show ((↑vs.length : Int) - (i_1 + (1 : Int))).toNat < ((↑vs.length : Int) - i_1).toNat from (g5 h_0 i_1 hs_2 h_4 h_5 h_6 h_7 h_8 h_12)) (g6 h_0 i_1 hs_2 h_4 h_5 h_6 h_7 h_8 h_12)
        ·
          refine st_skip (by kernel_rfl) ?_
          refine q_blk_normal ?_
          refine q_seq_normal ?_
          refine st_reg (A := (AV.i IntKind.i64 (IntKind.i64.wrap (i_1 + (1 : Int))) = AV.i IntKind.i64 (i_1 + (1 : Int)))) (σ' := ⟨[(0, .sl (List.map c22 vs)), (4, .own 1004 0), (12, .sl (List.map c22 (List.map short ((List.map of vs).mergeSort fun x y ↦ !ltV y x)))), (13, .i .i64 ((↑(List.map short ((List.map of vs).mergeSort fun x y ↦ !ltV y x)).length : Int))), (14, .i .i64 (i_1 + (1 : Int)))], [(1004, ⟨0, 62, .row 16 (List.map c62 hs_2)⟩)]⟩) cx [(0, { tell := some (.i .i64 (i_1 + (1 : Int))) })] [0, 4, 12, 13, 14] [1004] (by kernel_rfl) (by kernel_rfl) (told_i64 (by omega) (by omega)) ?_
          refine q_seq_normal ?_
          exact loop_next ((i_1 + (1 : Int), hs_2)) (by kernel_rfl) (show ((↑vs.length : Int) - (i_1 + (1 : Int))).toNat < ((↑vs.length : Int) - i_1).toNat from (g7 h_0 i_1 hs_2 h_4 h_5 h_6 h_7 h_8 h_12)) (g8 h_0 i_1 hs_2 h_4 h_5 h_6 h_7 h_8 h_12)
    ·
      refine st_exit 0 (by kernel_rfl) ?_
      refine q_seq_exit ?_
      refine q_seq_exit ?_
      refine q_blk_hit ?_
      refine q_seq_normal ?_
      refine st_seq (by kernel_rfl) ?_
      refine st_reg (A := (Con Try.prog (60 : FuncId) [AV.sl (List.map c62 hs_2)] (AV.sl (List.map c22 (List.map short hs_2))))) (σ' := ⟨[(2, .sl (List.map c22 (List.map short hs_2))), (3, .i .i64 ((0 : Int)))], []⟩) cx [(1, { val := some (.sl (List.map c22 (List.map short hs_2))) })] [2, 3] [] (by kernel_rfl) (by kernel_rfl) (con60 (hs_2) (by omega)) ?_
      refine q_seq_normal ?_
      refine st_ret (by kernel_rfl) ?_
      exact q_ret (r := .tup [.sl (List.map c22 (List.map short hs_2)), .i .i64 ((0 : Int))]) (obl := []) (by kernel_rfl) trivial (AVle.tup (ZLe.cons (AVle.eq (g10 h_0 i_1 hs_2 h_4 h_5 h_6 h_7 h_8)) (ZLe.cons (AVle.eq (g9 h_0 i_1 hs_2 h_4 h_5 h_6 h_7 h_8)) ZLe.nil)))
theorem con48 (vs : List (List Int)) (hl : vs.length * 128 ≤ 140737488351232) : Con Try.prog 48 [.sl (vs.map c22)] (.tup [.sl ((headsV vs).1.map c22), .i .i64 (headsV vs).2]) :=
  by
  have hL := srt_len vs
  refine walk48 vs hl (fun h => by rw [headsV, if_pos (by omega)]) (fun h => by rw [headsV, if_pos (by omega)]; rfl) (fun h => ⟨by omega, by omega, rfl, by simp⟩)
    (fun h i hs h0 h1 h2 h3 h4 h5 h6 => get_map (by omega)) (fun h i hs h0 h1 h2 h3 h4 h5 h6 => Nat.le_of_eq (len_cA _ _).symm)
    (fun h i hs h0 h1 h2 h3 h4 h5 => by omega) (fun h i hs h0 h1 h2 h3 h4 h5 => ?_) (fun h i hs h0 h1 h2 h3 h4 h5 => by omega) (fun h i hs h0 h1 h2 h3 h4 h5 => ?_)
    (fun h i hs h0 h1 h2 h3 h4 => by rw [headsV, if_neg (by omega)]) (fun h i hs h0 h1 h2 h3 h4 => ?_)
  · have hs' := heads_step h0 (by omega) h2
    rw [srt_get h0 (by omega)] at h5 ⊢
    rwa [if_pos h5] at hs'
  · have hs' := heads_step h0 (by omega) h2
    rw [srt_get h0 (by omega)] at h5
    rwa [if_neg h5] at hs'
  · rw [headsV, if_neg (by omega), h2]
    have : i.toNat = vs.length := by omega
    rw [this]
end Go.Proofs.Ytoeifjooljkpaaa
