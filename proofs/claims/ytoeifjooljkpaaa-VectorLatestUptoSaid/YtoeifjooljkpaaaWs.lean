/- Ws: vector.Sort. Conditions: sizes. -/
import Derived.Test.YtoeifjooljkpaaaWr
set_option linter.unusedVariables false
set_option linter.unusedSimpArgs false
namespace Go.Proofs.Ytoeifjooljkpaaa
open Go.E
set_option maxRecDepth 100000
set_option maxHeartbeats 4000000
def inv60 (all : List (Vector Int 16)) (i : Int) (l : List (List Int)) : Prop := 0 ≤ i ∧ i ≤ all.length ∧ l = (all.take i.toNat).map short ++ List.replicate (all.length - i.toNat) []
def dec60 (all : List (Vector Int 16)) (i : Int) (l : List (List Int)) : Nat := (all.length - i).toNat
def inv45 (vs : List (List Int)) (i : Int) (l : List (Vector Int 16)) : Prop := 0 ≤ i ∧ i ≤ vs.length ∧ l = (vs.take i.toNat).map of ++ List.replicate (vs.length - i.toNat) (Vector.replicate 16 0)
def dec45 (vs : List (List Int)) (i : Int) (l : List (Vector Int 16)) : Nat := (vs.length - i).toNat
theorem set_whole {X cs : List AV} {n : Nat} (h : X.length = n) : List.take 0 X ++ cs ++ List.drop (0 + n) X = cs := by
  rw [Nat.zero_add, List.drop_of_length_le (by omega)]; simp
theorem fill_step {α β : Type} [Inhabited α] (f : α → β) (z : β) (vs : List α) {i : Int} (h0 : 0 ≤ i) (h : i < vs.length) :
    ((vs.take i.toNat).map f ++ List.replicate (vs.length - i.toNat) z).set i.toNat (f vs[i.toNat]!) = (vs.take (i + 1).toNat).map f ++ List.replicate (vs.length - (i + 1).toNat) z := by
  have e0 : (i + 1).toNat = i.toNat + 1 := by omega
  have hi : i.toNat < vs.length := by omega
  have e1 : ((vs.take i.toNat).map f).length = i.toNat := by simp; omega
  rw [show vs.length - i.toNat = (vs.length - (i + 1).toNat) + 1 by omega, List.replicate_succ, List.set_append_right _ _ (by omega), e1, Nat.sub_self, List.set_cons_zero, e0, ← List.take_append_getElem hi, getElem!_pos vs _ hi, List.map_append, List.append_assoc]
  rfl
theorem fill_len {α β : Type} (f : α → β) (z : β) (vs : List α) {i : Int} (h0 : 0 ≤ i) (h : i ≤ vs.length) : ((vs.take i.toNat).map f ++ List.replicate (vs.length - i.toNat) z).length = vs.length := by
  simp; omega
theorem fill_end {α β : Type} (f : α → β) (z : β) (vs : List α) {i : Int} (h0 : 0 ≤ i) (h : ¬ i < vs.length) : (vs.take i.toNat).map f ++ List.replicate (vs.length - i.toNat) z = vs.map f := by
  rw [List.take_of_length_le (by omega), show vs.length - i.toNat = 0 by omega]; simp
theorem walk60 (l : List (Vector Int (16 : Nat))) (hl : l.length * (128 : Nat) ≤ (140737488351232 : Nat))
    (g0 : ZLe [AV.nl] [AV.sl (List.map c3 [])])
    (g1 : inv60 l (0 : Int) (List.replicate l.length []))
    (g2 : ∀ (i_0 : Int) (l_1 : List (List Int)), (0 : Int) ≤ i_0 → i_0 ≤ (↑l.length : Int) → l_1 = List.map short (List.take i_0.toNat l) ++ List.replicate (l.length - i_0.toNat) [] → i_0 < (↑l.length : Int) → (c62 l[i_0.toNat]!).length = (16 : Nat))
    (g3 : ∀ (i_0 : Int) (l_1 : List (List Int)), (0 : Int) ≤ i_0 → i_0 ≤ (↑l.length : Int) → l_1 = List.map short (List.take i_0.toNat l) ++ List.replicate (l.length - i_0.toNat) [] → i_0 < (↑l.length : Int) → (16 : Nat) ≤ (c62 l[i_0.toNat]!).length)
    (g4 : ∀ (i_0 : Int) (l_1 : List (List Int)), (0 : Int) ≤ i_0 → i_0 ≤ (↑l.length : Int) → l_1 = List.map short (List.take i_0.toNat l) ++ List.replicate (l.length - i_0.toNat) [] → i_0 < (↑l.length : Int) → i_0.toNat < (List.map c22 l_1).length)
    (g5 : ∀ (i_0 : Int) (l_1 : List (List Int)), (0 : Int) ≤ i_0 → i_0 ≤ (↑l.length : Int) → l_1 = List.map short (List.take i_0.toNat l) ++ List.replicate (l.length - i_0.toNat) [] → i_0 < (↑l.length : Int) → (List.map c22 l_1)[i_0.toNat]? = some (c22 l_1[i_0.toNat]!))
    (g6 : ∀ (i_0 : Int) (l_1 : List (List Int)), (0 : Int) ≤ i_0 → i_0 ≤ (↑l.length : Int) → l_1 = List.map short (List.take i_0.toNat l) ++ List.replicate (l.length - i_0.toNat) [] → i_0 < (↑l.length : Int) → inv60 l (i_0 + (1 : Int)) (l_1.set i_0.toNat (short l[i_0.toNat]!)))
    (g7 : ∀ (i_0 : Int) (l_1 : List (List Int)), (0 : Int) ≤ i_0 → i_0 ≤ (↑l.length : Int) → l_1 = List.map short (List.take i_0.toNat l) ++ List.replicate (l.length - i_0.toNat) [] → ¬i_0 < (↑l.length : Int) → AV.sl (List.map c22 l_1) = AV.sl (List.map c22 (List.map short l))) :
    Con Try.prog (60 : FuncId) [AV.sl (List.map c62 l)] (AV.sl (List.map c22 (List.map short l))) := by
  refine con_lens 0 (c62) (l) (by kernel_rfl) Go.Proofs.Try.func60 (by kernel_rfl) fun hl_0 => ?_
  refine st_con tab_ok (by kernel_rfl) [.tmp 2] 23 Go.Proofs.Try.func60 (by kernel_rfl) (by kernel_rfl) ?_
  intro e0 cx
  refine st_seq (by kernel_rfl) ?_
  refine st_reg (A := True) (σ' := ⟨[(0, .sl (List.map c62 l))], []⟩) cx [] [0] [] (by kernel_rfl) (by kernel_rfl) trivial ?_
  refine q_seq_normal ?_
  refine st_seq (by kernel_rfl) ?_
  refine st_reg (A := (AV.i IntKind.i64 (↑(List.map c62 l).length : Int) = AV.i IntKind.i64 (↑l.length : Int)) ∧ ((↑l.length : Int) = (↑l.length : Int)) ∧ ((↑l.length : Int) = (↑l.length : Int)) ∧ ((24 : Nat) * l.length ≤ (281474976710656 : Nat)) ∧ (l.length ≤ maxLen) ∧ ([AV.sl (List.map c3 [])].length = (1 : Nat)) ∧ (ZLe [AV.nl] [AV.sl (List.map c3 [])]) ∧ (List.replicate l.length [AV.sl (List.map c3 [])] = List.map c22 (List.replicate l.length []))) (σ' := ⟨[(0, .sl (List.map c62 l)), (3, .own 8 0)], [(8, ⟨0, 22, .row 1 (List.map c22 (List.replicate l.length []))⟩)]⟩) cx [(1, { tell := some (.i .i64 ((↑l.length : Int))) }), (2, { row := [.sl (List.map c3 [])], rows := some (List.map c22 (List.replicate l.length [])), n := l.length })] [0, 3] [8] (by kernel_rfl) (by kernel_rfl) ⟨(told_len c62 l), (by kernel_rfl), (by kernel_rfl), (by omega), (by (simp only [Go.maxLen]; omega)), (by kernel_rfl), g0, (by (with_reducible refine rep_map ?_; kernel_rfl))⟩ ?_
  refine q_seq_normal ?_
  refine st_seq (by kernel_rfl) ?_
  refine st_seq (by kernel_rfl) ?_
  refine st_reg (A := (AV.i IntKind.i64 (↑(List.map c62 l).length : Int) = AV.i IntKind.i64 (↑l.length : Int))) (σ' := ⟨[(3, .own 8 0), (9, .sl (List.map c62 l)), (10, .i .i64 ((↑l.length : Int))), (11, .i .i64 ((0 : Int)))], [(8, ⟨0, 22, .row 1 (List.map c22 (List.replicate l.length []))⟩)]⟩) cx [(1, { tell := some (.i .i64 ((↑l.length : Int))) })] [3, 9, 10, 11] [8] (by kernel_rfl) (by kernel_rfl) (told_len c62 l) ?_
  refine q_seq_normal ?_
  refine st_block 0 (by kernel_rfl) ?_
  refine st_loop (X := Int × List (List Int)) (fun x => ⟨[(3, .own 8 0), (9, .sl (List.map c62 l)), (10, .i .i64 ((↑l.length : Int))), (11, .i .i64 (x.fst))], [(8, ⟨0, 22, .row 1 (List.map c22 x.snd)⟩)]⟩) (fun x ↦ dec60 l x.fst x.snd) (fun x ↦ inv60 l x.fst x.snd) [3, 9, 10, 11] [8] (((0 : Int), List.replicate l.length [])) (by kernel_rfl) (by kernel_rfl) g1 ?_
  rintro ⟨i_0, l_1⟩ h_2
  obtain ⟨h_3, h_4, h_5⟩ : (0 : Int) ≤ i_0 ∧ i_0 ≤ (↑l.length : Int) ∧ l_1 = List.map short (List.take i_0.toNat l) ++ List.replicate (l.length - i_0.toNat) [] := h_2
  refine st_seq (by kernel_rfl) ?_
  refine st_reg (A := (AV.b (decide (i_0 < (↑l.length : Int))) = AV.b (decide (i_0 < (↑l.length : Int))))) (σ' := ⟨[(3, .own 8 0), (9, .sl (List.map c62 l)), (10, .i .i64 ((↑l.length : Int))), (11, .i .i64 (i_0)), (12, .b (decide (i_0 < (↑l.length : Int))))], [(8, ⟨0, 22, .row 1 (List.map c22 l_1)⟩)]⟩) cx [(0, { tell := some (.b (decide (i_0 < (↑l.length : Int)))) })] [3, 9, 10, 11, 12] [8] (by kernel_rfl) (by kernel_rfl) (by kernel_rfl) ?_
  refine q_seq_normal ?_
  refine st_seq (by kernel_rfl) ?_
  refine st_dec (i_0 < (↑l.length : Int)) (by kernel_rfl) (by kernel_rfl) (fun h_6 => ?_) (fun h_6 => ?_)
  ·
    refine st_skip (by kernel_rfl) ?_
    refine q_seq_normal ?_
    refine st_seq (by kernel_rfl) ?_
    refine st_block 1 (by kernel_rfl) ?_
    refine st_seq (by kernel_rfl) ?_
    refine st_reg (A := ((0 : Int) ≤ i_0) ∧ ((List.map c62 l)[i_0.toNat]? = some (c62 l[i_0.toNat]!)) ∧ ((c62 l[i_0.toNat]!).length = (16 : Nat)) ∧ (AV.agg (List.take (16 : Nat) (c62 l[i_0.toNat]!)) = AV.agg (c62 l[i_0.toNat]!)) ∧ ((16 : Nat) ≤ (c62 l[i_0.toNat]!).length) ∧ ((cA (AV.i IntKind.i64) l[i_0.toNat]!).length = (cA (AV.i IntKind.i64) (Vector.replicate (16 : Nat) (0 : Int))).length) ∧ ((cA (AV.i IntKind.i64) l[i_0.toNat]!).length = (16 : Nat))) (σ' := ⟨[(3, .own 8 0), (9, .sl (List.map c62 l)), (10, .i .i64 ((↑l.length : Int))), (11, .i .i64 (i_0)), (5, .ptr (5) (0) (0) (0)), (4, .i .i64 (i_0))], [(8, ⟨0, 22, .row 1 (List.map c22 l_1)⟩), (5, ⟨0, 62, .arr (cA (AV.i IntKind.i64) l[i_0.toNat]!)⟩)]⟩) cx [(1, { row := (c62 l[i_0.toNat]!) }), (2, { tell := some (.agg (c62 l[i_0.toNat]!)) })] [3, 9, 10, 11, 5, 4] [8, 5] (by kernel_rfl) (by kernel_rfl) ⟨(by (with_reducible assumption)), (by (with_reducible refine get_map ?_; omega)), (g2 i_0 l_1 h_3 h_4 h_5 h_6), (told_take (AV.i IntKind.i64) l[i_0.toNat]!), (g3 i_0 l_1 h_3 h_4 h_5 h_6), (by (simp only [len_cA]; done)), (by (simp only [len_cA]; done))⟩ ?_
    refine q_seq_normal ?_
    refine st_reg (A := ((cA (AV.i IntKind.i64) l[i_0.toNat]!).length = (16 : Nat)) ∧ (Con Try.prog (51 : FuncId) [AV.agg (c62 l[i_0.toNat]!)] (AV.sl (List.map c3 (short l[i_0.toNat]!)))) ∧ ((0 : Int) ≤ i_0) ∧ (i_0.toNat < (List.map c22 l_1).length) ∧ ((1 : Nat) = 1) ∧ ((List.map c22 l_1)[i_0.toNat]? = some (c22 l_1[i_0.toNat]!)) ∧ ((cellsA (AV.sl (List.map c3 (short l[i_0.toNat]!)))).length = (1 : Nat)) ∧ (0 + (1 : Nat) ≤ 1) ∧ ((List.map c22 l_1).set i_0.toNat (List.take (0) (c22 l_1[i_0.toNat]!) ++ cellsA (AV.sl (List.map c3 (short l[i_0.toNat]!))) ++ List.drop (0 + (1 : Nat)) (c22 l_1[i_0.toNat]!)) = List.map c22 (l_1.set i_0.toNat (short l[i_0.toNat]!)))) (σ' := ⟨[(3, .own 8 0), (9, .sl (List.map c62 l)), (10, .i .i64 ((↑l.length : Int))), (11, .i .i64 (i_0))], [(8, ⟨0, 22, .row 1 (List.map c22 (l_1.set i_0.toNat (short l[i_0.toNat]!)))⟩)]⟩) cx [(3, { val := some (.sl (List.map c3 (short l[i_0.toNat]!))) }), (5, { row := (c22 l_1[i_0.toNat]!), rows := some (List.map c22 (l_1.set i_0.toNat (short l[i_0.toNat]!))) })] [3, 9, 10, 11] [8] (by kernel_rfl) (by kernel_rfl) ⟨(by (simp only [len_cA]; done)), (con51 (l[i_0.toNat]!)), (by (with_reducible assumption)), (g4 i_0 l_1 h_3 h_4 h_5 h_6), (by kernel_rfl), (g5 i_0 l_1 h_3 h_4 h_5 h_6), (by kernel_rfl), (by (first | omega | (simp only [List.length_map]; omega))), (by (with_reducible refine set_map ?_; kernel_rfl))⟩ ?_
    refine q_blk_normal ?_
    refine q_seq_normal ?_
    refine st_reg (A := (AV.i IntKind.i64 (IntKind.i64.wrap (i_0 + (1 : Int))) = AV.i IntKind.i64 (i_0 + (1 : Int)))) (σ' := ⟨[(3, .own 8 0), (9, .sl (List.map c62 l)), (10, .i .i64 ((↑l.length : Int))), (11, .i .i64 (i_0 + (1 : Int)))], [(8, ⟨0, 22, .row 1 (List.map c22 (l_1.set i_0.toNat (short l[i_0.toNat]!)))⟩)]⟩) cx [(0, { tell := some (.i .i64 (i_0 + (1 : Int))) })] [3, 9, 10, 11] [8] (by kernel_rfl) (by kernel_rfl) (told_i64 (by omega) (by omega)) ?_
    refine q_seq_normal ?_
    exact loop_next ((i_0 + (1 : Int), l_1.set i_0.toNat (short l[i_0.toNat]!))) (by kernel_rfl) (show ((↑l.length : Int) - (i_0 + (1 : Int))).toNat < ((↑l.length : Int) - i_0).toNat from (by omega)) (g6 i_0 l_1 h_3 h_4 h_5 h_6)
  ·
    refine st_exit 0 (by kernel_rfl) ?_
    refine q_seq_exit ?_
    refine q_seq_exit ?_
    refine q_blk_hit ?_
    refine q_seq_normal ?_
    refine st_seq (by kernel_rfl) ?_
    refine st_reg (A := True) (σ' := ⟨[(2, .own 8 0)], [(8, ⟨0, 22, .row 1 (List.map c22 l_1)⟩)]⟩) cx [] [2] [8] (by kernel_rfl) (by kernel_rfl) trivial ?_
    refine q_seq_normal ?_
    refine st_ret (by kernel_rfl) ?_
    exact q_ret (r := .sl (List.map c22 l_1)) (obl := []) (by kernel_rfl) trivial (AVle.eq (g7 i_0 l_1 h_3 h_4 h_5 h_6))
theorem con60 (l : List (Vector Int 16)) (hl : l.length * 128 ≤ 140737488351232) : Con Try.prog 60 [.sl (l.map c62)] (.sl ((l.map short).map c22)) :=
  walk60 l hl (ZLe.cons AVle.nl ZLe.nil) ⟨by omega, by omega, by simp⟩ (fun _ _ _ _ _ _ => len_cA _ _) (fun _ _ _ _ _ _ => Nat.le_of_eq (len_cA _ _).symm)
    (fun i l1 k0 k1 k2 k3 => by rw [List.length_map, k2, fill_len _ _ _ k0 k1]; omega)
    (fun i l1 k0 k1 k2 k3 => get_map (by rw [k2, fill_len _ _ _ k0 k1]; omega))
    (fun i l1 k0 k1 k2 k3 => ⟨by omega, by omega, by rw [k2]; exact fill_step _ _ _ k0 k3⟩)
    (fun i l1 k0 k1 k2 k3 => by rw [k2, fill_end _ _ _ k0 k3])
theorem walk45 (vs : List (List Int)) (hl : vs.length * (128 : Nat) ≤ (140737488351232 : Nat))
    (g0 : ZLe [AV.i IntKind.i64 (0 : Int), AV.i IntKind.i64 (0 : Int), AV.i IntKind.i64 (0 : Int), AV.i IntKind.i64 (0 : Int), AV.i IntKind.i64 (0 : Int), AV.i IntKind.i64 (0 : Int), AV.i IntKind.i64 (0 : Int), AV.i IntKind.i64 (0 : Int), AV.i IntKind.i64 (0 : Int), AV.i IntKind.i64 (0 : Int), AV.i IntKind.i64 (0 : Int), AV.i IntKind.i64 (0 : Int), AV.i IntKind.i64 (0 : Int), AV.i IntKind.i64 (0 : Int), AV.i IntKind.i64 (0 : Int), AV.i IntKind.i64 (0 : Int)] (cA (AV.i IntKind.i64) (Vector.replicate (16 : Nat) (0 : Int))))
    (g1 : inv45 vs (0 : Int) (List.replicate vs.length (Vector.replicate (16 : Nat) (0 : Int))))
    (g2 : ∀ (i_0 : Int) (l_1 : List (Vector Int (16 : Nat))), (0 : Int) ≤ i_0 → i_0 ≤ (↑vs.length : Int) → l_1 = List.map of (List.take i_0.toNat vs) ++ List.replicate (vs.length - i_0.toNat) (Vector.replicate (16 : Nat) (0 : Int)) → i_0 < (↑vs.length : Int) → i_0.toNat < (List.map c62 l_1).length)
    (g3 : ∀ (i_0 : Int) (l_1 : List (Vector Int (16 : Nat))), (0 : Int) ≤ i_0 → i_0 ≤ (↑vs.length : Int) → l_1 = List.map of (List.take i_0.toNat vs) ++ List.replicate (vs.length - i_0.toNat) (Vector.replicate (16 : Nat) (0 : Int)) → i_0 < (↑vs.length : Int) → (List.map c62 l_1)[i_0.toNat]? = some (c62 l_1[i_0.toNat]!))
    (g4 : ∀ (i_0 : Int) (l_1 : List (Vector Int (16 : Nat))), (0 : Int) ≤ i_0 → i_0 ≤ (↑vs.length : Int) → l_1 = List.map of (List.take i_0.toNat vs) ++ List.replicate (vs.length - i_0.toNat) (Vector.replicate (16 : Nat) (0 : Int)) → i_0 < (↑vs.length : Int) → inv45 vs (i_0 + (1 : Int)) (l_1.set i_0.toNat (of vs[i_0.toNat]!)))
    (g5 : ∀ (i_0 : Int) (l_1 : List (Vector Int (16 : Nat))), (0 : Int) ≤ i_0 → i_0 ≤ (↑vs.length : Int) → l_1 = List.map of (List.take i_0.toNat vs) ++ List.replicate (vs.length - i_0.toNat) (Vector.replicate (16 : Nat) (0 : Int)) → ¬i_0 < (↑vs.length : Int) → ∀ (v : Vector Int (16 : Nat)), v ∈ l_1 → inRange v)
    (g6 : ∀ (i_0 : Int) (l_1 : List (Vector Int (16 : Nat))), (0 : Int) ≤ i_0 → i_0 ≤ (↑vs.length : Int) → l_1 = List.map of (List.take i_0.toNat vs) ++ List.replicate (vs.length - i_0.toNat) (Vector.replicate (16 : Nat) (0 : Int)) → ¬i_0 < (↑vs.length : Int) → l_1.length < (1152921504606846976 : Nat))
    (g7 : ∀ (i_0 : Int) (l_1 : List (Vector Int (16 : Nat))), (0 : Int) ≤ i_0 → i_0 ≤ (↑vs.length : Int) → l_1 = List.map of (List.take i_0.toNat vs) ++ List.replicate (vs.length - i_0.toNat) (Vector.replicate (16 : Nat) (0 : Int)) → ¬i_0 < (↑vs.length : Int) → (l_1.mergeSort fun x y ↦ !ltV y x).length * (128 : Nat) ≤ (140737488351232 : Nat))
    (g8 : ∀ (i_0 : Int) (l_1 : List (Vector Int (16 : Nat))), (0 : Int) ≤ i_0 → i_0 ≤ (↑vs.length : Int) → l_1 = List.map of (List.take i_0.toNat vs) ++ List.replicate (vs.length - i_0.toNat) (Vector.replicate (16 : Nat) (0 : Int)) → ¬i_0 < (↑vs.length : Int) → AV.sl (List.map c22 (List.map short (l_1.mergeSort fun x y ↦ !ltV y x))) = AV.sl (List.map c22 (List.map short ((List.map of vs).mergeSort fun x y ↦ !ltV y x)))) :
    Con Try.prog (45 : FuncId) [AV.sl (List.map c22 vs)] (AV.sl (List.map c22 (List.map short ((List.map of vs).mergeSort fun x y ↦ !ltV y x)))) := by
  refine con_lens 0 (c22) (vs) (by kernel_rfl) Go.Proofs.Try.func45 (by kernel_rfl) fun hl_0 => ?_
  refine st_con tab_ok (by kernel_rfl) [.tmp 2] 28 Go.Proofs.Try.func45 (by kernel_rfl) (by kernel_rfl) ?_
  intro e0 cx
  refine st_seq (by kernel_rfl) ?_
  refine st_reg (A := True) (σ' := ⟨[(0, .sl (List.map c22 vs))], []⟩) cx [] [0] [] (by kernel_rfl) (by kernel_rfl) trivial ?_
  refine q_seq_normal ?_
  refine st_seq (by kernel_rfl) ?_
  refine st_reg (A := (AV.i IntKind.i64 (↑(List.map c22 vs).length : Int) = AV.i IntKind.i64 (↑vs.length : Int)) ∧ ((↑vs.length : Int) = (↑vs.length : Int)) ∧ ((↑vs.length : Int) = (↑vs.length : Int)) ∧ ((128 : Nat) * vs.length ≤ (281474976710656 : Nat)) ∧ (vs.length ≤ maxLen) ∧ ((cA (AV.i IntKind.i64) (Vector.replicate (16 : Nat) (0 : Int))).length = (16 : Nat)) ∧ (ZLe [AV.i IntKind.i64 (0 : Int), AV.i IntKind.i64 (0 : Int), AV.i IntKind.i64 (0 : Int), AV.i IntKind.i64 (0 : Int), AV.i IntKind.i64 (0 : Int), AV.i IntKind.i64 (0 : Int), AV.i IntKind.i64 (0 : Int), AV.i IntKind.i64 (0 : Int), AV.i IntKind.i64 (0 : Int), AV.i IntKind.i64 (0 : Int), AV.i IntKind.i64 (0 : Int), AV.i IntKind.i64 (0 : Int), AV.i IntKind.i64 (0 : Int), AV.i IntKind.i64 (0 : Int), AV.i IntKind.i64 (0 : Int), AV.i IntKind.i64 (0 : Int)] (cA (AV.i IntKind.i64) (Vector.replicate (16 : Nat) (0 : Int)))) ∧ (List.replicate vs.length (cA (AV.i IntKind.i64) (Vector.replicate (16 : Nat) (0 : Int))) = List.map c62 (List.replicate vs.length (Vector.replicate (16 : Nat) (0 : Int))))) (σ' := ⟨[(0, .sl (List.map c22 vs)), (3, .ptr (3) (0) (0) (0))], [(8, ⟨0, 62, .row 16 (List.map c62 (List.replicate vs.length (Vector.replicate (16 : Nat) (0 : Int))))⟩), (3, ⟨0, 70, .var [.own 8 0]⟩)]⟩) cx [(1, { tell := some (.i .i64 ((↑vs.length : Int))) }), (2, { row := (cA (AV.i IntKind.i64) (Vector.replicate (16 : Nat) (0 : Int))), rows := some (List.map c62 (List.replicate vs.length (Vector.replicate (16 : Nat) (0 : Int)))), n := vs.length })] [0, 3] [8, 3] (by kernel_rfl) (by kernel_rfl) ⟨(told_len c22 vs), (by kernel_rfl), (by kernel_rfl), (by omega), (by (simp only [Go.maxLen]; omega)), (by kernel_rfl), g0, (by (with_reducible refine rep_map ?_; kernel_rfl))⟩ ?_
  refine q_seq_normal ?_
  refine st_seq (by kernel_rfl) ?_
  refine st_seq (by kernel_rfl) ?_
  refine st_reg (A := (AV.i IntKind.i64 (↑(List.map c22 vs).length : Int) = AV.i IntKind.i64 (↑vs.length : Int))) (σ' := ⟨[(3, .ptr (3) (0) (0) (0)), (9, .sl (List.map c22 vs)), (10, .i .i64 ((↑vs.length : Int))), (11, .i .i64 ((0 : Int)))], [(8, ⟨0, 62, .row 16 (List.map c62 (List.replicate vs.length (Vector.replicate (16 : Nat) (0 : Int))))⟩), (3, ⟨0, 70, .var [.own 8 0]⟩)]⟩) cx [(1, { tell := some (.i .i64 ((↑vs.length : Int))) })] [3, 9, 10, 11] [8, 3] (by kernel_rfl) (by kernel_rfl) (told_len c22 vs) ?_
  refine q_seq_normal ?_
  refine st_block 0 (by kernel_rfl) ?_
  refine st_loop (X := Int × List (Vector Int (16 : Nat))) (fun x => ⟨[(3, .ptr (3) (0) (0) (0)), (9, .sl (List.map c22 vs)), (10, .i .i64 ((↑vs.length : Int))), (11, .i .i64 (x.fst))], [(8, ⟨0, 62, .row 16 (List.map c62 x.snd)⟩), (3, ⟨0, 70, .var [.own 8 0]⟩)]⟩) (fun x ↦ dec45 vs x.fst x.snd) (fun x ↦ inv45 vs x.fst x.snd) [3, 9, 10, 11] [8, 3] (((0 : Int), List.replicate vs.length (Vector.replicate (16 : Nat) (0 : Int)))) (by kernel_rfl) (by kernel_rfl) g1 ?_
  rintro ⟨i_0, l_1⟩ h_2
  obtain ⟨h_3, h_4, h_5⟩ : (0 : Int) ≤ i_0 ∧ i_0 ≤ (↑vs.length : Int) ∧ l_1 = List.map of (List.take i_0.toNat vs) ++ List.replicate (vs.length - i_0.toNat) (Vector.replicate (16 : Nat) (0 : Int)) := h_2
  refine st_seq (by kernel_rfl) ?_
  refine st_reg (A := (AV.b (decide (i_0 < (↑vs.length : Int))) = AV.b (decide (i_0 < (↑vs.length : Int))))) (σ' := ⟨[(3, .ptr (3) (0) (0) (0)), (9, .sl (List.map c22 vs)), (10, .i .i64 ((↑vs.length : Int))), (11, .i .i64 (i_0)), (12, .b (decide (i_0 < (↑vs.length : Int))))], [(8, ⟨0, 62, .row 16 (List.map c62 l_1)⟩), (3, ⟨0, 70, .var [.own 8 0]⟩)]⟩) cx [(0, { tell := some (.b (decide (i_0 < (↑vs.length : Int)))) })] [3, 9, 10, 11, 12] [8, 3] (by kernel_rfl) (by kernel_rfl) (by kernel_rfl) ?_
  refine q_seq_normal ?_
  refine st_seq (by kernel_rfl) ?_
  refine st_dec (i_0 < (↑vs.length : Int)) (by kernel_rfl) (by kernel_rfl) (fun h_6 => ?_) (fun h_6 => ?_)
  ·
    refine st_skip (by kernel_rfl) ?_
    refine q_seq_normal ?_
    refine st_seq (by kernel_rfl) ?_
    refine st_block 1 (by kernel_rfl) ?_
    refine st_seq (by kernel_rfl) ?_
    refine st_reg (A := ((0 : Int) ≤ i_0) ∧ ((List.map c22 vs)[i_0.toNat]? = some (c22 vs[i_0.toNat]!)) ∧ ((c22 vs[i_0.toNat]!).length = (1 : Nat))) (σ' := ⟨[(3, .ptr (3) (0) (0) (0)), (9, .sl (List.map c22 vs)), (10, .i .i64 ((↑vs.length : Int))), (11, .i .i64 (i_0)), (4, .i .i64 (i_0)), (5, .sl (List.map c3 vs[i_0.toNat]!))], [(8, ⟨0, 62, .row 16 (List.map c62 l_1)⟩), (3, ⟨0, 70, .var [.own 8 0]⟩)]⟩) cx [(1, { row := (c22 vs[i_0.toNat]!) })] [3, 9, 10, 11, 4, 5] [8, 3] (by kernel_rfl) (by kernel_rfl) ⟨(by (with_reducible assumption)), (by (with_reducible refine get_map ?_; omega)), (by kernel_rfl)⟩ ?_
    refine q_seq_normal ?_
    refine st_any (A := (Con Try.prog (49 : FuncId) [AV.sl (List.map c3 vs[i_0.toNat]!)] (AV.agg (c62 (of vs[i_0.toNat]!)))) ∧ ((0 : Int) ≤ i_0) ∧ (i_0.toNat < (List.map c62 l_1).length) ∧ ((16 : Nat) = 16) ∧ ((List.map c62 l_1)[i_0.toNat]? = some (c62 l_1[i_0.toNat]!)) ∧ ((cellsA (AV.agg (cA (AV.i IntKind.i64) (of vs[i_0.toNat]!)))).length = (16 : Nat)) ∧ (0 + (16 : Nat) ≤ 16) ∧ ((List.map c62 l_1).set i_0.toNat (List.take (0) (c62 l_1[i_0.toNat]!) ++ cellsA (AV.agg (cA (AV.i IntKind.i64) (of vs[i_0.toNat]!))) ++ List.drop (0 + (16 : Nat)) (c62 l_1[i_0.toNat]!)) = List.map c62 (l_1.set i_0.toNat (of vs[i_0.toNat]!)))) (σ' := ⟨[(3, .ptr (3) (0) (0) (0)), (9, .sl (List.map c22 vs)), (10, .i .i64 ((↑vs.length : Int))), (11, .i .i64 (i_0))], [(8, ⟨0, 62, .row 16 (List.map c62 (l_1.set i_0.toNat (of vs[i_0.toNat]!)))⟩), (3, ⟨0, 70, .var [.own 8 0]⟩)]⟩) cx [(3, { val := some (.agg (cA (AV.i IntKind.i64) (of vs[i_0.toNat]!))) }), (5, { row := (c62 l_1[i_0.toNat]!), rows := some (List.map c62 (l_1.set i_0.toNat (of vs[i_0.toNat]!))) })] [3, 9, 10, 11] [8, 3] (by kernel_rfl) (by kernel_rfl) ⟨(con49 (vs[i_0.toNat]!)), (by (with_reducible assumption)), (g2 i_0 l_1 h_3 h_4 h_5 h_6), (by kernel_rfl), (g3 i_0 l_1 h_3 h_4 h_5 h_6), (by kernel_rfl), (by (first | omega | (simp only [List.length_map]; omega))), (by ((with_reducible refine set_map ?_); exact set_whole (len_cA _ _)))⟩ ?_
    refine q_blk_normal ?_
    refine q_seq_normal ?_
    refine st_reg (A := (AV.i IntKind.i64 (IntKind.i64.wrap (i_0 + (1 : Int))) = AV.i IntKind.i64 (i_0 + (1 : Int)))) (σ' := ⟨[(3, .ptr (3) (0) (0) (0)), (9, .sl (List.map c22 vs)), (10, .i .i64 ((↑vs.length : Int))), (11, .i .i64 (i_0 + (1 : Int)))], [(8, ⟨0, 62, .row 16 (List.map c62 (l_1.set i_0.toNat (of vs[i_0.toNat]!)))⟩), (3, ⟨0, 70, .var [.own 8 0]⟩)]⟩) cx [(0, { tell := some (.i .i64 (i_0 + (1 : Int))) })] [3, 9, 10, 11] [8, 3] (by kernel_rfl) (by kernel_rfl) (told_i64 (by omega) (by omega)) ?_
    refine q_seq_normal ?_
    exact loop_next ((i_0 + (1 : Int), l_1.set i_0.toNat (of vs[i_0.toNat]!))) (by kernel_rfl) (show ((↑vs.length : Int) - (i_0 + (1 : Int))).toNat < ((↑vs.length : Int) - i_0).toNat from (by omega)) (g4 i_0 l_1 h_3 h_4 h_5 h_6)
  ·
    refine st_exit 0 (by kernel_rfl) ?_
    refine q_seq_exit ?_
    refine q_seq_exit ?_
    refine q_blk_hit ?_
    refine q_seq_normal ?_
    refine st_seq (by kernel_rfl) ?_
    refine st_reg (A := (AV.own (8) (0) = AV.own (8) (0)) ∧ (IOConG Try.prog (58 : FuncId) (59 : FuncId) (some (70 : Nat)) true (62 : Nat) (16 : Nat) (List.map c62 l_1) (List.map c62 (l_1.mergeSort fun x y ↦ !ltV y x)))) (σ' := ⟨[(3, .ptr (3) (0) (0) (0))], [(8, ⟨0, 62, .row 16 (List.map c62 (l_1.mergeSort fun x y ↦ !ltV y x))⟩), (3, ⟨0, 70, .var [.own 8 0]⟩)]⟩) cx [(3, { rows := some (List.map c62 (l_1.mergeSort fun x y ↦ !ltV y x)) })] [3] [8, 3] (by kernel_rfl) (by kernel_rfl) ⟨(by kernel_rfl), (io58 (l_1) (g5 i_0 l_1 h_3 h_4 h_5 h_6) (g6 i_0 l_1 h_3 h_4 h_5 h_6))⟩ ?_
    refine q_seq_normal ?_
    refine st_seq (by kernel_rfl) ?_
    refine st_reg (A := (Con Try.prog (60 : FuncId) [AV.sl (List.map c62 (l_1.mergeSort fun x y ↦ !ltV y x))] (AV.sl (List.map c22 (List.map short (l_1.mergeSort fun x y ↦ !ltV y x)))))) (σ' := ⟨[(2, .sl (List.map c22 (List.map short (l_1.mergeSort fun x y ↦ !ltV y x))))], []⟩) cx [(1, { val := some (.sl (List.map c22 (List.map short (l_1.mergeSort fun x y ↦ !ltV y x)))) })] [2] [] (by kernel_rfl) (by kernel_rfl) (con60 (l_1.mergeSort fun x y ↦ !ltV y x) (g7 i_0 l_1 h_3 h_4 h_5 h_6)) ?_
    refine q_seq_normal ?_
    refine st_ret (by kernel_rfl) ?_
    exact q_ret (r := .sl (List.map c22 (List.map short (l_1.mergeSort fun x y ↦ !ltV y x)))) (obl := []) (by kernel_rfl) trivial (AVle.eq (g8 i_0 l_1 h_3 h_4 h_5 h_6))
theorem con45 (vs : List (List Int)) (hl : vs.length * 128 ≤ 140737488351232) : Con Try.prog 45 [.sl (vs.map c22)] (.sl ((((vs.map of).mergeSort (fun x y => !ltV y x)).map short).map c22)) :=
  walk45 vs hl (by unfold cA; exact ZLe.refl _) ⟨by omega, by omega, by simp⟩
    (fun i l1 k0 k1 k2 k3 => by rw [List.length_map, k2, fill_len _ _ _ k0 k1]; omega)
    (fun i l1 k0 k1 k2 k3 => get_map (by rw [k2, fill_len _ _ _ k0 k1]; omega))
    (fun i l1 k0 k1 k2 k3 => ⟨by omega, by omega, by rw [k2]; exact fill_step _ _ _ k0 k3⟩)
    (fun i l1 k0 k1 k2 k3 v hv => by rw [k2, fill_end _ _ _ k0 k3] at hv; obtain ⟨x, _, rfl⟩ := List.mem_map.1 hv; exact of_range x)
    (fun i l1 k0 k1 k2 k3 => by rw [k2, fill_len _ _ _ k0 k1]; omega)
    (fun i l1 k0 k1 k2 k3 => by rw [List.length_mergeSort, k2, fill_len _ _ _ k0 k1]; omega)
    (fun i l1 k0 k1 k2 k3 => by rw [k2, fill_end _ _ _ k0 k3])
end Go.Proofs.Ytoeifjooljkpaaa
