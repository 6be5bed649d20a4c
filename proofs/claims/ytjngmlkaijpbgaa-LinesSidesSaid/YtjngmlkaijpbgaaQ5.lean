/- R10: LinesSides answers true for every input, and the input reads as it did. Conditions: none. (with texts that it needs)  -/
import Derived.ProofKit
import Derived.SizedLaws
import Derived.JoinedCond
import Derived.Deep.CondSized
import Derived.Test.YtjngmlkaijpbgaaRows
import Derived.Test.YtjngmlkaijpbgaaQ4
set_option linter.unusedVariables false
set_option linter.unusedSimpArgs false
namespace Go.Proofs.Ytjngmlkaijpbgaa
open Go.E
set_option maxRecDepth 100000
set_option maxHeartbeats 4000000
def zipR (lo hi : List Int) : List Run := List.zipWith (fun a b => ⟨a, b⟩) lo hi
def isIns (lo hi : List Int) (i : Int) (l : List Int) : Prop := l = insR ((zipR lo hi).take i.toNat)
def isOuts (lo hi : List Int) (i : Int) (l : List Int) : Prop := l = outsR ((zipR lo hi).take i.toNat)
def invTa (lo hi : List Int) (i : Int) (a b : List Int) : Prop := 0 ≤ i ∧ i ≤ lo.length ∧ (a.length : Int) ≤ i ∧ (b.length : Int) = a.length ∧ isIns lo hi i a ∧ isOuts lo hi i b
def decTa (lo : List Int) (i : Int) (a b : List Int) : Nat := (lo.length - i).toNat
def isSw (A B : List Int) (i j : Int) (t : List Int) : Prop := VW (A.drop i.toNat) (B.drop j.toNat) (i - j).toNat ∧ j ≤ i ∧ t ++ sw (A.drop i.toNat) (B.drop j.toNat) (i - j).toNat = sw A B 0
def invTb (A B : List Int) (d j i : Int) (t : List Int) : Prop := 0 ≤ i ∧ i ≤ A.length ∧ 0 ≤ j ∧ j ≤ B.length ∧ d = i - j ∧ (t.length : Int) ≤ i + j ∧ isSw A B i j t
def decTb (A B : List Int) (d j i : Int) (t : List Int) : Nat := (A.length + B.length - i - j).toNat
theorem isSw_len {A B : List Int} {i j : Int} {t : List Int} (h0 : 0 ≤ i) (hi : i ≤ A.length) (j0 : 0 ≤ j) (jl : j ≤ B.length) (h : isSw A B i j t) : A.length = B.length := by
  have := h.1.len
  have := h.2.1
  simp only [List.length_drop] at *
  omega
theorem isSw_in {A B : List Int} {i j : Int} {t : List Int} (h0 : 0 ≤ i) (hi : i < A.length) (j0 : 0 ≤ j) (jl : j ≤ B.length) (hle : A[i.toNat]! ≤ B[j.toNat]!) (h : isSw A B i j t) :
    isSw A B (i + 1) j (if i - j = 0 then t ++ [A[i.toNat]!] else t) := by
  have hl := isSw_len h0 (by omega) j0 jl h
  obtain ⟨v, hji, e⟩ := h
  have hj : j < B.length := by omega
  rw [drop_at h0 hi, drop_at j0 hj] at v e
  rw [sw, if_pos hle] at e
  refine ⟨?_, by omega, ?_⟩
  · rw [drop_at j0 hj, show (i + 1 - j).toNat = (i - j).toNat + 1 by omega]; exact v.in_ hle
  · rw [← e, drop_at j0 hj, show (i + 1 - j).toNat = (i - j).toNat + 1 by omega]
    by_cases z : i - j = 0
    · rw [if_pos z, if_pos (show (i - j).toNat = 0 by omega), List.append_assoc]
    · rw [if_neg z, if_neg (show ¬ (i - j).toNat = 0 by omega)]; rfl
theorem isSw_out {A B : List Int} {i j : Int} {t : List Int} (h0 : 0 ≤ i) (hi : i ≤ A.length) (j0 : 0 ≤ j) (jl : j ≤ B.length) (ho : i < A.length ∨ j < B.length) (hn : ¬ (i < A.length ∧ A[i.toNat]! ≤ B[j.toNat]!)) (h : isSw A B i j t) :
    j < B.length ∧ j < i ∧ isSw A B i (j + 1) (if i - j - 1 = 0 then t ++ [B[j.toNat]!] else t) := by
  have hl := isSw_len h0 hi j0 jl h
  obtain ⟨v, hji, e⟩ := h
  have hj : j < B.length := by omega
  rw [drop_at j0 hj] at v e
  by_cases hA : i < A.length
  · have hba : B[j.toNat]! < A[i.toNat]! := by have : ¬ A[i.toNat]! ≤ B[j.toNat]! := fun k => hn ⟨hA, k⟩; omega
    rw [drop_at h0 hA] at v e
    have hp := v.pos hba
    rw [sw, if_neg (by omega)] at e
    refine ⟨hj, by omega, ?_, by omega, ?_⟩
    · rw [drop_at h0 hA, show (i - (j + 1)).toNat = (i - j).toNat - 1 by omega]; exact v.out hba
    · rw [← e, drop_at h0 hA, show (i - (j + 1)).toNat = (i - j).toNat - 1 by omega]
      by_cases z : i - j - 1 = 0
      · rw [if_pos z, if_pos (show (i - j).toNat = 1 by omega), List.append_assoc]
      · rw [if_neg z, if_neg (show ¬ (i - j).toNat = 1 by omega)]; rfl
  · rw [List.drop_of_length_le (l := A) (by omega)] at v e
    have hp := v.end_
    rw [sw] at e
    refine ⟨hj, by omega, ?_, by omega, ?_⟩
    · rw [List.drop_of_length_le (l := A) (by omega), show (i - (j + 1)).toNat = (i - j).toNat - 1 by omega]; exact hp.2
    · rw [← e, List.drop_of_length_le (l := A) (by omega), show (i - (j + 1)).toNat = (i - j).toNat - 1 by omega]
      by_cases z : i - j - 1 = 0
      · rw [if_pos z, if_pos (show (i - j).toNat = 1 by omega), List.append_assoc]
      · rw [if_neg z, if_neg (show ¬ (i - j).toNat = 1 by omega)]; rfl
theorem isSw_end {A B : List Int} {i j : Int} {t : List Int} (ho : ¬ (i < A.length ∨ j < B.length)) (h : isSw A B i j t) : t = sw A B 0 := by
  have e := h.2.2
  rw [List.drop_of_length_le (by omega), List.drop_of_length_le (by omega), sw, List.append_nil] at e
  exact e
theorem zip_len {lo hi : List Int} (h : lo.length = hi.length) : (zipR lo hi).length = lo.length := by
  unfold zipR; rw [List.length_zipWith]; omega
theorem zip_step {lo hi : List Int} {i : Int} (h : lo.length = hi.length) (h0 : 0 ≤ i) (hi' : i < lo.length) : (zipR lo hi).take (i + 1).toNat = (zipR lo hi).take i.toNat ++ [⟨lo[i.toNat]!, hi[i.toNat]!⟩] := by
  rw [← take_step h0 (by rw [zip_len h]; exact hi')]
  congr 2
  have := zip_len h
  rw [getElem!_pos (zipR lo hi) i.toNat (by omega), getElem!_pos lo i.toNat (by omega), getElem!_pos hi i.toNat (by omega)]
  simp [zipR]
theorem ins_app (a : List Run) (r : Run) : insR (a ++ [r]) = insR a ++ if (clipR r).lo ≤ (clipR r).hi then [(clipR r).lo] else [] := by
  unfold insR
  rw [keepR_app, keepR_one, List.map_append]
  split <;> rfl
theorem outs_app (a : List Run) (r : Run) : outsR (a ++ [r]) = outsR a ++ if (clipR r).lo ≤ (clipR r).hi then [(clipR r).hi + 1] else [] := by
  unfold outsR
  rw [keepR_app, keepR_one, List.map_append]
  split <;> rfl
theorem isIns_in {lo hi : List Int} {i : Int} {a b : List Int} (h : lo.length = hi.length) (h0 : 0 ≤ i) (hl : i < lo.length) (hc : max lo[i.toNat]! 1 ≤ min hi[i.toNat]! 1000000000) (ha : isIns lo hi i a) (hb : isOuts lo hi i b) :
    isIns lo hi (i + 1) (a ++ [max lo[i.toNat]! 1]) ∧ isOuts lo hi (i + 1) (b ++ [min hi[i.toNat]! 1000000000 + 1]) := by
  unfold isIns isOuts at *
  have hc' : (clipR ⟨lo[i.toNat]!, hi[i.toNat]!⟩).lo ≤ (clipR ⟨lo[i.toNat]!, hi[i.toNat]!⟩).hi := hc
  rw [zip_step h h0 hl, ins_app, outs_app, ← ha, ← hb, if_pos hc', if_pos hc']
  exact ⟨rfl, rfl⟩
theorem isIns_out {lo hi : List Int} {i : Int} {a b : List Int} (h : lo.length = hi.length) (h0 : 0 ≤ i) (hl : i < lo.length) (hc : ¬ max lo[i.toNat]! 1 ≤ min hi[i.toNat]! 1000000000) (ha : isIns lo hi i a) (hb : isOuts lo hi i b) :
    isIns lo hi (i + 1) a ∧ isOuts lo hi (i + 1) b := by
  unfold isIns isOuts at *
  have hc' : ¬ (clipR ⟨lo[i.toNat]!, hi[i.toNat]!⟩).lo ≤ (clipR ⟨lo[i.toNat]!, hi[i.toNat]!⟩).hi := hc
  rw [zip_step h h0 hl, ins_app, outs_app, ← ha, ← hb, if_neg hc', if_neg hc', List.append_nil, List.append_nil]
  exact ⟨rfl, rfl⟩
theorem isIns_end {lo hi : List Int} {i : Int} {a b : List Int} (h : lo.length = hi.length) (hl : ¬ i < lo.length) (ha : isIns lo hi i a) (hb : isOuts lo hi i b) : a.mergeSort leI = insS (zipR lo hi) ∧ b.mergeSort leI = outsS (zipR lo hi) := by
  unfold isIns isOuts at *
  have := zip_len h
  rw [ha, hb, List.take_of_length_le (by omega)]
  exact ⟨rfl, rfl⟩
theorem isSw_start (l : List Run) : isSw (insS l) (outsS l) 0 0 [] := ⟨sweep_ok l, by omega, by simp⟩
theorem con134 (lo hi : List Int) (h : lo.length = hi.length) (hb : lo.length * 16 ≤ 140737488351232) : Con Try.prog 134 [.sl (lo.map c3), .sl (hi.map c3)] (.sl ((turnsR (nrm (zipR lo hi))).map c3)) :=
  by
  refine con_lens 0 (c3) (lo) (by kernel_rfl) Go.Proofs.Try.func134 (by kernel_rfl) fun hl_0 => ?_
  refine con_lens 1 (c3) (hi) (by kernel_rfl) Go.Proofs.Try.func134 (by kernel_rfl) fun hl_1 => ?_
  refine st_con tab_ok (by kernel_rfl) [.tmp 4] 98 Go.Proofs.Try.func134 (by kernel_rfl) (by kernel_rfl) ?_
  intro e0 cx
  refine sq ?_
  refine rg (A := True) cx [] [0, 1] [] trivial ?_
  refine sn ?_
  refine sq ?_
  refine rg (A := True) cx [] [0, 1, 5, 6] [] trivial ?_
  refine sn ?_
  refine sq ?_
  refine sq ?_
  refine rg (A := True) cx [] [0, 1, 5, 6, 7] [] trivial ?_
  refine sn ?_
  refine st_block 0 (by kernel_rfl) ?_
  refine awp_adopt 5 1005 3 1 (σ' := ⟨[(0, .sl (List.map c3 lo)), (1, .sl (List.map c3 hi)), (5, .own 1005 0), (6, .nl), (7, .i .i64 ((0 : Int)))], [(1005, ⟨0, 3, .row 1 (List.map c3 [])⟩)]⟩) (by kernel_rfl) ?_
  refine awp_adopt 6 1006 3 1 (σ' := ⟨[(0, .sl (List.map c3 lo)), (1, .sl (List.map c3 hi)), (5, .own 1005 0), (6, .own 1006 0), (7, .i .i64 ((0 : Int)))], [(1005, ⟨0, 3, .row 1 (List.map c3 [])⟩), (1006, ⟨0, 3, .row 1 (List.map c3 [])⟩)]⟩) (by kernel_rfl) ?_
  refine st_loop (X := Int × List Int × List Int) (fun x => ⟨[(0, .sl (List.map c3 lo)), (1, .sl (List.map c3 hi)), (5, .own 1005 0), (6, .own 1006 0), (7, .i .i64 (x.fst))], [(1005, ⟨0, 3, .row 1 (List.map c3 x.snd.fst)⟩), (1006, ⟨0, 3, .row 1 (List.map c3 x.snd.snd)⟩)]⟩) (fun x ↦ decTa lo x.fst x.snd.fst x.snd.snd) (fun x ↦ invTa lo hi x.fst x.snd.fst x.snd.snd) [0, 1, 5, 6, 7] [1005, 1006] (((0 : Int), [], [])) (by kernel_rfl) (by kernel_rfl) (show invTa lo hi (0 : Int) [] [] from ?g0) ?_; rotate_left 1
  rintro ⟨i_0, a_1, b_2⟩ h_3
  obtain ⟨h_4, h_5, h_6, h_7, h_8, h_9⟩ : (0 : Int) ≤ i_0 ∧ i_0 ≤ (↑lo.length : Int) ∧ (↑a_1.length : Int) ≤ i_0 ∧ (↑b_2.length : Int) = (↑a_1.length : Int) ∧ isIns lo hi i_0 a_1 ∧ isOuts lo hi i_0 b_2 := h_3
  refine sq ?_
  refine sq ?_
  refine rg (A := _ ∧ (AV.b (decide (i_0 < (↑lo.length : Int))) = AV.b (decide (i_0 < (↑lo.length : Int))))) cx [(2, { tell := some (.i .i64 ((↑lo.length : Int))) }), (3, { tell := some (.b (decide (i_0 < (↑lo.length : Int)))) })] [0, 1, 5, 6, 7, 17] [1005, 1006] ⟨(told_len c3 lo), (by kernel_rfl)⟩ ?_
  refine sn ?_
  refine st_dec (i_0 < (↑lo.length : Int)) (by kernel_rfl) (by kernel_rfl) (fun h_10 => ?_) (fun h_10 => ?_)
  refine st_skip (by kernel_rfl) ?_
  refine sn ?_
  refine sq ?_
  refine st_block 1 (by kernel_rfl) ?_
  refine sq ?_
  refine ra (A := ((0 : Int) ≤ i_0) ∧ ((List.map c3 lo)[i_0.toNat]? = some (c3 lo[i_0.toNat]!)) ∧ ((c3 lo[i_0.toNat]!).length = (1 : Nat)) ∧ (AV.i IntKind.i64 (if (1 : Int) > lo[i_0.toNat]! then (1 : Int) else lo[i_0.toNat]!) = AV.i IntKind.i64 (max lo[i_0.toNat]! (1 : Int))) ∧ ((0 : Int) ≤ i_0) ∧ ((List.map c3 hi)[i_0.toNat]? = some (c3 hi[i_0.toNat]!)) ∧ ((c3 hi[i_0.toNat]!).length = (1 : Nat)) ∧ (AV.i IntKind.i64 (if (1000000000 : Int) < hi[i_0.toNat]! then (1000000000 : Int) else hi[i_0.toNat]!) = AV.i IntKind.i64 (min hi[i_0.toNat]! (1000000000 : Int)))) cx [(2, { row := (c3 lo[i_0.toNat]!) }), (4, { tell := some (.i .i64 (max lo[i_0.toNat]! (1 : Int))) }), (7, { row := (c3 hi[i_0.toNat]!) }), (9, { tell := some (.i .i64 (min hi[i_0.toNat]! (1000000000 : Int))) })] [0, 1, 5, 6, 7, 8, 9] [1005, 1006] ⟨(by (with_reducible assumption)), (by (with_reducible refine get_map ?_; omega)), (by kernel_rfl), (told_max), (by (with_reducible assumption)), (by (with_reducible refine get_map ?_; omega)), (by kernel_rfl), (told_min)⟩ ?_
  refine sn ?_
  refine sq ?_
  refine rg (A := (AV.b (decide (max lo[i_0.toNat]! (1 : Int) ≤ min hi[i_0.toNat]! (1000000000 : Int))) = AV.b (decide (max lo[i_0.toNat]! (1 : Int) ≤ min hi[i_0.toNat]! (1000000000 : Int))))) cx [(2, { tell := some (.b (decide (max lo[i_0.toNat]! (1 : Int) ≤ min hi[i_0.toNat]! (1000000000 : Int)))) })] [0, 1, 5, 6, 7, 8, 9, 32] [1005, 1006] (by kernel_rfl) ?_
  refine sn ?_
  refine st_dec (max lo[i_0.toNat]! (1 : Int) ≤ min hi[i_0.toNat]! (1000000000 : Int)) (by kernel_rfl) (by kernel_rfl) (fun h_11 => ?_) (fun h_11 => ?_)
  refine sq ?_
  refine rg (A := (3 = (3 : Nat)) ∧ ((1 : Nat) = 1) ∧ ([AV.i IntKind.i64 (0 : Int)].length = (1 : Nat)) ∧ (∀ (r : List AV), r ∈ List.map c3 [max lo[i_0.toNat]! (1 : Int)] → r.length = 1) ∧ ((List.map c3 a_1).length + (List.map c3 [max lo[i_0.toNat]! (1 : Int)]).length ≤ maxLen) ∧ (((List.map c3 a_1).length + (List.map c3 [max lo[i_0.toNat]! (1 : Int)]).length) * (8 : Nat) ≤ (140737488355328 : Nat)) ∧ (List.map c3 a_1 ++ List.map c3 [max lo[i_0.toNat]! (1 : Int)] = List.map c3 (a_1 ++ [max lo[i_0.toNat]! (1 : Int)]))) cx [(3, { rows := some (List.map c3 (a_1 ++ [max lo[i_0.toNat]! (1 : Int)])) })] [0, 1, 5, 6, 7, 9] [1005, 1006] ⟨(by kernel_rfl), (by kernel_rfl), (by kernel_rfl), (by (with_reducible refine len_map (fun _ => ?_) _; kernel_rfl)), (by (simp only [Go.maxLen, List.length_map, List.length_append, List.length_cons, List.length_nil]; omega)), (by (simp only [Go.maxLen, List.length_map, List.length_append, List.length_cons, List.length_nil]; omega)), (by (with_reducible refine app_map ?_; kernel_rfl))⟩ ?_
  refine sn ?_
  refine rg (A := (AV.i IntKind.i64 (IntKind.i64.wrap (min hi[i_0.toNat]! (1000000000 : Int) + (1 : Int))) = AV.i IntKind.i64 (min hi[i_0.toNat]! (1000000000 : Int) + (1 : Int))) ∧ (3 = (3 : Nat)) ∧ ((1 : Nat) = 1) ∧ ([AV.i IntKind.i64 (0 : Int)].length = (1 : Nat)) ∧ (∀ (r : List AV), r ∈ List.map c3 [min hi[i_0.toNat]! (1000000000 : Int) + (1 : Int)] → r.length = 1) ∧ ((List.map c3 b_2).length + (List.map c3 [min hi[i_0.toNat]! (1000000000 : Int) + (1 : Int)]).length ≤ maxLen) ∧ (((List.map c3 b_2).length + (List.map c3 [min hi[i_0.toNat]! (1000000000 : Int) + (1 : Int)]).length) * (8 : Nat) ≤ (140737488355328 : Nat)) ∧ (List.map c3 b_2 ++ List.map c3 [min hi[i_0.toNat]! (1000000000 : Int) + (1 : Int)] = List.map c3 (b_2 ++ [min hi[i_0.toNat]! (1000000000 : Int) + (1 : Int)]))) cx [(2, { tell := some (.i .i64 (min hi[i_0.toNat]! (1000000000 : Int) + (1 : Int))) }), (4, { rows := some (List.map c3 (b_2 ++ [min hi[i_0.toNat]! (1000000000 : Int) + (1 : Int)])) })] [0, 1, 5, 6, 7] [1005, 1006] ⟨(told_i64 (by omega) (by omega)), (by kernel_rfl), (by kernel_rfl), (by kernel_rfl), (by (with_reducible refine len_map (fun _ => ?_) _; kernel_rfl)), (by (simp only [Go.maxLen, List.length_map, List.length_append, List.length_cons, List.length_nil]; omega)), (by (simp only [Go.maxLen, List.length_map, List.length_append, List.length_cons, List.length_nil]; omega)), (by (with_reducible refine app_map ?_; kernel_rfl))⟩ ?_
  refine q_blk_normal ?_
  refine sn ?_
  refine rg (A := (AV.i IntKind.i64 (IntKind.i64.wrap (i_0 + (1 : Int))) = AV.i IntKind.i64 (i_0 + (1 : Int)))) cx [(1, { tell := some (.i .i64 (i_0 + (1 : Int))) })] [0, 1, 5, 6, 7] [1005, 1006] (told_i64 (by omega) (by omega)) ?_
  refine sn ?_
  refine loop_next ((i_0 + (1 : Int), a_1 ++ [max lo[i_0.toNat]! (1 : Int)], b_2 ++ [min hi[i_0.toNat]! (1000000000 : Int) + (1 : Int)])) (by kernel_rfl) (show ((↑lo.length : Int) - (i_0 + (1 : Int))).toNat < ((↑lo.length : Int) - i_0).toNat from (by omega)) (show invTa lo hi (i_0 + (1 : Int)) (a_1 ++ [max lo[i_0.toNat]! (1 : Int)]) (b_2 ++ [min hi[i_0.toNat]! (1000000000 : Int) + (1 : Int)]) from ?g1); rotate_left 1
  refine st_skip (by kernel_rfl) ?_
  refine q_blk_normal ?_
  refine sn ?_
  refine rg (A := (AV.i IntKind.i64 (IntKind.i64.wrap (i_0 + (1 : Int))) = AV.i IntKind.i64 (i_0 + (1 : Int)))) cx [(1, { tell := some (.i .i64 (i_0 + (1 : Int))) })] [0, 1, 5, 6, 7] [1005, 1006] (told_i64 (by omega) (by omega)) ?_
  refine sn ?_
  refine loop_next ((i_0 + (1 : Int), a_1, b_2)) (by kernel_rfl) (show ((↑lo.length : Int) - (i_0 + (1 : Int))).toNat < ((↑lo.length : Int) - i_0).toNat from (by omega)) (show invTa lo hi (i_0 + (1 : Int)) a_1 b_2 from ?g2); rotate_left 1
  refine st_exit 0 (by kernel_rfl) ?_
  refine q_seq_exit ?_
  refine q_seq_exit ?_
  refine q_blk_hit ?_
  refine sn ?_
  refine sq ?_
  refine rg (A := _) cx [(1, { val := some (.sl (List.map c3 (a_1.mergeSort leI))) })] [5, 6] [1006] (con139 (a_1) (by omega)) ?_
  refine sn ?_
  refine sq ?_
  refine rg (A := _) cx [(1, { val := some (.sl (List.map c3 (b_2.mergeSort leI))) })] [5, 6] [] (con139 (b_2) (by omega)) ?_
  refine sn ?_
  refine sq ?_
  refine rg (A := True) cx [] [5, 6, 10] [] trivial ?_
  refine sn ?_
  refine sq ?_
  refine rg (A := True) cx [] [5, 6, 10, 11, 12] [] trivial ?_
  refine sn ?_
  refine sq ?_
  refine sq ?_
  refine rg (A := True) cx [] [5, 6, 10, 11, 12, 13] [] trivial ?_
  refine sn ?_
  refine st_block 2 (by kernel_rfl) ?_
  refine awp_adopt 10 1010 3 1 (σ' := ⟨[(5, .sl (List.map c3 (a_1.mergeSort leI))), (6, .sl (List.map c3 (b_2.mergeSort leI))), (10, .own 1010 0), (11, .i .i64 ((0 : Int))), (12, .i .i64 ((0 : Int))), (13, .i .i64 ((0 : Int)))], [(1010, ⟨0, 3, .row 1 (List.map c3 [])⟩)]⟩) (by kernel_rfl) ?_
  refine st_loop (X := Int × Int × Int × List Int) (fun x => ⟨[(5, .sl (List.map c3 (a_1.mergeSort leI))), (6, .sl (List.map c3 (b_2.mergeSort leI))), (10, .own 1010 0), (11, .i .i64 (x.fst)), (12, .i .i64 (x.snd.fst)), (13, .i .i64 (x.snd.snd.fst))], [(1010, ⟨0, 3, .row 1 (List.map c3 x.snd.snd.snd)⟩)]⟩) (fun x ↦ decTb (a_1.mergeSort leI) (b_2.mergeSort leI) x.fst x.snd.fst x.snd.snd.fst x.snd.snd.snd) (fun x ↦ invTb (a_1.mergeSort leI) (b_2.mergeSort leI) x.fst x.snd.fst x.snd.snd.fst x.snd.snd.snd) [5, 6, 10, 11, 12, 13] [1010] (((0 : Int), (0 : Int), (0 : Int), [])) (by kernel_rfl) (by kernel_rfl) (show invTb (a_1.mergeSort leI) (b_2.mergeSort leI) (0 : Int) (0 : Int) (0 : Int) [] from ?g3) ?_; rotate_left 1
  rintro ⟨d_12, j_13, i_14, t_15⟩ h_16
  obtain ⟨h_17, h_18, h_19, h_20, h_21, h_22, h_23⟩ : (0 : Int) ≤ i_14 ∧ i_14 ≤ (↑(a_1.mergeSort leI).length : Int) ∧ (0 : Int) ≤ j_13 ∧ j_13 ≤ (↑(b_2.mergeSort leI).length : Int) ∧ d_12 = i_14 - j_13 ∧ (↑t_15.length : Int) ≤ i_14 + j_13 ∧ isSw (a_1.mergeSort leI) (b_2.mergeSort leI) i_14 j_13 t_15 := h_16
  refine sq ?_
  refine sq ?_
  refine st_join (σ' := ⟨[(5, .sl (List.map c3 (a_1.mergeSort leI))), (6, .sl (List.map c3 (b_2.mergeSort leI))), (10, .own 1010 0), (11, .i .i64 (d_12)), (12, .i .i64 (j_13)), (13, .i .i64 (i_14)), (55, .b (decide (i_14 < (↑(a_1.mergeSort leI).length : Int) ∨ j_13 < (↑(b_2.mergeSort leI).length : Int))))], [(1010, ⟨0, 3, .row 1 (List.map c3 t_15)⟩)]⟩) ?_ ?_
  refine st_split (i_14 < (↑(a_1.mergeSort leI).length : Int)) (fun h_25 => ?_) (fun h_25 => ?_)
  refine rg (A := _ ∧ _ ∧ (AV.b true = AV.b (decide (i_14 < (↑(a_1.mergeSort leI).length : Int) ∨ j_13 < (↑(b_2.mergeSort leI).length : Int))))) cx [(2, { tell := some (.i .i64 ((↑(a_1.mergeSort leI).length : Int))) }), (3, { tell := some (.b (true)) }), (9, { tell := some (.b (decide (i_14 < (↑(a_1.mergeSort leI).length : Int) ∨ j_13 < (↑(b_2.mergeSort leI).length : Int)))) })] [5, 6, 10, 11, 12, 13, 55] [1010] ⟨(told_len c3 (a_1.mergeSort leI)), (told_true h_25), (by simp only [eq_true h_25, told_simp1, told_simp2, and_true, true_and, and_false, false_and, or_true, true_or, or_false, false_or, not_true_eq_false, not_false_eq_true, decide_true, decide_false, Bool.decide_eq_true])⟩ ?_
  exact ⟨rfl, by kernel_rfl⟩
  refine rg (A := _ ∧ _ ∧ _ ∧ (AV.b (decide (j_13 < (↑(b_2.mergeSort leI).length : Int))) = AV.b (decide (j_13 < (↑(b_2.mergeSort leI).length : Int)))) ∧ (AV.b (decide (j_13 < (↑(b_2.mergeSort leI).length : Int))) = AV.b (decide (i_14 < (↑(a_1.mergeSort leI).length : Int) ∨ j_13 < (↑(b_2.mergeSort leI).length : Int))))) cx [(2, { tell := some (.i .i64 ((↑(a_1.mergeSort leI).length : Int))) }), (3, { tell := some (.b (false)) }), (7, { tell := some (.i .i64 ((↑(b_2.mergeSort leI).length : Int))) }), (8, { tell := some (.b (decide (j_13 < (↑(b_2.mergeSort leI).length : Int)))) }), (9, { tell := some (.b (decide (i_14 < (↑(a_1.mergeSort leI).length : Int) ∨ j_13 < (↑(b_2.mergeSort leI).length : Int)))) })] [5, 6, 10, 11, 12, 13, 55] [1010] ⟨(told_len c3 (a_1.mergeSort leI)), (told_false h_25), (told_len c3 (b_2.mergeSort leI)), (by kernel_rfl), (by simp only [eq_false h_25, told_simp1, told_simp2, and_true, true_and, and_false, false_and, or_true, true_or, or_false, false_or, not_true_eq_false, not_false_eq_true, decide_true, decide_false, Bool.decide_eq_true])⟩ ?_
  exact ⟨rfl, by kernel_rfl⟩
  refine sn ?_
  refine st_dec (i_14 < (↑(a_1.mergeSort leI).length : Int) ∨ j_13 < (↑(b_2.mergeSort leI).length : Int)) (by kernel_rfl) (by kernel_rfl) (fun h_26 => ?_) (fun h_26 => ?_)
  refine st_skip (by kernel_rfl) ?_
  refine sn ?_
  refine st_block 3 (by kernel_rfl) ?_
  refine sq ?_
  refine st_join (σ' := ⟨[(5, .sl (List.map c3 (a_1.mergeSort leI))), (6, .sl (List.map c3 (b_2.mergeSort leI))), (10, .own 1010 0), (11, .i .i64 (d_12)), (12, .i .i64 (j_13)), (13, .i .i64 (i_14)), (70, .b (decide (i_14 < (↑(a_1.mergeSort leI).length : Int) ∧ (a_1.mergeSort leI)[i_14.toNat]! ≤ (b_2.mergeSort leI)[j_13.toNat]!)))], [(1010, ⟨0, 3, .row 1 (List.map c3 t_15)⟩)]⟩) ?_ ?_
  refine st_split (i_14 < (↑(a_1.mergeSort leI).length : Int)) (fun h_28 => ?_) (fun h_28 => ?_)
  refine ra (A := _ ∧ _ ∧ ((0 : Int) ≤ i_14) ∧ ((List.map c3 (a_1.mergeSort leI))[i_14.toNat]? = some (c3 (a_1.mergeSort leI)[i_14.toNat]!)) ∧ ((c3 (a_1.mergeSort leI)[i_14.toNat]!).length = (1 : Nat)) ∧ ((0 : Int) ≤ j_13) ∧ ((List.map c3 (b_2.mergeSort leI))[j_13.toNat]? = some (c3 (b_2.mergeSort leI)[j_13.toNat]!)) ∧ ((c3 (b_2.mergeSort leI)[j_13.toNat]!).length = (1 : Nat)) ∧ (AV.b (decide ((a_1.mergeSort leI)[i_14.toNat]! ≤ (b_2.mergeSort leI)[j_13.toNat]!)) = AV.b (decide ((a_1.mergeSort leI)[i_14.toNat]! ≤ (b_2.mergeSort leI)[j_13.toNat]!))) ∧ (AV.b (decide ((a_1.mergeSort leI)[i_14.toNat]! ≤ (b_2.mergeSort leI)[j_13.toNat]!)) = AV.b (decide (i_14 < (↑(a_1.mergeSort leI).length : Int) ∧ (a_1.mergeSort leI)[i_14.toNat]! ≤ (b_2.mergeSort leI)[j_13.toNat]!)))) cx [(2, { tell := some (.i .i64 ((↑(a_1.mergeSort leI).length : Int))) }), (3, { tell := some (.b (true)) }), (7, { row := (c3 (a_1.mergeSort leI)[i_14.toNat]!) }), (11, { row := (c3 (b_2.mergeSort leI)[j_13.toNat]!) }), (13, { tell := some (.b (decide ((a_1.mergeSort leI)[i_14.toNat]! ≤ (b_2.mergeSort leI)[j_13.toNat]!))) }), (14, { tell := some (.b (decide (i_14 < (↑(a_1.mergeSort leI).length : Int) ∧ (a_1.mergeSort leI)[i_14.toNat]! ≤ (b_2.mergeSort leI)[j_13.toNat]!))) })] [5, 6, 10, 11, 12, 13, 70] [1010] ⟨(told_len c3 (a_1.mergeSort leI)), (told_true h_28), (by (with_reducible assumption)), (by (with_reducible refine get_map ?_; omega)), (by kernel_rfl), (by (with_reducible assumption)), ?g4, (by kernel_rfl), (by kernel_rfl), (by simp only [eq_true h_28, told_simp1, told_simp2, and_true, true_and, and_false, false_and, or_true, true_or, or_false, false_or, not_true_eq_false, not_false_eq_true, decide_true, decide_false, Bool.decide_eq_true])⟩ ?_; rotate_left 1
  exact ⟨rfl, by kernel_rfl⟩
  refine ra (A := _ ∧ _ ∧ (AV.b false = AV.b (decide (i_14 < (↑(a_1.mergeSort leI).length : Int) ∧ (a_1.mergeSort leI)[i_14.toNat]! ≤ (b_2.mergeSort leI)[j_13.toNat]!)))) cx [(2, { tell := some (.i .i64 ((↑(a_1.mergeSort leI).length : Int))) }), (3, { tell := some (.b (false)) }), (14, { tell := some (.b (decide (i_14 < (↑(a_1.mergeSort leI).length : Int) ∧ (a_1.mergeSort leI)[i_14.toNat]! ≤ (b_2.mergeSort leI)[j_13.toNat]!))) })] [5, 6, 10, 11, 12, 13, 70] [1010] ⟨(told_len c3 (a_1.mergeSort leI)), (told_false h_28), (by simp only [eq_false h_28, told_simp1, told_simp2, and_true, true_and, and_false, false_and, or_true, true_or, or_false, false_or, not_true_eq_false, not_false_eq_true, decide_true, decide_false, Bool.decide_eq_true])⟩ ?_
  exact ⟨rfl, by kernel_rfl⟩
  refine sn ?_
  refine st_dec (i_14 < (↑(a_1.mergeSort leI).length : Int) ∧ (a_1.mergeSort leI)[i_14.toNat]! ≤ (b_2.mergeSort leI)[j_13.toNat]!) (by kernel_rfl) (by kernel_rfl) (fun h_29 => ?_) (fun h_29 => ?_)
  refine sq ?_
  refine sq ?_
  refine rg (A := (AV.b (d_12 == (0 : Int)) = AV.b (decide (d_12 = (0 : Int))))) cx [(1, { tell := some (.b (decide (d_12 = (0 : Int)))) })] [5, 6, 10, 11, 12, 13, 72] [1010] (by kernel_rfl) ?_
  refine sn ?_
  refine st_dec (d_12 = (0 : Int)) (by kernel_rfl) (by kernel_rfl) (fun h_30 => ?_) (fun h_30 => ?_)
  refine rg (A := ((0 : Int) ≤ i_14) ∧ ((List.map c3 (a_1.mergeSort leI))[i_14.toNat]? = some (c3 (a_1.mergeSort leI)[i_14.toNat]!)) ∧ ((c3 (a_1.mergeSort leI)[i_14.toNat]!).length = (1 : Nat)) ∧ (3 = (3 : Nat)) ∧ ((1 : Nat) = 1) ∧ ([AV.i IntKind.i64 (0 : Int)].length = (1 : Nat)) ∧ (∀ (r : List AV), r ∈ List.map c3 [(a_1.mergeSort leI)[i_14.toNat]!] → r.length = 1) ∧ ((List.map c3 t_15).length + (List.map c3 [(a_1.mergeSort leI)[i_14.toNat]!]).length ≤ maxLen) ∧ (((List.map c3 t_15).length + (List.map c3 [(a_1.mergeSort leI)[i_14.toNat]!]).length) * (8 : Nat) ≤ (140737488355328 : Nat)) ∧ (List.map c3 t_15 ++ List.map c3 [(a_1.mergeSort leI)[i_14.toNat]!] = List.map c3 (t_15 ++ [(a_1.mergeSort leI)[i_14.toNat]!]))) cx [(3, { row := (c3 (a_1.mergeSort leI)[i_14.toNat]!) }), (6, { rows := some (List.map c3 (t_15 ++ [(a_1.mergeSort leI)[i_14.toNat]!])) })] [5, 6, 10, 11, 12, 13] [1010] ⟨(by (with_reducible assumption)), (by (with_reducible refine get_map ?_; omega)), (by kernel_rfl), (by kernel_rfl), (by kernel_rfl), (by kernel_rfl), (by (with_reducible refine len_map (fun _ => ?_) _; kernel_rfl)), ?g5, ?g6, (by (with_reducible refine app_map ?_; kernel_rfl))⟩ ?_; rotate_left 2
  refine sn ?_
  refine sq ?_
  refine rg (A := (AV.i IntKind.i64 (IntKind.i64.wrap (d_12 + (1 : Int))) = AV.i IntKind.i64 (d_12 + (1 : Int)))) cx [(1, { tell := some (.i .i64 (d_12 + (1 : Int))) })] [5, 6, 10, 11, 12, 13] [1010] (told_i64 (by omega) (by omega)) ?_
  refine sn ?_
  refine rg (A := (AV.i IntKind.i64 (IntKind.i64.wrap (i_14 + (1 : Int))) = AV.i IntKind.i64 (i_14 + (1 : Int)))) cx [(1, { tell := some (.i .i64 (i_14 + (1 : Int))) })] [5, 6, 10, 11, 12, 13] [1010] (told_i64 (by omega) ?g7) ?_; rotate_left 1
  refine q_blk_normal ?_
  refine sn ?_
  refine loop_next ((d_12 + (1 : Int), j_13, i_14 + (1 : Int), t_15 ++ [(a_1.mergeSort leI)[i_14.toNat]!])) (by kernel_rfl) (show ((↑(a_1.mergeSort leI).length : Int) + (↑(b_2.mergeSort leI).length : Int) - (i_14 + (1 : Int)) - j_13).toNat < ((↑(a_1.mergeSort leI).length : Int) + (↑(b_2.mergeSort leI).length : Int) - i_14 - j_13).toNat from (by omega)) (show invTb (a_1.mergeSort leI) (b_2.mergeSort leI) (d_12 + (1 : Int)) j_13 (i_14 + (1 : Int)) (t_15 ++ [(a_1.mergeSort leI)[i_14.toNat]!]) from ?g8); rotate_left 1
  refine st_skip (by kernel_rfl) ?_
  refine sn ?_
  refine sq ?_
  refine rg (A := (AV.i IntKind.i64 (IntKind.i64.wrap (d_12 + (1 : Int))) = AV.i IntKind.i64 (d_12 + (1 : Int)))) cx [(1, { tell := some (.i .i64 (d_12 + (1 : Int))) })] [5, 6, 10, 11, 12, 13] [1010] (told_i64 ?g9 ?g10) ?_; rotate_left 2
  refine sn ?_
  refine rg (A := (AV.i IntKind.i64 (IntKind.i64.wrap (i_14 + (1 : Int))) = AV.i IntKind.i64 (i_14 + (1 : Int)))) cx [(1, { tell := some (.i .i64 (i_14 + (1 : Int))) })] [5, 6, 10, 11, 12, 13] [1010] (told_i64 (by omega) ?g11) ?_; rotate_left 1
  refine q_blk_normal ?_
  refine sn ?_
  refine loop_next ((d_12 + (1 : Int), j_13, i_14 + (1 : Int), t_15)) (by kernel_rfl) (show ((↑(a_1.mergeSort leI).length : Int) + (↑(b_2.mergeSort leI).length : Int) - (i_14 + (1 : Int)) - j_13).toNat < ((↑(a_1.mergeSort leI).length : Int) + (↑(b_2.mergeSort leI).length : Int) - i_14 - j_13).toNat from (by omega)) (show invTb (a_1.mergeSort leI) (b_2.mergeSort leI) (d_12 + (1 : Int)) j_13 (i_14 + (1 : Int)) t_15 from ?g12); rotate_left 1
  refine sq ?_
  refine rg (A := (AV.i IntKind.i64 (IntKind.i64.wrap (d_12 - (1 : Int))) = AV.i IntKind.i64 (d_12 - (1 : Int)))) cx [(1, { tell := some (.i .i64 (d_12 - (1 : Int))) })] [5, 6, 10, 11, 12, 13] [1010] (told_i64 ?g13 ?g14) ?_; rotate_left 2
  refine sn ?_
  refine sq ?_
  refine sq ?_
  refine rg (A := (AV.b (d_12 - (1 : Int) == (0 : Int)) = AV.b (decide (d_12 - (1 : Int) = (0 : Int))))) cx [(1, { tell := some (.b (decide (d_12 - (1 : Int) = (0 : Int)))) })] [5, 6, 10, 11, 12, 13, 87] [1010] (by kernel_rfl) ?_
  refine sn ?_
  refine st_dec (d_12 - (1 : Int) = (0 : Int)) (by kernel_rfl) (by kernel_rfl) (fun h_31 => ?_) (fun h_31 => ?_)
  refine rg (A := ((0 : Int) ≤ j_13) ∧ ((List.map c3 (b_2.mergeSort leI))[j_13.toNat]? = some (c3 (b_2.mergeSort leI)[j_13.toNat]!)) ∧ ((c3 (b_2.mergeSort leI)[j_13.toNat]!).length = (1 : Nat)) ∧ (3 = (3 : Nat)) ∧ ((1 : Nat) = 1) ∧ ([AV.i IntKind.i64 (0 : Int)].length = (1 : Nat)) ∧ (∀ (r : List AV), r ∈ List.map c3 [(b_2.mergeSort leI)[j_13.toNat]!] → r.length = 1) ∧ ((List.map c3 t_15).length + (List.map c3 [(b_2.mergeSort leI)[j_13.toNat]!]).length ≤ maxLen) ∧ (((List.map c3 t_15).length + (List.map c3 [(b_2.mergeSort leI)[j_13.toNat]!]).length) * (8 : Nat) ≤ (140737488355328 : Nat)) ∧ (List.map c3 t_15 ++ List.map c3 [(b_2.mergeSort leI)[j_13.toNat]!] = List.map c3 (t_15 ++ [(b_2.mergeSort leI)[j_13.toNat]!]))) cx [(3, { row := (c3 (b_2.mergeSort leI)[j_13.toNat]!) }), (6, { rows := some (List.map c3 (t_15 ++ [(b_2.mergeSort leI)[j_13.toNat]!])) })] [5, 6, 10, 11, 12, 13] [1010] ⟨(by (with_reducible assumption)), ?g15, (by kernel_rfl), (by kernel_rfl), (by kernel_rfl), (by kernel_rfl), (by (with_reducible refine len_map (fun _ => ?_) _; kernel_rfl)), ?g16, ?g17, (by (with_reducible refine app_map ?_; kernel_rfl))⟩ ?_; rotate_left 3
  refine sn ?_
  refine rg (A := (AV.i IntKind.i64 (IntKind.i64.wrap (j_13 + (1 : Int))) = AV.i IntKind.i64 (j_13 + (1 : Int)))) cx [(1, { tell := some (.i .i64 (j_13 + (1 : Int))) })] [5, 6, 10, 11, 12, 13] [1010] (told_i64 (by omega) ?g18) ?_; rotate_left 1
  refine q_blk_normal ?_
  refine sn ?_
  refine loop_next ((d_12 - (1 : Int), j_13 + (1 : Int), i_14, t_15 ++ [(b_2.mergeSort leI)[j_13.toNat]!])) (by kernel_rfl) (show ((↑(a_1.mergeSort leI).length : Int) + (↑(b_2.mergeSort leI).length : Int) - i_14 - (j_13 + (1 : Int))).toNat < ((↑(a_1.mergeSort leI).length : Int) + (↑(b_2.mergeSort leI).length : Int) - i_14 - j_13).toNat from (by omega)) (show invTb (a_1.mergeSort leI) (b_2.mergeSort leI) (d_12 - (1 : Int)) (j_13 + (1 : Int)) i_14 (t_15 ++ [(b_2.mergeSort leI)[j_13.toNat]!]) from ?g19); rotate_left 1
  refine st_skip (by kernel_rfl) ?_
  refine sn ?_
  refine rg (A := (AV.i IntKind.i64 (IntKind.i64.wrap (j_13 + (1 : Int))) = AV.i IntKind.i64 (j_13 + (1 : Int)))) cx [(1, { tell := some (.i .i64 (j_13 + (1 : Int))) })] [5, 6, 10, 11, 12, 13] [1010] (told_i64 (by omega) ?g20) ?_; rotate_left 1
  refine q_blk_normal ?_
  refine sn ?_
  refine loop_next ((d_12 - (1 : Int), j_13 + (1 : Int), i_14, t_15)) (by kernel_rfl) (show ((↑(a_1.mergeSort leI).length : Int) + (↑(b_2.mergeSort leI).length : Int) - i_14 - (j_13 + (1 : Int))).toNat < ((↑(a_1.mergeSort leI).length : Int) + (↑(b_2.mergeSort leI).length : Int) - i_14 - j_13).toNat from (by omega)) (show invTb (a_1.mergeSort leI) (b_2.mergeSort leI) (d_12 - (1 : Int)) (j_13 + (1 : Int)) i_14 t_15 from ?g21); rotate_left 1
  refine st_exit 2 (by kernel_rfl) ?_
  refine q_seq_exit ?_
  refine q_seq_exit ?_
  refine q_blk_hit ?_
  refine sn ?_
  refine sq ?_
  refine rg (A := True) cx [] [4] [1010] trivial ?_
  refine sn ?_
  refine st_ret (by kernel_rfl) ?_
  refine q_ret (r := .sl (List.map c3 t_15)) (obl := []) (by kernel_rfl) trivial (AVle.eq (show AV.sl (List.map c3 t_15) = AV.sl (List.map c3 (turnsR (nrm (zipR lo hi)))) from ?g22)); rotate_left 1
  rotate_left
  revert i_0 a_1 b_2 h_4 h_5 h_6 h_7 h_8 h_9 h_10 h_11; rotate_left
  revert i_0 a_1 b_2 h_4 h_5 h_6 h_7 h_8 h_9 h_10 h_11; rotate_left
  revert i_0 a_1 b_2 h_4 h_5 h_6 h_7 h_8 h_9 h_10; rotate_left
  revert i_0 a_1 b_2 h_4 h_5 h_6 h_7 h_8 h_9 h_10 d_12 j_13 i_14 t_15 h_17 h_18 h_19 h_20 h_21 h_22 h_23 h_26 h_28; rotate_left
  revert i_0 a_1 b_2 h_4 h_5 h_6 h_7 h_8 h_9 h_10 d_12 j_13 i_14 t_15 h_17 h_18 h_19 h_20 h_21 h_22 h_23 h_26 h_29 h_30; rotate_left
  revert i_0 a_1 b_2 h_4 h_5 h_6 h_7 h_8 h_9 h_10 d_12 j_13 i_14 t_15 h_17 h_18 h_19 h_20 h_21 h_22 h_23 h_26 h_29 h_30; rotate_left
  revert i_0 a_1 b_2 h_4 h_5 h_6 h_7 h_8 h_9 h_10 d_12 j_13 i_14 t_15 h_17 h_18 h_19 h_20 h_21 h_22 h_23 h_26 h_29 h_30; rotate_left
  revert i_0 a_1 b_2 h_4 h_5 h_6 h_7 h_8 h_9 h_10 d_12 j_13 i_14 t_15 h_17 h_18 h_19 h_20 h_21 h_22 h_23 h_26 h_29 h_30; rotate_left
  revert i_0 a_1 b_2 h_4 h_5 h_6 h_7 h_8 h_9 h_10 d_12 j_13 i_14 t_15 h_17 h_18 h_19 h_20 h_21 h_22 h_23 h_26 h_29 h_30; rotate_left
  revert i_0 a_1 b_2 h_4 h_5 h_6 h_7 h_8 h_9 h_10 d_12 j_13 i_14 t_15 h_17 h_18 h_19 h_20 h_21 h_22 h_23 h_26 h_29 h_30; rotate_left
  revert i_0 a_1 b_2 h_4 h_5 h_6 h_7 h_8 h_9 h_10 d_12 j_13 i_14 t_15 h_17 h_18 h_19 h_20 h_21 h_22 h_23 h_26 h_29 h_30; rotate_left
  revert i_0 a_1 b_2 h_4 h_5 h_6 h_7 h_8 h_9 h_10 d_12 j_13 i_14 t_15 h_17 h_18 h_19 h_20 h_21 h_22 h_23 h_26 h_29 h_30; rotate_left
  revert i_0 a_1 b_2 h_4 h_5 h_6 h_7 h_8 h_9 h_10 d_12 j_13 i_14 t_15 h_17 h_18 h_19 h_20 h_21 h_22 h_23 h_26 h_29; rotate_left
  revert i_0 a_1 b_2 h_4 h_5 h_6 h_7 h_8 h_9 h_10 d_12 j_13 i_14 t_15 h_17 h_18 h_19 h_20 h_21 h_22 h_23 h_26 h_29; rotate_left
  revert i_0 a_1 b_2 h_4 h_5 h_6 h_7 h_8 h_9 h_10 d_12 j_13 i_14 t_15 h_17 h_18 h_19 h_20 h_21 h_22 h_23 h_26 h_29 h_31; rotate_left
  revert i_0 a_1 b_2 h_4 h_5 h_6 h_7 h_8 h_9 h_10 d_12 j_13 i_14 t_15 h_17 h_18 h_19 h_20 h_21 h_22 h_23 h_26 h_29 h_31; rotate_left
  revert i_0 a_1 b_2 h_4 h_5 h_6 h_7 h_8 h_9 h_10 d_12 j_13 i_14 t_15 h_17 h_18 h_19 h_20 h_21 h_22 h_23 h_26 h_29 h_31; rotate_left
  revert i_0 a_1 b_2 h_4 h_5 h_6 h_7 h_8 h_9 h_10 d_12 j_13 i_14 t_15 h_17 h_18 h_19 h_20 h_21 h_22 h_23 h_26 h_29 h_31; rotate_left
  revert i_0 a_1 b_2 h_4 h_5 h_6 h_7 h_8 h_9 h_10 d_12 j_13 i_14 t_15 h_17 h_18 h_19 h_20 h_21 h_22 h_23 h_26 h_29 h_31; rotate_left
  revert i_0 a_1 b_2 h_4 h_5 h_6 h_7 h_8 h_9 h_10 d_12 j_13 i_14 t_15 h_17 h_18 h_19 h_20 h_21 h_22 h_23 h_26 h_29 h_31; rotate_left
  revert i_0 a_1 b_2 h_4 h_5 h_6 h_7 h_8 h_9 h_10 d_12 j_13 i_14 t_15 h_17 h_18 h_19 h_20 h_21 h_22 h_23 h_26 h_29 h_31; rotate_left
  revert i_0 a_1 b_2 h_4 h_5 h_6 h_7 h_8 h_9 h_10 d_12 j_13 i_14 t_15 h_17 h_18 h_19 h_20 h_21 h_22 h_23 h_26; rotate_left
  case g0 => exact ⟨by omega, by omega, by simp, by simp, by simp [isIns, insR, keepR], by simp [isOuts, outsR, keepR]⟩
  case g1 => intro i a b h0 h1 h2 h3 h4 h5 h6 h7; have := isIns_in h h0 h6 h7 h4 h5; exact ⟨by omega, by omega, by simp only [List.length_append, List.length_cons, List.length_nil]; omega, by simp only [List.length_append, List.length_cons, List.length_nil]; omega, this.1, this.2⟩
  case g2 => intro i a b h0 h1 h2 h3 h4 h5 h6 h7; have := isIns_out h h0 h6 h7 h4 h5; exact ⟨by omega, by omega, by omega, by omega, this.1, this.2⟩
  case g3 => intro i a b h0 h1 h2 h3 h4 h5 h6; obtain ⟨e1, e2⟩ := isIns_end h h6 h4 h5; rw [e1, e2]; exact ⟨by omega, by omega, by omega, by omega, by omega, by simp, isSw_start _⟩
  case g4 => intro i a b h0 h1 h2 h3 h4 h5 h6 d j k t k0 k1 k2 k3 k4 k5 k6 k7 k8; have := isSw_len k0 k1 k2 k3 k6; have := k6.2.1; exact get_map (by omega)
  case g8 =>
    intro i a b h0 h1 h2 h3 h4 h5 h6 d j k t k0 k1 k2 k3 k4 k5 k6 k7 k8 k9
    have := isSw_in k0 k8.1 k2 k3 k8.2 k6
    rw [if_pos (by omega)] at this
    exact ⟨by omega, by omega, by omega, by omega, by omega, by simp only [List.length_append, List.length_cons, List.length_nil]; omega, this⟩
  case g12 =>
    intro i a b h0 h1 h2 h3 h4 h5 h6 d j k t k0 k1 k2 k3 k4 k5 k6 k7 k8 k9
    have := isSw_in k0 k8.1 k2 k3 k8.2 k6
    rw [if_neg (by omega)] at this
    exact ⟨by omega, by omega, by omega, by omega, by omega, by omega, this⟩
  case g15 => intro i a b h0 h1 h2 h3 h4 h5 h6 d j k t k0 k1 k2 k3 k4 k5 k6 k7 k8 k9; have := isSw_out k0 k1 k2 k3 k7 k8 k6; exact get_map (by omega)
  case g19 =>
    intro i a b h0 h1 h2 h3 h4 h5 h6 d j k t k0 k1 k2 k3 k4 k5 k6 k7 k8 k9
    obtain ⟨q1, q2, this⟩ := isSw_out k0 k1 k2 k3 k7 k8 k6
    rw [if_pos (by omega)] at this
    exact ⟨by omega, by omega, by omega, by omega, by omega, by simp only [List.length_append, List.length_cons, List.length_nil]; omega, this⟩
  case g21 =>
    intro i a b h0 h1 h2 h3 h4 h5 h6 d j k t k0 k1 k2 k3 k4 k5 k6 k7 k8 k9
    obtain ⟨q1, q2, this⟩ := isSw_out k0 k1 k2 k3 k7 k8 k6
    rw [if_neg (by omega)] at this
    exact ⟨by omega, by omega, by omega, by omega, by omega, by omega, this⟩
  case g22 =>
    intro i a b h0 h1 h2 h3 h4 h5 h6 d j k t k0 k1 k2 k3 k4 k5 k6 k7
    obtain ⟨e1, e2⟩ := isIns_end h h6 h4 h5
    rw [e1, e2] at k6 k7
    rw [isSw_end k7 k6, sweep_nrm]
  all_goals
    intros
    simp only [List.length_mergeSort, List.length_map, List.length_cons, List.length_nil, Go.maxLen] at *
    omega
end Go.Proofs.Ytjngmlkaijpbgaa
namespace Go.Proofs.Ytjngmlkaijpbgaa
open Go.E
set_option maxRecDepth 100000
set_option maxHeartbeats 4000000
def losT (T : Nat → List Run) (r : Nat) : List Int := (T r).map fun x => x.lo
def hisT (T : Nat → List Run) (r : Nat) : List Int := (T r).map fun x => x.hi
def c138 (s : Nat → List Int) : List AV := tabC c3 16 s
def tnS (U : Nat → List Run) (r : Nat) : List Int := turnsR (U r)
def zT (A B : Nat → List Int) (r : Nat) : List Run := zipR (A r) (B r)
def isLen (A B : Nat → List Int) : Prop := ∀ r : Nat, r < 16 → (A r).length = (B r).length
def invMa (ps : List Past) (i : Int) (A B : Nat → List Int) : Prop := 0 ≤ i ∧ i ≤ ps.length ∧ isLen A B ∧ isOpen ps i (zT A B)
def decMa (ps : List Past) (i : Int) (A B : Nat → List Int) : Nat := (ps.length - i).toNat
def invMb (ps : List Past) (i j : Int) (A B : Nat → List Int) : Prop := 0 ≤ j ∧ j ≤ (ps[i.toNat]!).vec.length ∧ j ≤ 16 ∧ isLen A B ∧ isOpenV ps i j (zT A B)
def decMb (ps : List Past) (i j : Int) (A B : Nat → List Int) : Nat := ((ps[i.toNat]!).vec.length - j).toNat
def invMc (ps : List Past) (i j : Int) (A B : Nat → List Int) : Prop := 0 ≤ j ∧ j ≤ (ps[i.toNat]!).cloud.length ∧ isLen A B ∧ isOpenC ps i j (zT A B)
def decMc (ps : List Past) (i j : Int) (A B : Nat → List Int) : Nat := ((ps[i.toNat]!).cloud.length - j).toNat
def isMean (U : Nat → List Run) (r : Int) (S : Nat → List Int) : Prop := ∀ k : Nat, (k : Int) < r → S k = tnS (nrmT U) k
def invMd (A2 B2 : Nat → List Int) (r : Int) (A B S : Nat → List Int) : Prop := A = A2 ∧ B = B2 ∧ 0 ≤ r ∧ r ≤ 16 ∧ isMean (zT A2 B2) r S
def decMd (r : Int) (A B S : Nat → List Int) : Nat := (16 - r).toNat
theorem zT_upd {A B : Nat → List Int} {k : Nat} {x y : Int} (h : (A k).length = (B k).length) (r : Nat) : zT (updF A k (A k ++ [x])) (updF B k (B k ++ [y])) r = updF (zT A B) k (zT A B k ++ [⟨x, y⟩]) r := by
  unfold zT updF
  by_cases e : r = k
  · rw [if_pos e, if_pos e, if_pos e]
    unfold zipR
    rw [List.zipWith_append h]
    rfl
  · rw [if_neg e, if_neg e, if_neg e]
theorem isLen_upd {A B : Nat → List Int} {k : Nat} {x y : Int} (h : isLen A B) : isLen (updF A k (A k ++ [x])) (updF B k (B k ++ [y])) := by
  intro r hr
  have := h r hr
  unfold updF
  by_cases e : r = k
  · rw [if_pos e, if_pos e, List.length_append, List.length_append]; subst e; simp only [List.length_cons, List.length_nil]; omega
  · rw [if_neg e, if_neg e]; exact this
theorem zT_len {A B : Nat → List Int} (h : isLen A B) {r : Nat} (hr : r < 16) : (A r).length = (zT A B r).length ∧ (B r).length = (zT A B r).length := by
  have := h r hr
  unfold zT zipR
  rw [List.length_zipWith]
  omega
theorem isMean_next {U : Nat → List Run} {r : Int} {S : Nat → List Int} (h0 : 0 ≤ r) (h : isMean U r S) : isMean U (r + 1) (updF S r.toNat (tnS (nrmT U) r.toNat)) := by
  intro k hk
  unfold updF
  by_cases e : k = r.toNat
  · rw [if_pos e, e]
  · rw [if_neg e]; exact h k (by omega)
theorem con130 (ps : List Past) (hb : totP ps * 16 ≤ 140737488351232) : Con Try.prog 130 [.sl (ps.map c36)] (.agg (c138 (tnS (nrmT (openT ps))))) :=
  by
  refine con_lens 0 (c36) (ps) (by kernel_rfl) Go.Proofs.Try.func130 (by kernel_rfl) fun hl_0 => ?_
  refine st_con tab_ok (by kernel_rfl) [.cell 2 138] 116 Go.Proofs.Try.func130 (by kernel_rfl) (by kernel_rfl) ?_
  intro e0 cx
  refine sq ?_
  refine rg (A := True) cx [] [0, 2] [2] trivial ?_
  refine sn ?_
  refine sq ?_
  refine rg (A := True) cx [] [0, 2, 3, 4] [2, 3, 4] trivial ?_
  refine sn ?_
  refine sq ?_
  refine sq ?_
  refine rg (A := True) cx [] [0, 2, 3, 4, 5] [2, 3, 4] trivial ?_
  refine sn ?_
  refine st_block 0 (by kernel_rfl) ?_
  refine awp_tabIn 3 3 1 100300 16 (σ' := ⟨[(0, .sl (List.map c36 ps)), (2, .ptr (2) (0) (0) (0)), (3, .ptr (3) (0) (0) (0)), (4, .ptr (4) (0) (0) (0)), (5, .i .i64 ((0 : Int)))], [(2, ⟨0, 138, .var [.nl, .nl, .nl, .nl, .nl, .nl, .nl, .nl, .nl, .nl, .nl, .nl, .nl, .nl, .nl, .nl]⟩), (3, ⟨0, 136, .var (ownsC 100300 16)⟩), (4, ⟨0, 136, .arr [.nl, .nl, .nl, .nl, .nl, .nl, .nl, .nl, .nl, .nl, .nl, .nl, .nl, .nl, .nl, .nl]⟩)] ++ tabRows 100300 3 1 16 (c3) (fun x ↦ [])⟩) (by kernel_rfl) ?_
  refine awp_tabIn 4 3 1 100400 16 (σ' := ⟨[(0, .sl (List.map c36 ps)), (2, .ptr (2) (0) (0) (0)), (3, .ptr (3) (0) (0) (0)), (4, .ptr (4) (0) (0) (0)), (5, .i .i64 ((0 : Int)))], [(2, ⟨0, 138, .var [.nl, .nl, .nl, .nl, .nl, .nl, .nl, .nl, .nl, .nl, .nl, .nl, .nl, .nl, .nl, .nl]⟩), (3, ⟨0, 136, .var (ownsC 100300 16)⟩), (4, ⟨0, 136, .var (ownsC 100400 16)⟩)] ++ tabRows 100300 3 1 16 (c3) (fun x ↦ []) ++ tabRows 100400 3 1 16 (c3) (fun x ↦ [])⟩) (by kernel_rfl) ?_
  refine st_loop (X := Int × (Nat → List Int) × (Nat → List Int)) (fun x => ⟨[(0, .sl (List.map c36 ps)), (2, .ptr (2) (0) (0) (0)), (3, .ptr (3) (0) (0) (0)), (4, .ptr (4) (0) (0) (0)), (5, .i .i64 (x.fst))], [(2, ⟨0, 138, .var [.nl, .nl, .nl, .nl, .nl, .nl, .nl, .nl, .nl, .nl, .nl, .nl, .nl, .nl, .nl, .nl]⟩), (3, ⟨0, 136, .var (ownsC 100300 16)⟩), (4, ⟨0, 136, .var (ownsC 100400 16)⟩)] ++ tabRows 100300 3 1 16 (c3) (x.snd.fst) ++ tabRows 100400 3 1 16 (c3) (x.snd.snd)⟩) (fun x ↦ decMa ps x.fst x.snd.fst x.snd.snd) (fun x ↦ invMa ps x.fst x.snd.fst x.snd.snd) [0, 2, 3, 4, 5] ([2, 3, 4] ++ List.range' 100300 16 ++ List.range' 100400 16) (((0 : Int), fun x ↦ [], fun x ↦ [])) (by kernel_rfl) (by kernel_rfl) (show invMa ps (0 : Int) (fun x ↦ []) fun x ↦ [] from ?g0) ?_; rotate_left 1
  rintro ⟨i_0, A_1, B_2⟩ h_3
  obtain ⟨h_4, h_5, h_6, h_7⟩ : (0 : Int) ≤ i_0 ∧ i_0 ≤ (↑ps.length : Int) ∧ isLen A_1 B_2 ∧ isOpen ps i_0 (zT A_1 B_2) := h_3
  refine sq ?_
  refine sq ?_
  refine rg (A := _ ∧ (AV.b (decide (i_0 < (↑ps.length : Int))) = AV.b (decide (i_0 < (↑ps.length : Int))))) cx [(2, { tell := some (.i .i64 ((↑ps.length : Int))) }), (3, { tell := some (.b (decide (i_0 < (↑ps.length : Int)))) })] [0, 2, 3, 4, 5, 14] ([2, 3, 4] ++ List.range' 100300 16 ++ List.range' 100400 16) ⟨(told_len c36 ps), (by kernel_rfl)⟩ ?_
  refine sn ?_
  refine st_dec (i_0 < (↑ps.length : Int)) (by kernel_rfl) (by kernel_rfl) (fun h_8 => ?_) (fun h_8 => ?_)
  refine st_skip (by kernel_rfl) ?_
  refine sn ?_
  refine sq ?_
  refine st_block 1 (by kernel_rfl) ?_
  refine sq ?_
  refine sq ?_
  refine rg (A := True) cx [] [0, 2, 3, 4, 5, 6] ([2, 3, 4] ++ List.range' 100300 16 ++ List.range' 100400 16) trivial ?_
  refine sn ?_
  refine st_block 2 (by kernel_rfl) ?_
  refine st_loop (X := Int × (Nat → List Int) × (Nat → List Int)) (fun x => ⟨[(0, .sl (List.map c36 ps)), (2, .ptr (2) (0) (0) (0)), (3, .ptr (3) (0) (0) (0)), (4, .ptr (4) (0) (0) (0)), (5, .i .i64 (i_0)), (6, .i .i64 (x.fst))], [(2, ⟨0, 138, .var [.nl, .nl, .nl, .nl, .nl, .nl, .nl, .nl, .nl, .nl, .nl, .nl, .nl, .nl, .nl, .nl]⟩), (3, ⟨0, 136, .var (ownsC 100300 16)⟩), (4, ⟨0, 136, .var (ownsC 100400 16)⟩)] ++ tabRows 100300 3 1 16 (c3) (x.snd.fst) ++ tabRows 100400 3 1 16 (c3) (x.snd.snd)⟩) (fun x ↦ decMb ps i_0 x.fst x.snd.fst x.snd.snd) (fun x ↦ invMb ps i_0 x.fst x.snd.fst x.snd.snd) [0, 2, 3, 4, 5, 6] ([2, 3, 4] ++ List.range' 100300 16 ++ List.range' 100400 16) (((0 : Int), A_1, B_2)) (by kernel_rfl) (by kernel_rfl) (show invMb ps i_0 (0 : Int) A_1 B_2 from ?g1) ?_; rotate_left 1
  rintro ⟨j_9, A_10, B_11⟩ h_12
  obtain ⟨h_13, h_14, h_15, h_16, h_17⟩ : (0 : Int) ≤ j_9 ∧ j_9 ≤ (↑ps[i_0.toNat]!.vec.length : Int) ∧ j_9 ≤ (16 : Int) ∧ isLen A_10 B_11 ∧ isOpenV ps i_0 j_9 (zT A_10 B_11) := h_12
  refine sq ?_
  refine sq ?_
  refine st_join (σ' := ⟨[(0, .sl (List.map c36 ps)), (2, .ptr (2) (0) (0) (0)), (3, .ptr (3) (0) (0) (0)), (4, .ptr (4) (0) (0) (0)), (5, .i .i64 (i_0)), (6, .i .i64 (j_9)), (28, .b (decide (j_9 < (↑ps[i_0.toNat]!.vec.length : Int) ∧ j_9 < (16 : Int))))], [(2, ⟨0, 138, .var [.nl, .nl, .nl, .nl, .nl, .nl, .nl, .nl, .nl, .nl, .nl, .nl, .nl, .nl, .nl, .nl]⟩), (3, ⟨0, 136, .var (ownsC 100300 16)⟩), (4, ⟨0, 136, .var (ownsC 100400 16)⟩)] ++ tabRows 100300 3 1 16 (c3) (A_10) ++ tabRows 100400 3 1 16 (c3) (B_11)⟩) ?_ ?_
  refine st_split (j_9 < (↑ps[i_0.toNat]!.vec.length : Int)) (fun h_19 => ?_) (fun h_19 => ?_)
  refine rg (A := ((0 : Int) ≤ i_0) ∧ ((List.map c36 ps)[i_0.toNat]? = some (c36 ps[i_0.toNat]!)) ∧ ((c36 ps[i_0.toNat]!).length = (2 : Nat)) ∧ _ ∧ _ ∧ (AV.b (decide (j_9 < (16 : Int))) = AV.b (decide (j_9 < (16 : Int)))) ∧ (AV.b (decide (j_9 < (16 : Int))) = AV.b (decide (j_9 < (↑ps[i_0.toNat]!.vec.length : Int) ∧ j_9 < (16 : Int))))) cx [(3, { row := (c36 ps[i_0.toNat]!) }), (6, { tell := some (.i .i64 ((↑ps[i_0.toNat]!.vec.length : Int))) }), (7, { tell := some (.b (true)) }), (10, { tell := some (.b (decide (j_9 < (16 : Int)))) }), (11, { tell := some (.b (decide (j_9 < (↑ps[i_0.toNat]!.vec.length : Int) ∧ j_9 < (16 : Int)))) })] [0, 2, 3, 4, 5, 6, 28] ([2, 3, 4] ++ List.range' 100300 16 ++ List.range' 100400 16) ⟨(by (with_reducible assumption)), (by (with_reducible refine get_map ?_; omega)), (by kernel_rfl), (told_len c3 ps[i_0.toNat]!.vec), (told_true h_19), (by kernel_rfl), (by simp only [eq_true h_19, told_simp1, told_simp2, and_true, true_and, and_false, false_and, or_true, true_or, or_false, false_or, not_true_eq_false, not_false_eq_true, decide_true, decide_false, Bool.decide_eq_true])⟩ ?_
  exact ⟨rfl, by kernel_rfl⟩
  refine rg (A := ((0 : Int) ≤ i_0) ∧ ((List.map c36 ps)[i_0.toNat]? = some (c36 ps[i_0.toNat]!)) ∧ ((c36 ps[i_0.toNat]!).length = (2 : Nat)) ∧ _ ∧ _ ∧ (AV.b false = AV.b (decide (j_9 < (↑ps[i_0.toNat]!.vec.length : Int) ∧ j_9 < (16 : Int))))) cx [(3, { row := (c36 ps[i_0.toNat]!) }), (6, { tell := some (.i .i64 ((↑ps[i_0.toNat]!.vec.length : Int))) }), (7, { tell := some (.b (false)) }), (11, { tell := some (.b (decide (j_9 < (↑ps[i_0.toNat]!.vec.length : Int) ∧ j_9 < (16 : Int)))) })] [0, 2, 3, 4, 5, 6, 28] ([2, 3, 4] ++ List.range' 100300 16 ++ List.range' 100400 16) ⟨(by (with_reducible assumption)), (by (with_reducible refine get_map ?_; omega)), (by kernel_rfl), (told_len c3 ps[i_0.toNat]!.vec), (told_false h_19), (by simp only [eq_false h_19, told_simp1, told_simp2, and_true, true_and, and_false, false_and, or_true, true_or, or_false, false_or, not_true_eq_false, not_false_eq_true, decide_true, decide_false, Bool.decide_eq_true])⟩ ?_
  exact ⟨rfl, by kernel_rfl⟩
  refine sn ?_
  refine st_dec (j_9 < (↑ps[i_0.toNat]!.vec.length : Int) ∧ j_9 < (16 : Int)) (by kernel_rfl) (by kernel_rfl) (fun h_20 => ?_) (fun h_20 => ?_)
  refine st_skip (by kernel_rfl) ?_
  refine sn ?_
  refine sq ?_
  refine st_block 3 (by kernel_rfl) ?_
  refine sq ?_
  refine st_reg16 (F := fun kx => ⟨[(0, .sl (List.map c36 ps)), (2, .ptr (2) (0) (0) (0)), (3, .ptr (3) (0) (0) (0)), (4, .ptr (4) (0) (0) (0)), (5, .i .i64 (i_0)), (6, .i .i64 (kx)), (28, .b (decide (kx < (↑ps[i_0.toNat]!.vec.length : Int) ∧ kx < (16 : Int))))], [(2, ⟨0, 138, .var [.nl, .nl, .nl, .nl, .nl, .nl, .nl, .nl, .nl, .nl, .nl, .nl, .nl, .nl, .nl, .nl]⟩), (3, ⟨0, 136, .var (ownsC 100300 16)⟩), (4, ⟨0, 136, .var (ownsC 100400 16)⟩)] ++ tabRows 100300 3 1 16 (c3) (A_10) ++ tabRows 100400 3 1 16 (c3) (B_11)⟩) (G := fun kx => ⟨[(0, .sl (List.map c36 ps)), (2, .ptr (2) (0) (0) (0)), (3, .ptr (3) (0) (0) (0)), (4, .ptr (4) (0) (0) (0)), (5, .i .i64 (i_0)), (6, .i .i64 (kx))], [(2, ⟨0, 138, .var [.nl, .nl, .nl, .nl, .nl, .nl, .nl, .nl, .nl, .nl, .nl, .nl, .nl, .nl, .nl, .nl]⟩), (3, ⟨0, 136, .var (ownsC 100300 16)⟩), (4, ⟨0, 136, .var (ownsC 100400 16)⟩)] ++ tabRows 100300 3 1 16 (c3) (updF A_10 kx.toNat (A_10 kx.toNat ++ [(1 : Int)])) ++ tabRows 100400 3 1 16 (c3) (B_11)⟩) (A := fun kx => ((0 : Int) ≤ kx) ∧ (kx < (↑(16 : Nat) : Int)) ∧ (3 = (3 : Nat)) ∧ ((1 : Nat) = 1) ∧ ([AV.i IntKind.i64 (0 : Int)].length = (1 : Nat)) ∧ (∀ (r : List AV), r ∈ List.map c3 [(1 : Int)] → r.length = 1) ∧ ((List.map c3 (A_10 kx.toNat)).length + (List.map c3 [(1 : Int)]).length ≤ maxLen) ∧ (((List.map c3 (A_10 kx.toNat)).length + (List.map c3 [(1 : Int)]).length) * (8 : Nat) ≤ (140737488355328 : Nat)) ∧ (List.map c3 (A_10 kx.toNat) ++ List.map c3 [(1 : Int)] = List.map c3 (A_10 kx.toNat ++ [(1 : Int)])) ∧ ((0 : Int) ≤ kx) ∧ (kx < (↑(16 : Nat) : Int))) cx (fun kx => [(5, { rows := some (List.map c3 (A_10 kx.toNat ++ [(1 : Int)])) })]) [0, 2, 3, 4, 5, 6] ([2, 3, 4] ++ List.range' 100300 16 ++ List.range' 100400 16) (j_9) (by (with_reducible assumption)) (by omega) (by kernel_rfl) (by kernel_rfl) ⟨(by show _ = _; kernel_rfl), (by show _ = _; kernel_rfl), (by show _ = _; kernel_rfl), (by show _ = _; kernel_rfl), (by show _ = _; kernel_rfl), (by show _ = _; kernel_rfl), (by show _ = _; kernel_rfl), (by show _ = _; kernel_rfl), (by show _ = _; kernel_rfl), (by show _ = _; kernel_rfl), (by show _ = _; kernel_rfl), (by show _ = _; kernel_rfl), (by show _ = _; kernel_rfl), (by show _ = _; kernel_rfl), (by show _ = _; kernel_rfl), (by show _ = _; kernel_rfl)⟩ ⟨(by (with_reducible assumption)), (by omega), (by kernel_rfl), (by kernel_rfl), (by kernel_rfl), (by (with_reducible refine len_map (fun _ => ?_) _; kernel_rfl)), ?g2, ?g3, (by (with_reducible refine app_map ?_; kernel_rfl)), (by (with_reducible assumption)), (by omega)⟩ ?_; rotate_left 2
  refine sn ?_
  refine st_any16 (F := fun kx => ⟨[(0, .sl (List.map c36 ps)), (2, .ptr (2) (0) (0) (0)), (3, .ptr (3) (0) (0) (0)), (4, .ptr (4) (0) (0) (0)), (5, .i .i64 (i_0)), (6, .i .i64 (kx))], [(2, ⟨0, 138, .var [.nl, .nl, .nl, .nl, .nl, .nl, .nl, .nl, .nl, .nl, .nl, .nl, .nl, .nl, .nl, .nl]⟩), (3, ⟨0, 136, .var (ownsC 100300 16)⟩), (4, ⟨0, 136, .var (ownsC 100400 16)⟩)] ++ tabRows 100300 3 1 16 (c3) (updF A_10 kx.toNat (A_10 kx.toNat ++ [(1 : Int)])) ++ tabRows 100400 3 1 16 (c3) (B_11)⟩) (G := fun kx => ⟨[(0, .sl (List.map c36 ps)), (2, .ptr (2) (0) (0) (0)), (3, .ptr (3) (0) (0) (0)), (4, .ptr (4) (0) (0) (0)), (5, .i .i64 (i_0)), (6, .i .i64 (kx))], [(2, ⟨0, 138, .var [.nl, .nl, .nl, .nl, .nl, .nl, .nl, .nl, .nl, .nl, .nl, .nl, .nl, .nl, .nl, .nl]⟩), (3, ⟨0, 136, .var (ownsC 100300 16)⟩), (4, ⟨0, 136, .var (ownsC 100400 16)⟩)] ++ tabRows 100300 3 1 16 (c3) (updF A_10 kx.toNat (A_10 kx.toNat ++ [(1 : Int)])) ++ tabRows 100400 3 1 16 (c3) (updF B_11 kx.toNat (B_11 kx.toNat ++ [ps[i_0.toNat]!.vec[kx.toNat]!]))⟩) (A := fun kx => ((0 : Int) ≤ kx) ∧ (kx < (↑(16 : Nat) : Int)) ∧ ((0 : Int) ≤ i_0) ∧ ((List.map c36 ps)[i_0.toNat]? = some (c36 ps[i_0.toNat]!)) ∧ ((c36 ps[i_0.toNat]!).length = (2 : Nat)) ∧ ((0 : Int) ≤ kx) ∧ ((List.map c3 ps[i_0.toNat]!.vec)[kx.toNat]? = some (c3 ps[i_0.toNat]!.vec[kx.toNat]!)) ∧ ((c3 ps[i_0.toNat]!.vec[kx.toNat]!).length = (1 : Nat)) ∧ (3 = (3 : Nat)) ∧ ((1 : Nat) = 1) ∧ ([AV.i IntKind.i64 (0 : Int)].length = (1 : Nat)) ∧ (∀ (r : List AV), r ∈ List.map c3 [ps[i_0.toNat]!.vec[kx.toNat]!] → r.length = 1) ∧ ((List.map c3 (B_11 kx.toNat)).length + (List.map c3 [ps[i_0.toNat]!.vec[kx.toNat]!]).length ≤ maxLen) ∧ (((List.map c3 (B_11 kx.toNat)).length + (List.map c3 [ps[i_0.toNat]!.vec[kx.toNat]!]).length) * (8 : Nat) ≤ (140737488355328 : Nat)) ∧ (List.map c3 (B_11 kx.toNat) ++ List.map c3 [ps[i_0.toNat]!.vec[kx.toNat]!] = List.map c3 (B_11 kx.toNat ++ [ps[i_0.toNat]!.vec[kx.toNat]!])) ∧ ((0 : Int) ≤ kx) ∧ (kx < (↑(16 : Nat) : Int))) cx (fun kx => [(6, { row := (c36 ps[i_0.toNat]!) }), (10, { row := (c3 ps[i_0.toNat]!.vec[kx.toNat]!) }), (13, { rows := some (List.map c3 (B_11 kx.toNat ++ [ps[i_0.toNat]!.vec[kx.toNat]!])) })]) [0, 2, 3, 4, 5, 6] ([2, 3, 4] ++ List.range' 100300 16 ++ List.range' 100400 16) (j_9) (by (with_reducible assumption)) (by omega) (by kernel_rfl) (by kernel_rfl) ⟨(by show _ = _; kernel_rfl), (by show _ = _; kernel_rfl), (by show _ = _; kernel_rfl), (by show _ = _; kernel_rfl), (by show _ = _; kernel_rfl), (by show _ = _; kernel_rfl), (by show _ = _; kernel_rfl), (by show _ = _; kernel_rfl), (by show _ = _; kernel_rfl), (by show _ = _; kernel_rfl), (by show _ = _; kernel_rfl), (by show _ = _; kernel_rfl), (by show _ = _; kernel_rfl), (by show _ = _; kernel_rfl), (by show _ = _; kernel_rfl), (by show _ = _; kernel_rfl)⟩ ⟨(by (with_reducible assumption)), (by omega), (by (with_reducible assumption)), (by (with_reducible refine get_map ?_; omega)), (by kernel_rfl), (by (with_reducible assumption)), (by (with_reducible refine get_map ?_; omega)), (by kernel_rfl), (by kernel_rfl), (by kernel_rfl), (by kernel_rfl), (by (with_reducible refine len_map (fun _ => ?_) _; kernel_rfl)), ?g4, ?g5, (by (with_reducible refine app_map ?_; kernel_rfl)), (by (with_reducible assumption)), (by omega)⟩ ?_; rotate_left 2
  refine q_blk_normal ?_
  refine sn ?_
  refine rg (A := (AV.i IntKind.i64 (IntKind.i64.wrap (j_9 + (1 : Int))) = AV.i IntKind.i64 (j_9 + (1 : Int)))) cx [(1, { tell := some (.i .i64 (j_9 + (1 : Int))) })] [0, 2, 3, 4, 5, 6] ([2, 3, 4] ++ List.range' 100300 16 ++ List.range' 100400 16) (told_i64 (by omega) (by omega)) ?_
  refine sn ?_
  refine loop_next ((j_9 + (1 : Int), updF A_10 j_9.toNat (A_10 j_9.toNat ++ [(1 : Int)]), updF B_11 j_9.toNat (B_11 j_9.toNat ++ [ps[i_0.toNat]!.vec[j_9.toNat]!]))) (by kernel_rfl) (show ((↑ps[i_0.toNat]!.vec.length : Int) - (j_9 + (1 : Int))).toNat < ((↑ps[i_0.toNat]!.vec.length : Int) - j_9).toNat from (by omega)) (show invMb ps i_0 (j_9 + (1 : Int)) (updF A_10 j_9.toNat (A_10 j_9.toNat ++ [(1 : Int)])) (updF B_11 j_9.toNat (B_11 j_9.toNat ++ [ps[i_0.toNat]!.vec[j_9.toNat]!])) from ?g6); rotate_left 1
  refine st_exit 2 (by kernel_rfl) ?_
  refine q_seq_exit ?_
  refine q_seq_exit ?_
  refine q_blk_hit ?_
  refine sn ?_
  refine sq ?_
  refine rg (A := True) cx [] [0, 2, 3, 4, 5, 7] ([2, 3, 4] ++ List.range' 100300 16 ++ List.range' 100400 16) trivial ?_
  refine sn ?_
  refine st_block 4 (by kernel_rfl) ?_
  refine st_loop (X := Int × (Nat → List Int) × (Nat → List Int)) (fun x => ⟨[(0, .sl (List.map c36 ps)), (2, .ptr (2) (0) (0) (0)), (3, .ptr (3) (0) (0) (0)), (4, .ptr (4) (0) (0) (0)), (5, .i .i64 (i_0)), (7, .i .i64 (x.fst))], [(2, ⟨0, 138, .var [.nl, .nl, .nl, .nl, .nl, .nl, .nl, .nl, .nl, .nl, .nl, .nl, .nl, .nl, .nl, .nl]⟩), (3, ⟨0, 136, .var (ownsC 100300 16)⟩), (4, ⟨0, 136, .var (ownsC 100400 16)⟩)] ++ tabRows 100300 3 1 16 (c3) (x.snd.fst) ++ tabRows 100400 3 1 16 (c3) (x.snd.snd)⟩) (fun x ↦ decMc ps i_0 x.fst x.snd.fst x.snd.snd) (fun x ↦ invMc ps i_0 x.fst x.snd.fst x.snd.snd) [0, 2, 3, 4, 5, 7] ([2, 3, 4] ++ List.range' 100300 16 ++ List.range' 100400 16) (((0 : Int), A_10, B_11)) (by kernel_rfl) (by kernel_rfl) (show invMc ps i_0 (0 : Int) A_10 B_11 from ?g7) ?_; rotate_left 1
  rintro ⟨j_21, A_22, B_23⟩ h_24
  obtain ⟨h_25, h_26, h_27, h_28⟩ : (0 : Int) ≤ j_21 ∧ j_21 ≤ (↑ps[i_0.toNat]!.cloud.length : Int) ∧ isLen A_22 B_23 ∧ isOpenC ps i_0 j_21 (zT A_22 B_23) := h_24
  refine sq ?_
  refine sq ?_
  refine rg (A := ((0 : Int) ≤ i_0) ∧ ((List.map c36 ps)[i_0.toNat]? = some (c36 ps[i_0.toNat]!)) ∧ ((c36 ps[i_0.toNat]!).length = (2 : Nat)) ∧ _ ∧ (AV.b (decide (j_21 < (↑ps[i_0.toNat]!.cloud.length : Int))) = AV.b (decide (j_21 < (↑ps[i_0.toNat]!.cloud.length : Int))))) cx [(3, { row := (c36 ps[i_0.toNat]!) }), (6, { tell := some (.i .i64 ((↑ps[i_0.toNat]!.cloud.length : Int))) }), (7, { tell := some (.b (decide (j_21 < (↑ps[i_0.toNat]!.cloud.length : Int)))) })] [0, 2, 3, 4, 5, 7, 60] ([2, 3, 4] ++ List.range' 100300 16 ++ List.range' 100400 16) ⟨(by (with_reducible assumption)), (by (with_reducible refine get_map ?_; omega)), (by kernel_rfl), (told_len c81 ps[i_0.toNat]!.cloud), (by kernel_rfl)⟩ ?_
  refine sn ?_
  refine st_dec (j_21 < (↑ps[i_0.toNat]!.cloud.length : Int)) (by kernel_rfl) (by kernel_rfl) (fun h_29 => ?_) (fun h_29 => ?_)
  refine st_skip (by kernel_rfl) ?_
  refine sn ?_
  refine sq ?_
  refine st_block 5 (by kernel_rfl) ?_
  refine sq ?_
  refine rg (A := ((0 : Int) ≤ i_0) ∧ ((List.map c36 ps)[i_0.toNat]? = some (c36 ps[i_0.toNat]!)) ∧ ((c36 ps[i_0.toNat]!).length = (2 : Nat)) ∧ ((0 : Int) ≤ j_21) ∧ ((List.map c81 ps[i_0.toNat]!.cloud)[j_21.toNat]? = some (c81 ps[i_0.toNat]!.cloud[j_21.toNat]!)) ∧ ((c81 ps[i_0.toNat]!.cloud[j_21.toNat]!).length = (3 : Nat)) ∧ ((3 : Nat) ≤ [AV.i IntKind.i64 ps[i_0.toNat]!.cloud[j_21.toNat]!.rep, AV.i IntKind.i64 ps[i_0.toNat]!.cloud[j_21.toNat]!.lo, AV.i IntKind.i64 ps[i_0.toNat]!.cloud[j_21.toNat]!.hi].length)) cx [(2, { row := (c36 ps[i_0.toNat]!) }), (6, { row := (c81 ps[i_0.toNat]!.cloud[j_21.toNat]!) })] [0, 2, 3, 4, 5, 7, 8] ([2, 3, 4] ++ List.range' 100300 16 ++ List.range' 100400 16 ++ [8]) ⟨(by (with_reducible assumption)), (by (with_reducible refine get_map ?_; omega)), (by kernel_rfl), (by (with_reducible assumption)), (by (with_reducible refine get_map ?_; omega)), (by kernel_rfl), (by (simp only [List.length_append, List.length_cons, List.length_nil]; omega))⟩ ?_
  refine sn ?_
  refine sq ?_
  refine st_join (σ' := ⟨[(0, .sl (List.map c36 ps)), (2, .ptr (2) (0) (0) (0)), (3, .ptr (3) (0) (0) (0)), (4, .ptr (4) (0) (0) (0)), (5, .i .i64 (i_0)), (7, .i .i64 (j_21)), (8, .ptr (8) (0) (0) (0)), (78, .b (decide ((0 : Int) ≤ ps[i_0.toNat]!.cloud[j_21.toNat]!.rep ∧ ps[i_0.toNat]!.cloud[j_21.toNat]!.rep < (16 : Int))))], [(2, ⟨0, 138, .var [.nl, .nl, .nl, .nl, .nl, .nl, .nl, .nl, .nl, .nl, .nl, .nl, .nl, .nl, .nl, .nl]⟩), (3, ⟨0, 136, .var (ownsC 100300 16)⟩), (4, ⟨0, 136, .var (ownsC 100400 16)⟩)] ++ tabRows 100300 3 1 16 (c3) (A_22) ++ tabRows 100400 3 1 16 (c3) (B_23) ++ [(8, ⟨0, 81, .var [.i .i64 (ps[i_0.toNat]!.cloud[j_21.toNat]!.rep), .i .i64 (ps[i_0.toNat]!.cloud[j_21.toNat]!.lo), .i .i64 (ps[i_0.toNat]!.cloud[j_21.toNat]!.hi)]⟩)]⟩) ?_ ?_
  refine st_split ((0 : Int) ≤ ps[i_0.toNat]!.cloud[j_21.toNat]!.rep) (fun h_31 => ?_) (fun h_31 => ?_)
  refine rg (A := _ ∧ (AV.b (decide (ps[i_0.toNat]!.cloud[j_21.toNat]!.rep < (16 : Int))) = AV.b (decide (ps[i_0.toNat]!.cloud[j_21.toNat]!.rep < (16 : Int)))) ∧ (AV.b (decide (ps[i_0.toNat]!.cloud[j_21.toNat]!.rep < (16 : Int))) = AV.b (decide ((0 : Int) ≤ ps[i_0.toNat]!.cloud[j_21.toNat]!.rep ∧ ps[i_0.toNat]!.cloud[j_21.toNat]!.rep < (16 : Int))))) cx [(2, { tell := some (.b (true)) }), (6, { tell := some (.b (decide (ps[i_0.toNat]!.cloud[j_21.toNat]!.rep < (16 : Int)))) }), (7, { tell := some (.b (decide ((0 : Int) ≤ ps[i_0.toNat]!.cloud[j_21.toNat]!.rep ∧ ps[i_0.toNat]!.cloud[j_21.toNat]!.rep < (16 : Int)))) })] [0, 2, 3, 4, 5, 7, 8, 78] ([2, 3, 4] ++ List.range' 100300 16 ++ List.range' 100400 16 ++ [8]) ⟨(told_true h_31), (by kernel_rfl), (by simp only [eq_true h_31, told_simp1, told_simp2, and_true, true_and, and_false, false_and, or_true, true_or, or_false, false_or, not_true_eq_false, not_false_eq_true, decide_true, decide_false, Bool.decide_eq_true])⟩ ?_
  exact ⟨rfl, by kernel_rfl⟩
  refine rg (A := _ ∧ (AV.b false = AV.b (decide ((0 : Int) ≤ ps[i_0.toNat]!.cloud[j_21.toNat]!.rep ∧ ps[i_0.toNat]!.cloud[j_21.toNat]!.rep < (16 : Int))))) cx [(2, { tell := some (.b (false)) }), (7, { tell := some (.b (decide ((0 : Int) ≤ ps[i_0.toNat]!.cloud[j_21.toNat]!.rep ∧ ps[i_0.toNat]!.cloud[j_21.toNat]!.rep < (16 : Int)))) })] [0, 2, 3, 4, 5, 7, 8, 78] ([2, 3, 4] ++ List.range' 100300 16 ++ List.range' 100400 16 ++ [8]) ⟨(told_false h_31), (by simp only [eq_false h_31, told_simp1, told_simp2, and_true, true_and, and_false, false_and, or_true, true_or, or_false, false_or, not_true_eq_false, not_false_eq_true, decide_true, decide_false, Bool.decide_eq_true])⟩ ?_
  exact ⟨rfl, by kernel_rfl⟩
  refine sn ?_
  refine st_dec ((0 : Int) ≤ ps[i_0.toNat]!.cloud[j_21.toNat]!.rep ∧ ps[i_0.toNat]!.cloud[j_21.toNat]!.rep < (16 : Int)) (by kernel_rfl) (by kernel_rfl) (fun h_32 => ?_) (fun h_32 => ?_)
  refine sq ?_
  refine st_any16 (F := fun kx => ⟨[(0, .sl (List.map c36 ps)), (2, .ptr (2) (0) (0) (0)), (3, .ptr (3) (0) (0) (0)), (4, .ptr (4) (0) (0) (0)), (5, .i .i64 (i_0)), (7, .i .i64 (j_21)), (8, .ptr (8) (0) (0) (0)), (78, .b (decide ((0 : Int) ≤ kx ∧ kx < (16 : Int))))], [(2, ⟨0, 138, .var [.nl, .nl, .nl, .nl, .nl, .nl, .nl, .nl, .nl, .nl, .nl, .nl, .nl, .nl, .nl, .nl]⟩), (3, ⟨0, 136, .var (ownsC 100300 16)⟩), (4, ⟨0, 136, .var (ownsC 100400 16)⟩)] ++ tabRows 100300 3 1 16 (c3) (A_22) ++ tabRows 100400 3 1 16 (c3) (B_23) ++ [(8, ⟨0, 81, .var [.i .i64 (kx), .i .i64 (ps[i_0.toNat]!.cloud[j_21.toNat]!.lo), .i .i64 (ps[i_0.toNat]!.cloud[j_21.toNat]!.hi)]⟩)]⟩) (G := fun kx => ⟨[(0, .sl (List.map c36 ps)), (2, .ptr (2) (0) (0) (0)), (3, .ptr (3) (0) (0) (0)), (4, .ptr (4) (0) (0) (0)), (5, .i .i64 (i_0)), (7, .i .i64 (j_21)), (8, .ptr (8) (0) (0) (0))], [(2, ⟨0, 138, .var [.nl, .nl, .nl, .nl, .nl, .nl, .nl, .nl, .nl, .nl, .nl, .nl, .nl, .nl, .nl, .nl]⟩), (3, ⟨0, 136, .var (ownsC 100300 16)⟩), (4, ⟨0, 136, .var (ownsC 100400 16)⟩)] ++ tabRows 100300 3 1 16 (c3) (updF A_22 kx.toNat (A_22 kx.toNat ++ [ps[i_0.toNat]!.cloud[j_21.toNat]!.lo])) ++ tabRows 100400 3 1 16 (c3) (B_23) ++ [(8, ⟨0, 81, .var [.i .i64 (kx), .i .i64 (ps[i_0.toNat]!.cloud[j_21.toNat]!.lo), .i .i64 (ps[i_0.toNat]!.cloud[j_21.toNat]!.hi)]⟩)]⟩) (A := fun kx => ((0 : Int) ≤ kx) ∧ (kx < (↑(16 : Nat) : Int)) ∧ (3 = (3 : Nat)) ∧ ((1 : Nat) = 1) ∧ ([AV.i IntKind.i64 (0 : Int)].length = (1 : Nat)) ∧ (∀ (r : List AV), r ∈ List.map c3 [ps[i_0.toNat]!.cloud[j_21.toNat]!.lo] → r.length = 1) ∧ ((List.map c3 (A_22 kx.toNat)).length + (List.map c3 [ps[i_0.toNat]!.cloud[j_21.toNat]!.lo]).length ≤ maxLen) ∧ (((List.map c3 (A_22 kx.toNat)).length + (List.map c3 [ps[i_0.toNat]!.cloud[j_21.toNat]!.lo]).length) * (8 : Nat) ≤ (140737488355328 : Nat)) ∧ (List.map c3 (A_22 kx.toNat) ++ List.map c3 [ps[i_0.toNat]!.cloud[j_21.toNat]!.lo] = List.map c3 (A_22 kx.toNat ++ [ps[i_0.toNat]!.cloud[j_21.toNat]!.lo])) ∧ ((0 : Int) ≤ kx) ∧ (kx < (↑(16 : Nat) : Int))) cx (fun kx => [(9, { rows := some (List.map c3 (A_22 kx.toNat ++ [ps[i_0.toNat]!.cloud[j_21.toNat]!.lo])) })]) [0, 2, 3, 4, 5, 7, 8] ([2, 3, 4] ++ List.range' 100300 16 ++ List.range' 100400 16 ++ [8]) (ps[i_0.toNat]!.cloud[j_21.toNat]!.rep) (by omega) (by omega) (by kernel_rfl) (by kernel_rfl) ⟨(by show _ = _; kernel_rfl), (by show _ = _; kernel_rfl), (by show _ = _; kernel_rfl), (by show _ = _; kernel_rfl), (by show _ = _; kernel_rfl), (by show _ = _; kernel_rfl), (by show _ = _; kernel_rfl), (by show _ = _; kernel_rfl), (by show _ = _; kernel_rfl), (by show _ = _; kernel_rfl), (by show _ = _; kernel_rfl), (by show _ = _; kernel_rfl), (by show _ = _; kernel_rfl), (by show _ = _; kernel_rfl), (by show _ = _; kernel_rfl), (by show _ = _; kernel_rfl)⟩ ⟨(by omega), (by omega), (by kernel_rfl), (by kernel_rfl), (by kernel_rfl), (by (with_reducible refine len_map (fun _ => ?_) _; kernel_rfl)), ?g8, ?g9, (by (with_reducible refine app_map ?_; kernel_rfl)), (by omega), (by omega)⟩ ?_; rotate_left 2
  refine sn ?_
  refine st_any16 (F := fun kx => ⟨[(0, .sl (List.map c36 ps)), (2, .ptr (2) (0) (0) (0)), (3, .ptr (3) (0) (0) (0)), (4, .ptr (4) (0) (0) (0)), (5, .i .i64 (i_0)), (7, .i .i64 (j_21)), (8, .ptr (8) (0) (0) (0))], [(2, ⟨0, 138, .var [.nl, .nl, .nl, .nl, .nl, .nl, .nl, .nl, .nl, .nl, .nl, .nl, .nl, .nl, .nl, .nl]⟩), (3, ⟨0, 136, .var (ownsC 100300 16)⟩), (4, ⟨0, 136, .var (ownsC 100400 16)⟩)] ++ tabRows 100300 3 1 16 (c3) (updF A_22 kx.toNat (A_22 kx.toNat ++ [ps[i_0.toNat]!.cloud[j_21.toNat]!.lo])) ++ tabRows 100400 3 1 16 (c3) (B_23) ++ [(8, ⟨0, 81, .var [.i .i64 (kx), .i .i64 (ps[i_0.toNat]!.cloud[j_21.toNat]!.lo), .i .i64 (ps[i_0.toNat]!.cloud[j_21.toNat]!.hi)]⟩)]⟩) (G := fun kx => ⟨[(0, .sl (List.map c36 ps)), (2, .ptr (2) (0) (0) (0)), (3, .ptr (3) (0) (0) (0)), (4, .ptr (4) (0) (0) (0)), (5, .i .i64 (i_0)), (7, .i .i64 (j_21))], [(2, ⟨0, 138, .var [.nl, .nl, .nl, .nl, .nl, .nl, .nl, .nl, .nl, .nl, .nl, .nl, .nl, .nl, .nl, .nl]⟩), (3, ⟨0, 136, .var (ownsC 100300 16)⟩), (4, ⟨0, 136, .var (ownsC 100400 16)⟩)] ++ tabRows 100300 3 1 16 (c3) (updF A_22 kx.toNat (A_22 kx.toNat ++ [ps[i_0.toNat]!.cloud[j_21.toNat]!.lo])) ++ tabRows 100400 3 1 16 (c3) (updF B_23 kx.toNat (B_23 kx.toNat ++ [ps[i_0.toNat]!.cloud[j_21.toNat]!.hi]))⟩) (A := fun kx => ((0 : Int) ≤ kx) ∧ (kx < (↑(16 : Nat) : Int)) ∧ (3 = (3 : Nat)) ∧ ((1 : Nat) = 1) ∧ ([AV.i IntKind.i64 (0 : Int)].length = (1 : Nat)) ∧ (∀ (r : List AV), r ∈ List.map c3 [ps[i_0.toNat]!.cloud[j_21.toNat]!.hi] → r.length = 1) ∧ ((List.map c3 (B_23 kx.toNat)).length + (List.map c3 [ps[i_0.toNat]!.cloud[j_21.toNat]!.hi]).length ≤ maxLen) ∧ (((List.map c3 (B_23 kx.toNat)).length + (List.map c3 [ps[i_0.toNat]!.cloud[j_21.toNat]!.hi]).length) * (8 : Nat) ≤ (140737488355328 : Nat)) ∧ (List.map c3 (B_23 kx.toNat) ++ List.map c3 [ps[i_0.toNat]!.cloud[j_21.toNat]!.hi] = List.map c3 (B_23 kx.toNat ++ [ps[i_0.toNat]!.cloud[j_21.toNat]!.hi])) ∧ ((0 : Int) ≤ kx) ∧ (kx < (↑(16 : Nat) : Int))) cx (fun kx => [(9, { rows := some (List.map c3 (B_23 kx.toNat ++ [ps[i_0.toNat]!.cloud[j_21.toNat]!.hi])) })]) [0, 2, 3, 4, 5, 7] ([2, 3, 4] ++ List.range' 100300 16 ++ List.range' 100400 16) (ps[i_0.toNat]!.cloud[j_21.toNat]!.rep) (by omega) (by omega) (by kernel_rfl) (by kernel_rfl) ⟨(by show _ = _; kernel_rfl), (by show _ = _; kernel_rfl), (by show _ = _; kernel_rfl), (by show _ = _; kernel_rfl), (by show _ = _; kernel_rfl), (by show _ = _; kernel_rfl), (by show _ = _; kernel_rfl), (by show _ = _; kernel_rfl), (by show _ = _; kernel_rfl), (by show _ = _; kernel_rfl), (by show _ = _; kernel_rfl), (by show _ = _; kernel_rfl), (by show _ = _; kernel_rfl), (by show _ = _; kernel_rfl), (by show _ = _; kernel_rfl), (by show _ = _; kernel_rfl)⟩ ⟨(by omega), (by omega), (by kernel_rfl), (by kernel_rfl), (by kernel_rfl), (by (with_reducible refine len_map (fun _ => ?_) _; kernel_rfl)), ?g10, ?g11, (by (with_reducible refine app_map ?_; kernel_rfl)), (by omega), (by omega)⟩ ?_; rotate_left 2
  refine q_blk_normal ?_
  refine sn ?_
  refine rg (A := (AV.i IntKind.i64 (IntKind.i64.wrap (j_21 + (1 : Int))) = AV.i IntKind.i64 (j_21 + (1 : Int)))) cx [(1, { tell := some (.i .i64 (j_21 + (1 : Int))) })] [0, 2, 3, 4, 5, 7] ([2, 3, 4] ++ List.range' 100300 16 ++ List.range' 100400 16) (told_i64 (by omega) ?g12) ?_; rotate_left 1
  refine sn ?_
  refine loop_next ((j_21 + (1 : Int), updF A_22 ps[i_0.toNat]!.cloud[j_21.toNat]!.rep.toNat (A_22 ps[i_0.toNat]!.cloud[j_21.toNat]!.rep.toNat ++ [ps[i_0.toNat]!.cloud[j_21.toNat]!.lo]), updF B_23 ps[i_0.toNat]!.cloud[j_21.toNat]!.rep.toNat (B_23 ps[i_0.toNat]!.cloud[j_21.toNat]!.rep.toNat ++ [ps[i_0.toNat]!.cloud[j_21.toNat]!.hi]))) (by kernel_rfl) (show ((↑ps[i_0.toNat]!.cloud.length : Int) - (j_21 + (1 : Int))).toNat < ((↑ps[i_0.toNat]!.cloud.length : Int) - j_21).toNat from (by omega)) (show invMc ps i_0 (j_21 + (1 : Int)) (updF A_22 ps[i_0.toNat]!.cloud[j_21.toNat]!.rep.toNat (A_22 ps[i_0.toNat]!.cloud[j_21.toNat]!.rep.toNat ++ [ps[i_0.toNat]!.cloud[j_21.toNat]!.lo])) (updF B_23 ps[i_0.toNat]!.cloud[j_21.toNat]!.rep.toNat (B_23 ps[i_0.toNat]!.cloud[j_21.toNat]!.rep.toNat ++ [ps[i_0.toNat]!.cloud[j_21.toNat]!.hi])) from ?g13); rotate_left 1
  refine st_skip (by kernel_rfl) ?_
  refine q_blk_normal ?_
  refine sn ?_
  refine rg (A := (AV.i IntKind.i64 (IntKind.i64.wrap (j_21 + (1 : Int))) = AV.i IntKind.i64 (j_21 + (1 : Int)))) cx [(1, { tell := some (.i .i64 (j_21 + (1 : Int))) })] [0, 2, 3, 4, 5, 7] ([2, 3, 4] ++ List.range' 100300 16 ++ List.range' 100400 16) (told_i64 (by omega) ?g14) ?_; rotate_left 1
  refine sn ?_
  refine loop_next ((j_21 + (1 : Int), A_22, B_23)) (by kernel_rfl) (show ((↑ps[i_0.toNat]!.cloud.length : Int) - (j_21 + (1 : Int))).toNat < ((↑ps[i_0.toNat]!.cloud.length : Int) - j_21).toNat from (by omega)) (show invMc ps i_0 (j_21 + (1 : Int)) A_22 B_23 from ?g15); rotate_left 1
  refine st_exit 4 (by kernel_rfl) ?_
  refine q_seq_exit ?_
  refine q_seq_exit ?_
  refine q_blk_hit ?_
  refine q_blk_normal ?_
  refine sn ?_
  refine rg (A := (AV.i IntKind.i64 (IntKind.i64.wrap (i_0 + (1 : Int))) = AV.i IntKind.i64 (i_0 + (1 : Int)))) cx [(1, { tell := some (.i .i64 (i_0 + (1 : Int))) })] [0, 2, 3, 4, 5] ([2, 3, 4] ++ List.range' 100300 16 ++ List.range' 100400 16) (told_i64 (by omega) (by omega)) ?_
  refine sn ?_
  refine loop_next ((i_0 + (1 : Int), A_22, B_23)) (by kernel_rfl) (show ((↑ps.length : Int) - (i_0 + (1 : Int))).toNat < ((↑ps.length : Int) - i_0).toNat from (by omega)) (show invMa ps (i_0 + (1 : Int)) A_22 B_23 from ?g16); rotate_left 1
  refine st_exit 0 (by kernel_rfl) ?_
  refine q_seq_exit ?_
  refine q_seq_exit ?_
  refine q_blk_hit ?_
  refine sn ?_
  refine sq ?_
  refine awp_norm (List.range' 100300 16) [0, 2, 3, 4, 5, 14] ([2, 3, 4] ++ List.range' 100400 16) (σ' := ⟨[(0, .sl (List.map c36 ps)), (2, .ptr (2) (0) (0) (0)), (3, .ptr (3) (0) (0) (0)), (4, .ptr (4) (0) (0) (0)), (5, .i .i64 (i_0)), (14, .b (decide (i_0 < (↑ps.length : Int))))], [(2, ⟨0, 138, .var [.nl, .nl, .nl, .nl, .nl, .nl, .nl, .nl, .nl, .nl, .nl, .nl, .nl, .nl, .nl, .nl]⟩), (3, ⟨0, 136, .var [.sl (List.map c3 (A_1 (0))), .sl (List.map c3 (A_1 (1))), .sl (List.map c3 (A_1 (2))), .sl (List.map c3 (A_1 (3))), .sl (List.map c3 (A_1 (4))), .sl (List.map c3 (A_1 (5))), .sl (List.map c3 (A_1 (6))), .sl (List.map c3 (A_1 (7))), .sl (List.map c3 (A_1 (8))), .sl (List.map c3 (A_1 (9))), .sl (List.map c3 (A_1 (10))), .sl (List.map c3 (A_1 (11))), .sl (List.map c3 (A_1 (12))), .sl (List.map c3 (A_1 (13))), .sl (List.map c3 (A_1 (14))), .sl (List.map c3 (A_1 (15)))]⟩), (4, ⟨0, 136, .var (ownsC 100400 16)⟩)] ++ tabRows 100400 3 1 16 (c3) (B_2)⟩) (by kernel_rfl) ?_
  refine awp_varArr 3 ⟨0, 136, .var [.sl (List.map c3 (A_1 (0))), .sl (List.map c3 (A_1 (1))), .sl (List.map c3 (A_1 (2))), .sl (List.map c3 (A_1 (3))), .sl (List.map c3 (A_1 (4))), .sl (List.map c3 (A_1 (5))), .sl (List.map c3 (A_1 (6))), .sl (List.map c3 (A_1 (7))), .sl (List.map c3 (A_1 (8))), .sl (List.map c3 (A_1 (9))), .sl (List.map c3 (A_1 (10))), .sl (List.map c3 (A_1 (11))), .sl (List.map c3 (A_1 (12))), .sl (List.map c3 (A_1 (13))), .sl (List.map c3 (A_1 (14))), .sl (List.map c3 (A_1 (15)))]⟩ [.sl (List.map c3 (A_1 (0))), .sl (List.map c3 (A_1 (1))), .sl (List.map c3 (A_1 (2))), .sl (List.map c3 (A_1 (3))), .sl (List.map c3 (A_1 (4))), .sl (List.map c3 (A_1 (5))), .sl (List.map c3 (A_1 (6))), .sl (List.map c3 (A_1 (7))), .sl (List.map c3 (A_1 (8))), .sl (List.map c3 (A_1 (9))), .sl (List.map c3 (A_1 (10))), .sl (List.map c3 (A_1 (11))), .sl (List.map c3 (A_1 (12))), .sl (List.map c3 (A_1 (13))), .sl (List.map c3 (A_1 (14))), .sl (List.map c3 (A_1 (15)))] (tabC c3 (16 : Nat) A_1) (σ' := ⟨[(0, .sl (List.map c36 ps)), (2, .ptr (2) (0) (0) (0)), (3, .ptr (3) (0) (0) (0)), (4, .ptr (4) (0) (0) (0)), (5, .i .i64 (i_0)), (14, .b (decide (i_0 < (↑ps.length : Int))))], [(2, ⟨0, 138, .var [.nl, .nl, .nl, .nl, .nl, .nl, .nl, .nl, .nl, .nl, .nl, .nl, .nl, .nl, .nl, .nl]⟩), (3, ⟨0, 136, .arr (tabC c3 (16 : Nat) A_1)⟩), (4, ⟨0, 136, .var (ownsC 100400 16)⟩)] ++ tabRows 100400 3 1 16 (c3) (B_2)⟩) (by kernel_rfl) (by kernel_rfl) (by kernel_rfl) (by kernel_rfl) (ZLe.of_eq (by kernel_rfl)) (by kernel_rfl) ?_
  refine awp_norm (List.range' 100400 16) [0, 2, 3, 4, 5, 14] [2, 3, 4] (σ' := ⟨[(0, .sl (List.map c36 ps)), (2, .ptr (2) (0) (0) (0)), (3, .ptr (3) (0) (0) (0)), (4, .ptr (4) (0) (0) (0)), (5, .i .i64 (i_0)), (14, .b (decide (i_0 < (↑ps.length : Int))))], [(2, ⟨0, 138, .var [.nl, .nl, .nl, .nl, .nl, .nl, .nl, .nl, .nl, .nl, .nl, .nl, .nl, .nl, .nl, .nl]⟩), (3, ⟨0, 136, .arr (tabC c3 (16 : Nat) A_1)⟩), (4, ⟨0, 136, .var [.sl (List.map c3 (B_2 (0))), .sl (List.map c3 (B_2 (1))), .sl (List.map c3 (B_2 (2))), .sl (List.map c3 (B_2 (3))), .sl (List.map c3 (B_2 (4))), .sl (List.map c3 (B_2 (5))), .sl (List.map c3 (B_2 (6))), .sl (List.map c3 (B_2 (7))), .sl (List.map c3 (B_2 (8))), .sl (List.map c3 (B_2 (9))), .sl (List.map c3 (B_2 (10))), .sl (List.map c3 (B_2 (11))), .sl (List.map c3 (B_2 (12))), .sl (List.map c3 (B_2 (13))), .sl (List.map c3 (B_2 (14))), .sl (List.map c3 (B_2 (15)))]⟩)]⟩) (by kernel_rfl) ?_
  refine awp_varArr 4 ⟨0, 136, .var [.sl (List.map c3 (B_2 (0))), .sl (List.map c3 (B_2 (1))), .sl (List.map c3 (B_2 (2))), .sl (List.map c3 (B_2 (3))), .sl (List.map c3 (B_2 (4))), .sl (List.map c3 (B_2 (5))), .sl (List.map c3 (B_2 (6))), .sl (List.map c3 (B_2 (7))), .sl (List.map c3 (B_2 (8))), .sl (List.map c3 (B_2 (9))), .sl (List.map c3 (B_2 (10))), .sl (List.map c3 (B_2 (11))), .sl (List.map c3 (B_2 (12))), .sl (List.map c3 (B_2 (13))), .sl (List.map c3 (B_2 (14))), .sl (List.map c3 (B_2 (15)))]⟩ [.sl (List.map c3 (B_2 (0))), .sl (List.map c3 (B_2 (1))), .sl (List.map c3 (B_2 (2))), .sl (List.map c3 (B_2 (3))), .sl (List.map c3 (B_2 (4))), .sl (List.map c3 (B_2 (5))), .sl (List.map c3 (B_2 (6))), .sl (List.map c3 (B_2 (7))), .sl (List.map c3 (B_2 (8))), .sl (List.map c3 (B_2 (9))), .sl (List.map c3 (B_2 (10))), .sl (List.map c3 (B_2 (11))), .sl (List.map c3 (B_2 (12))), .sl (List.map c3 (B_2 (13))), .sl (List.map c3 (B_2 (14))), .sl (List.map c3 (B_2 (15)))] (tabC c3 (16 : Nat) B_2) (σ' := ⟨[(0, .sl (List.map c36 ps)), (2, .ptr (2) (0) (0) (0)), (3, .ptr (3) (0) (0) (0)), (4, .ptr (4) (0) (0) (0)), (5, .i .i64 (i_0)), (14, .b (decide (i_0 < (↑ps.length : Int))))], [(2, ⟨0, 138, .var [.nl, .nl, .nl, .nl, .nl, .nl, .nl, .nl, .nl, .nl, .nl, .nl, .nl, .nl, .nl, .nl]⟩), (3, ⟨0, 136, .arr (tabC c3 (16 : Nat) A_1)⟩), (4, ⟨0, 136, .arr (tabC c3 (16 : Nat) B_2)⟩)]⟩) (by kernel_rfl) (by kernel_rfl) (by kernel_rfl) (by kernel_rfl) (ZLe.of_eq (by kernel_rfl)) (by kernel_rfl) ?_
  refine rg (A := True) cx [] [2, 3, 4, 9] [2, 3, 4, 9] trivial ?_
  refine sn ?_
  refine sq ?_
  refine sq ?_
  refine rg (A := True) cx [] [2, 3, 4, 9, 10] [2, 3, 4, 9] trivial ?_
  refine sn ?_
  refine st_block 6 (by kernel_rfl) ?_
  refine awp_varArr 9 ⟨0, 138, .var [.nl, .nl, .nl, .nl, .nl, .nl, .nl, .nl, .nl, .nl, .nl, .nl, .nl, .nl, .nl, .nl]⟩ [.nl, .nl, .nl, .nl, .nl, .nl, .nl, .nl, .nl, .nl, .nl, .nl, .nl, .nl, .nl, .nl] (tabC c3 (16 : Nat) fun x ↦ []) (σ' := ⟨[(2, .ptr (2) (0) (0) (0)), (3, .ptr (3) (0) (0) (0)), (4, .ptr (4) (0) (0) (0)), (9, .ptr (9) (0) (0) (0)), (10, .i .i64 ((0 : Int)))], [(2, ⟨0, 138, .var [.nl, .nl, .nl, .nl, .nl, .nl, .nl, .nl, .nl, .nl, .nl, .nl, .nl, .nl, .nl, .nl]⟩), (3, ⟨0, 136, .arr (tabC c3 (16 : Nat) A_1)⟩), (4, ⟨0, 136, .arr (tabC c3 (16 : Nat) B_2)⟩), (9, ⟨0, 138, .arr (tabC c3 (16 : Nat) fun x ↦ [])⟩)]⟩) (by kernel_rfl) (by kernel_rfl) (by kernel_rfl) (by kernel_rfl) (zle_nls c3 16) (by kernel_rfl) ?_
  refine st_loop (X := Int × (Nat → List Int) × (Nat → List Int) × (Nat → List Int)) (fun x => ⟨[(2, .ptr (2) (0) (0) (0)), (3, .ptr (3) (0) (0) (0)), (4, .ptr (4) (0) (0) (0)), (9, .ptr (9) (0) (0) (0)), (10, .i .i64 (x.fst))], [(2, ⟨0, 138, .var [.nl, .nl, .nl, .nl, .nl, .nl, .nl, .nl, .nl, .nl, .nl, .nl, .nl, .nl, .nl, .nl]⟩), (3, ⟨0, 136, .arr (tabC c3 (16 : Nat) x.snd.fst)⟩), (4, ⟨0, 136, .arr (tabC c3 (16 : Nat) x.snd.snd.fst)⟩), (9, ⟨0, 138, .arr (tabC c3 (16 : Nat) x.snd.snd.snd)⟩)]⟩) (fun x ↦ decMd x.fst x.snd.fst x.snd.snd.fst x.snd.snd.snd) (fun x ↦ invMd A_1 B_2 x.fst x.snd.fst x.snd.snd.fst x.snd.snd.snd) [2, 3, 4, 9, 10] [2, 3, 4, 9] (((0 : Int), A_1, B_2, fun x ↦ [])) (by kernel_rfl) (by kernel_rfl) (show invMd A_1 B_2 (0 : Int) A_1 B_2 fun x ↦ [] from ?g17) ?_; rotate_left 1
  rintro ⟨r_33, A_34, B_35, S_36⟩ h_37
  obtain ⟨h_38, h_39, h_40, h_41, h_42⟩ : A_34 = A_1 ∧ B_35 = B_2 ∧ (0 : Int) ≤ r_33 ∧ r_33 ≤ (16 : Int) ∧ isMean (zT A_1 B_2) r_33 S_36 := h_37
  refine sq ?_
  refine sq ?_
  refine rg (A := (AV.b (decide (r_33 < (16 : Int))) = AV.b (decide (r_33 < (16 : Int))))) cx [(1, { tell := some (.b (decide (r_33 < (16 : Int)))) })] [2, 3, 4, 9, 10, 102] [2, 3, 4, 9] (by kernel_rfl) ?_
  refine sn ?_
  refine st_dec (r_33 < (16 : Int)) (by kernel_rfl) (by kernel_rfl) (fun h_43 => ?_) (fun h_43 => ?_)
  refine st_skip (by kernel_rfl) ?_
  refine sn ?_
  refine sq ?_
  refine st_block 7 (by kernel_rfl) ?_
  have hl_44 := (rng_nrm (zipR (A_34 r_33.toNat) (B_35 r_33.toNat)))
  refine ra (A := ((0 : Int) ≤ r_33) ∧ (r_33 < (↑(16 : Nat) : Int)) ∧ ((tabC c3 (16 : Nat) A_34)[r_33.toNat * (1 : Nat) + 0]? = some (AV.sl (List.map c3 (A_34 r_33.toNat)))) ∧ ((0 : Int) ≤ r_33) ∧ (r_33 < (↑(16 : Nat) : Int)) ∧ ((tabC c3 (16 : Nat) B_35)[r_33.toNat * (1 : Nat) + 0]? = some (AV.sl (List.map c3 (B_35 r_33.toNat)))) ∧ _ ∧ ((0 : Int) ≤ r_33) ∧ (r_33 < (↑(16 : Nat) : Int)) ∧ (r_33.toNat * (1 : Nat) + 0 < (tabC c3 (16 : Nat) S_36).length) ∧ (cellsA (AV.sl (List.map c3 (turnsR (nrm (zipR (A_34 r_33.toNat) (B_35 r_33.toNat)))))) = [(cellsA (AV.sl (List.map c3 (turnsR (nrm (zipR (A_34 r_33.toNat) (B_35 r_33.toNat))))))).headD AV.dead]) ∧ ((tabC c3 (16 : Nat) S_36).set (r_33.toNat * (1 : Nat) + 0) ((cellsA (AV.sl (List.map c3 (turnsR (nrm (zipR (A_34 r_33.toNat) (B_35 r_33.toNat))))))).headD AV.dead) = tabC c3 (16 : Nat) (updF S_36 r_33.toNat (turnsR (nrm (zipR (A_34 r_33.toNat) (B_35 r_33.toNat))))))) cx [(3, { row := [.sl (List.map c3 (A_34 r_33.toNat))] }), (6, { row := [.sl (List.map c3 (B_35 r_33.toNat))] }), (7, { val := some (.sl (List.map c3 (turnsR (nrm (zipR (A_34 r_33.toNat) (B_35 r_33.toNat)))))) }), (10, { rows := some [(tabC c3 (16 : Nat) (updF S_36 r_33.toNat (turnsR (nrm (zipR (A_34 r_33.toNat) (B_35 r_33.toNat))))))] })] [2, 3, 4, 9, 10] [2, 3, 4, 9] ⟨(by (with_reducible assumption)), (by omega), (by (simp only [Nat.mul_one, Nat.add_zero, Nat.zero_add]; with_reducible refine get_tabC ?_; omega)), (by (with_reducible assumption)), (by omega), (by (simp only [Nat.mul_one, Nat.add_zero, Nat.zero_add]; with_reducible refine get_tabC ?_; omega)), (con134 (A_34 r_33.toNat) (B_35 r_33.toNat) ?g18 ?g19), (by (with_reducible assumption)), (by omega), ?g20, (by kernel_rfl), (by (simp only [Nat.mul_one, Nat.add_zero, Nat.zero_add]; (with_reducible refine set_tabC' ?_); exact Eq.refl _))⟩ ?_; rotate_left 3
  refine q_blk_normal ?_
  refine sn ?_
  refine rg (A := (AV.i IntKind.i64 (IntKind.i64.wrap (r_33 + (1 : Int))) = AV.i IntKind.i64 (r_33 + (1 : Int)))) cx [(1, { tell := some (.i .i64 (r_33 + (1 : Int))) })] [2, 3, 4, 9, 10] [2, 3, 4, 9] (told_i64 (by omega) (by omega)) ?_
  refine sn ?_
  refine loop_next ((r_33 + (1 : Int), A_34, B_35, updF S_36 r_33.toNat (turnsR (nrm (zipR (A_34 r_33.toNat) (B_35 r_33.toNat)))))) (by kernel_rfl) (show ((16 : Int) - (r_33 + (1 : Int))).toNat < ((16 : Int) - r_33).toNat from (by omega)) (show invMd A_1 B_2 (r_33 + (1 : Int)) A_34 B_35 (updF S_36 r_33.toNat (turnsR (nrm (zipR (A_34 r_33.toNat) (B_35 r_33.toNat))))) from ?g21); rotate_left 1
  refine st_exit 6 (by kernel_rfl) ?_
  refine q_seq_exit ?_
  refine q_seq_exit ?_
  refine q_blk_hit ?_
  refine sn ?_
  refine sq ?_
  refine rg (A := ((tabC c3 (16 : Nat) S_36).length = (16 : Nat))) cx [] [2] [2] (by kernel_rfl) ?_
  refine sn ?_
  refine st_ret (by kernel_rfl) ?_
  refine q_ret (r := .agg [.sl (List.map c3 (S_36 (0))), .sl (List.map c3 (S_36 (1))), .sl (List.map c3 (S_36 (2))), .sl (List.map c3 (S_36 (3))), .sl (List.map c3 (S_36 (4))), .sl (List.map c3 (S_36 (5))), .sl (List.map c3 (S_36 (6))), .sl (List.map c3 (S_36 (7))), .sl (List.map c3 (S_36 (8))), .sl (List.map c3 (S_36 (9))), .sl (List.map c3 (S_36 (10))), .sl (List.map c3 (S_36 (11))), .sl (List.map c3 (S_36 (12))), .sl (List.map c3 (S_36 (13))), .sl (List.map c3 (S_36 (14))), .sl (List.map c3 (S_36 (15)))]) (obl := []) (by kernel_rfl) trivial (AVle.eq (show AV.agg [AV.sl (List.map c3 (S_36 (0))), AV.sl (List.map c3 (S_36 (1))), AV.sl (List.map c3 (S_36 (2))), AV.sl (List.map c3 (S_36 (3))), AV.sl (List.map c3 (S_36 (4))), AV.sl (List.map c3 (S_36 (5))), AV.sl (List.map c3 (S_36 (6))), AV.sl (List.map c3 (S_36 (7))), AV.sl (List.map c3 (S_36 (8))), AV.sl (List.map c3 (S_36 (9))), AV.sl (List.map c3 (S_36 (10))), AV.sl (List.map c3 (S_36 (11))), AV.sl (List.map c3 (S_36 (12))), AV.sl (List.map c3 (S_36 (13))), AV.sl (List.map c3 (S_36 (14))), AV.sl (List.map c3 (S_36 (15)))] = AV.agg (c138 (tnS (nrmT (openT ps)))) from ?g22)); rotate_left 1
  rotate_left
  revert i_0 A_1 B_2 h_4 h_5 h_6 h_7 h_8; rotate_left
  revert i_0 A_1 B_2 h_4 h_5 h_6 h_7 h_8 j_9 A_10 B_11 h_13 h_14 h_15 h_16 h_17 h_20; rotate_left
  revert i_0 A_1 B_2 h_4 h_5 h_6 h_7 h_8 j_9 A_10 B_11 h_13 h_14 h_15 h_16 h_17 h_20; rotate_left
  revert i_0 A_1 B_2 h_4 h_5 h_6 h_7 h_8 j_9 A_10 B_11 h_13 h_14 h_15 h_16 h_17 h_20; rotate_left
  revert i_0 A_1 B_2 h_4 h_5 h_6 h_7 h_8 j_9 A_10 B_11 h_13 h_14 h_15 h_16 h_17 h_20; rotate_left
  revert i_0 A_1 B_2 h_4 h_5 h_6 h_7 h_8 j_9 A_10 B_11 h_13 h_14 h_15 h_16 h_17 h_20; rotate_left
  revert i_0 A_1 B_2 h_4 h_5 h_6 h_7 h_8 j_9 A_10 B_11 h_13 h_14 h_15 h_16 h_17 h_20; rotate_left
  revert i_0 A_1 B_2 h_4 h_5 h_6 h_7 h_8 j_9 A_10 B_11 h_13 h_14 h_15 h_16 h_17 h_20 j_21 A_22 B_23 h_25 h_26 h_27 h_28 h_29 h_32; rotate_left
  revert i_0 A_1 B_2 h_4 h_5 h_6 h_7 h_8 j_9 A_10 B_11 h_13 h_14 h_15 h_16 h_17 h_20 j_21 A_22 B_23 h_25 h_26 h_27 h_28 h_29 h_32; rotate_left
  revert i_0 A_1 B_2 h_4 h_5 h_6 h_7 h_8 j_9 A_10 B_11 h_13 h_14 h_15 h_16 h_17 h_20 j_21 A_22 B_23 h_25 h_26 h_27 h_28 h_29 h_32; rotate_left
  revert i_0 A_1 B_2 h_4 h_5 h_6 h_7 h_8 j_9 A_10 B_11 h_13 h_14 h_15 h_16 h_17 h_20 j_21 A_22 B_23 h_25 h_26 h_27 h_28 h_29 h_32; rotate_left
  revert i_0 A_1 B_2 h_4 h_5 h_6 h_7 h_8 j_9 A_10 B_11 h_13 h_14 h_15 h_16 h_17 h_20 j_21 A_22 B_23 h_25 h_26 h_27 h_28 h_29 h_32; rotate_left
  revert i_0 A_1 B_2 h_4 h_5 h_6 h_7 h_8 j_9 A_10 B_11 h_13 h_14 h_15 h_16 h_17 h_20 j_21 A_22 B_23 h_25 h_26 h_27 h_28 h_29 h_32; rotate_left
  revert i_0 A_1 B_2 h_4 h_5 h_6 h_7 h_8 j_9 A_10 B_11 h_13 h_14 h_15 h_16 h_17 h_20 j_21 A_22 B_23 h_25 h_26 h_27 h_28 h_29 h_32; rotate_left
  revert i_0 A_1 B_2 h_4 h_5 h_6 h_7 h_8 j_9 A_10 B_11 h_13 h_14 h_15 h_16 h_17 h_20 j_21 A_22 B_23 h_25 h_26 h_27 h_28 h_29 h_32; rotate_left
  revert i_0 A_1 B_2 h_4 h_5 h_6 h_7 h_8 j_9 A_10 B_11 h_13 h_14 h_15 h_16 h_17 h_20 j_21 A_22 B_23 h_25 h_26 h_27 h_28 h_29; rotate_left
  revert i_0 A_1 B_2 h_4 h_5 h_6 h_7 h_8; rotate_left
  clear hl_44; revert i_0 A_1 B_2 h_4 h_5 h_6 h_7 h_8 r_33 A_34 B_35 S_36 h_38 h_39 h_40 h_41 h_42 h_43; rotate_left
  clear hl_44; revert i_0 A_1 B_2 h_4 h_5 h_6 h_7 h_8 r_33 A_34 B_35 S_36 h_38 h_39 h_40 h_41 h_42 h_43; rotate_left
  clear hl_44; revert i_0 A_1 B_2 h_4 h_5 h_6 h_7 h_8 r_33 A_34 B_35 S_36 h_38 h_39 h_40 h_41 h_42 h_43; rotate_left
  clear hl_44; revert i_0 A_1 B_2 h_4 h_5 h_6 h_7 h_8 r_33 A_34 B_35 S_36 h_38 h_39 h_40 h_41 h_42 h_43; rotate_left
  revert i_0 A_1 B_2 h_4 h_5 h_6 h_7 h_8 r_33 A_34 B_35 S_36 h_38 h_39 h_40 h_41 h_42 h_43; rotate_left
  case g0 => exact ⟨by omega, by omega, fun r _ => rfl, fun r _ => rfl⟩
  case g1 => intro i A B h0 h1 h3 h4 h5; exact ⟨by omega, by omega, by omega, h3, openV_start h4⟩
  case g6 =>
    intro i A B h0 h1 h3 h4 h5 j X Y k0 k1 k2 k4 k5 k6
    exact ⟨by omega, by omega, by omega, isLen_upd k4, fun r hr => by rw [zT_upd (k4 _ (by omega))]; exact openV_next k0 k6.1 k5 r hr⟩
  case g7 => intro i A B h0 h1 h3 h4 h5 j X Y k0 k1 k2 k4 k5 k6; exact ⟨by omega, by omega, k4, openC_start (by omega) (by omega) k5⟩
  case g13 =>
    intro i A B h0 h1 h3 h4 h5 j X Y k0 k1 k2 k4 k5 k6 l V W m0 m1 m3 m4 m5 m6
    exact ⟨by omega, by omega, isLen_upd m3, fun r hr => by rw [zT_upd (m3 _ (by omega))]; exact openC_in m0 m5 m6 m4 r hr⟩
  case g15 => intro i A B h0 h1 h3 h4 h5 j X Y k0 k1 k2 k4 k5 k6 l V W m0 m1 m3 m4 m5 m6; exact ⟨by omega, by omega, m3, openC_out m0 m5 m6 m4⟩
  case g16 => intro i A B h0 h1 h3 h4 h5 j X Y k0 k1 k2 k4 k5 k6 l V W m0 m1 m3 m4 m5; exact ⟨by omega, by omega, m3, open_next h0 h5 m5 m4⟩
  case g17 => intro i A B h0 h1 h3 h4 h5; exact ⟨rfl, rfl, by omega, by omega, fun k hk => by omega⟩
  case g18 => intro i A B h0 h1 h3 h4 h5 r X Y S k0 k1 k2 k3 k4 k5; subst k0 k1; exact h3 _ (by omega)
  case g19 =>
    intro i A B h0 h1 h3 h4 h5 r X Y S k0 k1 k2 k3 k4 k5
    subst k0 k1
    have := zT_len h3 (r := r.toNat) (by omega)
    have := openT_len r.toNat (ps.take i.toNat)
    rw [h4 _ (by omega)] at *
    rw [List.take_of_length_le (by omega)] at *
    omega
  case g20 => intro i A B h0 h1 h3 h4 h5 r X Y S k0 k1 k2 k3 k4 k5; rw [tabC_len]; omega
  case g21 => intro i A B h0 h1 h3 h4 h5 r X Y S k0 k1 k2 k3 k4 k5; subst k0 k1; exact ⟨rfl, rfl, by omega, by omega, isMean_next k2 k4⟩
  case g22 =>
    intro i A B h0 h1 h3 h4 h5 r X Y S k0 k1 k2 k3 k4 k5
    congr 1
    show tabC c3 16 S = tabC c3 16 _
    unfold tabC
    refine List.map_congr_left fun q hq => ?_
    have hq : q < 16 := by simpa using hq
    rw [k4 q (by omega)]
    unfold tnS nrmT
    rw [h4 q hq, List.take_of_length_le (by omega)]
  all_goals
    intro i A B h0 h1 h3 h4 h5 j X Y k0 k1 k2 k4 k5 k6
    first
    | (have l1 := openV_len h0 h5 k5 (r := j.toNat) (by omega) (by omega)
       have l2 := zT_len k4 (r := j.toNat) (by omega)
       simp only [List.length_map, List.length_cons, List.length_nil, Go.maxLen]
       omega)
    | (intro l V W m0 m1 m3 m4 m5 m6
       have l0 := openC_len h0 h5 m0 m5 m4 (r := 0) (by omega)
       first
       | omega
       | (have l1 := openC_len h0 h5 m0 m5 m4 (r := ((ps[i.toNat]!).cloud[l.toNat]!).rep.toNat) (by omega)
          have l2 := zT_len m3 (r := ((ps[i.toNat]!).cloud[l.toNat]!).rep.toNat) (by omega)
          simp only [List.length_map, List.length_cons, List.length_nil, Go.maxLen]
          omega))
end Go.Proofs.Ytjngmlkaijpbgaa
namespace Go.Proofs.Ytjngmlkaijpbgaa
open Go.E
set_option maxRecDepth 100000
set_option maxHeartbeats 4000000
def invFa (U : Nat → List Run) (n r : Int) (S : Nat → List Int) (v : List Int) (c : List Span) : Prop := S = tnS U ∧ 0 ≤ r ∧ r ≤ 16 ∧ 0 ≤ n ∧ n ≤ r ∧ v.length = 16 ∧ isSz U r n ∧ isVec U r v ∧ isCloud U r c
def decFa (n r : Int) (S : Nat → List Int) (v : List Int) (c : List Span) : Nat := (16 - r).toNat
def isIn (U : Nat → List Run) (r n0 : Int) (v0 : List Int) (c0 : List Span) (k n : Int) (v : List Int) (c : List Span) : Prop :=
  n = (if 0 < (leadR ((U r.toNat).take (k / 2).toNat)).1 then r + 1 else n0) ∧ v = v0.set r.toNat (leadR ((U r.toNat).take (k / 2).toNat)).1 ∧ c = c0 ++ (leadR ((U r.toNat).take (k / 2).toNat)).2.map fun x => (⟨r, x.lo, x.hi⟩ : Span)
def invFb (U : Nat → List Run) (r n0 : Int) (v0 : List Int) (c0 : List Span) (n k : Int) (S : Nat → List Int) (v : List Int) (c : List Span) : Prop := S = tnS U ∧ 0 ≤ k ∧ k ≤ 2 * (U r.toNat).length ∧ 2 * (k / 2) = k ∧ v.length = 16 ∧ 0 ≤ n ∧ n ≤ r + 1 ∧ isIn U r n0 v0 c0 k n v c
def decFb (U : Nat → List Run) (r : Int) (n k : Int) (S : Nat → List Int) (v : List Int) (c : List Span) : Nat := (2 * (U r.toNat).length - k).toNat
theorem turns_len (l : List Run) : (turnsR l).length = 2 * l.length := by
  induction l with
  | nil => rfl
  | cons r l ih =>
    have : turnsR (r :: l) = r.lo :: (r.hi + 1) :: turnsR l := rfl
    rw [this]; simp only [List.length_cons, ih]; omega
theorem turns_at : ∀ {l : List Run} {j : Nat}, j < l.length → (turnsR l)[2 * j]! = l[j]!.lo ∧ (turnsR l)[2 * j + 1]! = l[j]!.hi + 1
  | r :: l, 0, _ => ⟨rfl, rfl⟩
  | r :: l, j + 1, h => by
    have e : turnsR (r :: l) = r.lo :: (r.hi + 1) :: turnsR l := rfl
    have ih := turns_at (l := l) (j := j) (by simpa using h)
    rw [e, show 2 * (j + 1) = 2 * j + 1 + 1 by omega]
    simpa using ih
theorem lead_one {x : Run} (h : x.lo = 1) : leadR [x] = (x.hi, []) := by
  unfold leadR
  rw [if_neg]
  · rfl
  · rintro (k | k)
    · cases k
    · exact k h
theorem lead_snoc {P : List Run} {x : Run} (h : P = [] → ¬ x.lo = 1) : leadR (P ++ [x]) = ((leadR P).1, (leadR P).2 ++ [x]) := by
  cases P with
  | nil =>
    show leadR [x] = _
    unfold leadR
    rw [if_pos (.inr (h rfl)), if_pos (.inl rfl)]
    rfl
  | cons y P =>
    unfold leadR
    by_cases hy : y.lo = 1
    · rw [if_neg, if_neg]
      · simp
      · simpa using hy
      · simpa using hy
    · rw [if_pos, if_pos]
      · simpa using hy
      · simpa using hy
theorem lead_len (P : List Run) : (leadR P).2.length ≤ P.length := by
  unfold leadR
  split
  · exact Nat.le_refl _
  · simp
theorem isIn_start {U : Nat → List Run} {r n0 : Int} {v0 : List Int} {c0 : List Span} (h0 : 0 ≤ r) (h1 : r < 16) (hv : isVec U r v0) : isIn U r n0 v0 c0 0 n0 v0 c0 := by
  unfold isIn
  refine ⟨?_, ?_, ?_⟩
  · show n0 = if (0 : Int) < (leadR []).1 then _ else _
    rw [lead_nil, if_neg (by omega)]
  · show v0 = v0.set r.toNat (leadR []).1
    rw [lead_nil]
    unfold isVec vecT at hv
    have e : 16 - r.toNat = (15 - r.toNat) + 1 := by omega
    rw [hv, List.set_append_right _ _ (by simp), List.length_map, List.length_range, Nat.sub_self, e, List.replicate_succ, List.set_cons_zero]
  · show c0 = c0 ++ List.map _ (leadR []).2
    rw [lead_nil]; simp
theorem take_at {l : List Run} {k : Int} (h0 : 0 ≤ k) (he : 2 * (k / 2) = k) (hk : k + 1 < 2 * l.length) : l.take ((k + 2) / 2).toNat = l.take (k / 2).toNat ++ [l[(k / 2).toNat]!] := by
  have := take_step (a := l) (i := k / 2) (by omega) (by omega)
  rw [show ((k + 2) / 2).toNat = (k / 2 + 1).toNat by omega, this]
theorem isIn_one {U : Nat → List Run} {r n0 n k : Int} {v0 v : List Int} {c0 c : List Span} (hU : sepR (U r.toNat)) (h0 : 0 ≤ k) (he : 2 * (k / 2) = k) (hk : k + 1 < 2 * (U r.toNat).length) (hlo : (U r.toNat)[(k / 2).toNat]!.lo = 1) (h : isIn U r n0 v0 c0 k n v c) :
    isIn U r n0 v0 c0 (k + 2) (r + 1) (v.set r.toNat (U r.toNat)[(k / 2).toNat]!.hi) c := by
  have h1 := sepR_lo hU (k / 2).toNat (by omega)
  have h2 := hU.2 _ (bang_in (l := U r.toNat) (i := (k / 2).toNat) (by omega))
  have hz : k = 0 := by omega
  subst hz
  unfold isIn at *
  rw [take_at h0 he hk]
  obtain ⟨a1, a2, a3⟩ := h
  have e : (U r.toNat).take ((0 : Int) / 2).toNat = [] := by simp
  rw [e] at a1 a2 a3 ⊢
  rw [List.nil_append, lead_one hlo]
  rw [lead_nil] at a2 a3
  refine ⟨?_, ?_, ?_⟩
  · rw [if_pos (show (0 : Int) < (U r.toNat)[((0 : Int) / 2).toNat]!.hi by omega)]
  · rw [a2, List.set_set]
  · exact a3
theorem isIn_snoc {U : Nat → List Run} {r n0 n k : Int} {v0 v : List Int} {c0 c : List Span} (h0 : 0 ≤ k) (he : 2 * (k / 2) = k) (hk : k + 1 < 2 * (U r.toNat).length) (hlo : ¬ (U r.toNat)[(k / 2).toNat]!.lo = 1) (h : isIn U r n0 v0 c0 k n v c) :
    isIn U r n0 v0 c0 (k + 2) n v (c ++ [⟨r, (U r.toNat)[(k / 2).toNat]!.lo, (U r.toNat)[(k / 2).toNat]!.hi⟩]) := by
  unfold isIn at *
  rw [take_at h0 he hk, lead_snoc (fun _ => hlo)]
  obtain ⟨a1, a2, a3⟩ := h
  refine ⟨a1, a2, ?_⟩
  rw [a3, List.map_append, List.append_assoc]
  rfl
theorem isIn_end {U : Nat → List Run} {r n0 n k : Int} {v0 v : List Int} {c0 c : List Span} (hU : sepR (U r.toNat)) (r0 : 0 ≤ r) (r1 : r < 16) (hs : isSz U r n0) (hv : isVec U r v0) (hc : isCloud U r c0) (h0 : 0 ≤ k) (he : 2 * (k / 2) = k) (hk : ¬ k + 1 < 2 * (U r.toNat).length) (hl : k ≤ 2 * (U r.toNat).length)
    (h : isIn U r n0 v0 c0 k n v c) : isSz U (r + 1) n ∧ isVec U (r + 1) v ∧ isCloud U (r + 1) c := by
  unfold isIn at h
  rw [List.take_of_length_le (by omega)] at h
  obtain ⟨a1, a2, a3⟩ := h
  have g1 := sz_next r0 hs
  have g2 := vec_next r0 r1 hv
  rw [nrm_id hU] at g1 g2
  rw [a1, a2]
  refine ⟨g1, g2, ?_⟩
  unfold isCloud at *
  rw [show (r + 1).toNat = r.toNat + 1 by omega, cloudT, restT, nrm_id hU, a3, hc, show ((r.toNat : Nat) : Int) = r by omega]
theorem tn_at {U : Nat → List Run} {r k : Int} (h0 : 0 ≤ k) (he : 2 * (k / 2) = k) (hk : k + 1 < 2 * (U r.toNat).length) : (tnS U r.toNat)[k.toNat]! = (U r.toNat)[(k / 2).toNat]!.lo ∧ (tnS U r.toNat)[(k + 1).toNat]! = (U r.toNat)[(k / 2).toNat]!.hi + 1 := by
  have := turns_at (l := U r.toNat) (j := (k / 2).toNat) (by omega)
  unfold tnS
  rw [show k.toNat = 2 * (k / 2).toNat by omega, show (k + 1).toNat = 2 * (k / 2).toNat + 1 by omega]
  exact this
theorem isIn_len {U : Nat → List Run} {r n0 n k : Int} {v0 v : List Int} {c0 c : List Span} (hU : sepR (U r.toNat)) (r0 : 0 ≤ r) (r1 : r < 16) (hc : isCloud U r c0) (h : isIn U r n0 v0 c0 k n v c) : c.length ≤ 8000000000 := by
  obtain ⟨_, _, a3⟩ := h
  have h1 := cloud_len U r.toNat
  have h2 := lead_len ((U r.toNat).take (k / 2).toNat)
  have h3 := sepR_len hU
  unfold isCloud at hc
  rw [List.length_take] at h2
  rw [a3, List.length_append, List.length_map, hc]
  omega
theorem con115 (U : Nat → List Run) (hU : ∀ r : Nat, r < 16 → sepR (U r)) : Con Try.prog 115 [.agg (c138 (tnS U))] (.agg (c36 (tabP U))) :=
  by
  refine st_con tab_ok (by kernel_rfl) [.cell 2 36] 73 Go.Proofs.Try.func115 (by kernel_rfl) (by kernel_rfl) ?_
  intro e0 cx
  refine sq ?_
  refine rg (A := True) cx [] [1, 2] [1, 2] trivial ?_
  refine sn ?_
  refine sq ?_
  refine rg (A := True) cx [] [1, 2, 3] [1, 2, 3] trivial ?_
  refine sn ?_
  refine sq ?_
  refine rg (A := ((16 : Int) = (↑(16 : Nat) : Int)) ∧ ((16 : Int) = (↑(16 : Nat) : Int)) ∧ ((8 : Nat) * (16 : Nat) ≤ (281474976710656 : Nat)) ∧ ((16 : Nat) ≤ maxLen) ∧ ([AV.i IntKind.i64 (0 : Int)].length = (1 : Nat)) ∧ (ZLe [AV.i IntKind.i64 (0 : Int)] [AV.i IntKind.i64 (0 : Int)]) ∧ (List.replicate (16 : Nat) [AV.i IntKind.i64 (0 : Int)] = List.map c3 (List.replicate (16 : Nat) (0 : Int)))) cx [(0, { row := [.i .i64 ((0 : Int))], rows := some (List.map c3 (List.replicate (16 : Nat) (0 : Int))), n := (16 : Nat) })] [1, 2, 3, 4] [1, 2, 3, 8] ⟨(by kernel_rfl), (by kernel_rfl), (by omega), (by (simp only [Go.maxLen]; omega)), (by kernel_rfl), (by (with_reducible exact ZLe.refl _)), (by (with_reducible refine rep_map ?_; kernel_rfl))⟩ ?_
  refine sn ?_
  refine sq ?_
  refine rg (A := True) cx [] [1, 2, 3, 4, 5] [1, 2, 3, 8] trivial ?_
  refine sn ?_
  refine sq ?_
  refine sq ?_
  refine rg (A := True) cx [] [1, 2, 3, 4, 5, 6] [1, 2, 3, 8] trivial ?_
  refine sn ?_
  refine st_block 0 (by kernel_rfl) ?_
  refine awp_cellIn 3 81 3 1 5301 (σ' := ⟨[(1, .ptr (1) (0) (0) (0)), (2, .ptr (2) (0) (0) (0)), (3, .ptr (3) (0) (0) (0)), (4, .own 8 0), (5, .i .i64 ((0 : Int))), (6, .i .i64 ((0 : Int)))], [(1, ⟨0, 138, .var [.sl (List.map c3 (tnS U (0))), .sl (List.map c3 (tnS U (1))), .sl (List.map c3 (tnS U (2))), .sl (List.map c3 (tnS U (3))), .sl (List.map c3 (tnS U (4))), .sl (List.map c3 (tnS U (5))), .sl (List.map c3 (tnS U (6))), .sl (List.map c3 (tnS U (7))), .sl (List.map c3 (tnS U (8))), .sl (List.map c3 (tnS U (9))), .sl (List.map c3 (tnS U (10))), .sl (List.map c3 (tnS U (11))), .sl (List.map c3 (tnS U (12))), .sl (List.map c3 (tnS U (13))), .sl (List.map c3 (tnS U (14))), .sl (List.map c3 (tnS U (15)))]⟩), (2, ⟨0, 36, .var [.nl, .nl]⟩), (3, ⟨0, 36, .var [.nl, .own 5301 0]⟩), (8, ⟨0, 3, .row 1 (List.map c3 (List.replicate (16 : Nat) (0 : Int)))⟩), (5301, ⟨0, 81, .row 3 (List.map c81 [])⟩)]⟩) (by kernel_rfl) ?_
  refine awp_varArr 1 ⟨0, 138, .var [.sl (List.map c3 (tnS U (0))), .sl (List.map c3 (tnS U (1))), .sl (List.map c3 (tnS U (2))), .sl (List.map c3 (tnS U (3))), .sl (List.map c3 (tnS U (4))), .sl (List.map c3 (tnS U (5))), .sl (List.map c3 (tnS U (6))), .sl (List.map c3 (tnS U (7))), .sl (List.map c3 (tnS U (8))), .sl (List.map c3 (tnS U (9))), .sl (List.map c3 (tnS U (10))), .sl (List.map c3 (tnS U (11))), .sl (List.map c3 (tnS U (12))), .sl (List.map c3 (tnS U (13))), .sl (List.map c3 (tnS U (14))), .sl (List.map c3 (tnS U (15)))]⟩ [.sl (List.map c3 (tnS U (0))), .sl (List.map c3 (tnS U (1))), .sl (List.map c3 (tnS U (2))), .sl (List.map c3 (tnS U (3))), .sl (List.map c3 (tnS U (4))), .sl (List.map c3 (tnS U (5))), .sl (List.map c3 (tnS U (6))), .sl (List.map c3 (tnS U (7))), .sl (List.map c3 (tnS U (8))), .sl (List.map c3 (tnS U (9))), .sl (List.map c3 (tnS U (10))), .sl (List.map c3 (tnS U (11))), .sl (List.map c3 (tnS U (12))), .sl (List.map c3 (tnS U (13))), .sl (List.map c3 (tnS U (14))), .sl (List.map c3 (tnS U (15)))] (tabC c3 (16 : Nat) (tnS U)) (σ' := ⟨[(1, .ptr (1) (0) (0) (0)), (2, .ptr (2) (0) (0) (0)), (3, .ptr (3) (0) (0) (0)), (4, .own 8 0), (5, .i .i64 ((0 : Int))), (6, .i .i64 ((0 : Int)))], [(1, ⟨0, 138, .arr (tabC c3 (16 : Nat) (tnS U))⟩), (2, ⟨0, 36, .var [.nl, .nl]⟩), (3, ⟨0, 36, .var [.nl, .own 5301 0]⟩), (8, ⟨0, 3, .row 1 (List.map c3 (List.replicate (16 : Nat) (0 : Int)))⟩), (5301, ⟨0, 81, .row 3 (List.map c81 [])⟩)]⟩) (by kernel_rfl) (by kernel_rfl) (by kernel_rfl) (by kernel_rfl) (ZLe.of_eq (by kernel_rfl)) (by kernel_rfl) ?_
  refine st_loop (X := Int × Int × (Nat → List Int) × List Int × List Span) (fun x => ⟨[(1, .ptr (1) (0) (0) (0)), (2, .ptr (2) (0) (0) (0)), (3, .ptr (3) (0) (0) (0)), (4, .own 8 0), (5, .i .i64 (x.fst)), (6, .i .i64 (x.snd.fst))], [(1, ⟨0, 138, .arr (tabC c3 (16 : Nat) x.snd.snd.fst)⟩), (2, ⟨0, 36, .var [.nl, .nl]⟩), (3, ⟨0, 36, .var [.nl, .own 5301 0]⟩), (8, ⟨0, 3, .row 1 (List.map c3 x.snd.snd.snd.fst)⟩), (5301, ⟨0, 81, .row 3 (List.map c81 x.snd.snd.snd.snd)⟩)]⟩) (fun x ↦ decFa x.fst x.snd.fst x.snd.snd.fst x.snd.snd.snd.fst x.snd.snd.snd.snd) (fun x ↦ invFa U x.fst x.snd.fst x.snd.snd.fst x.snd.snd.snd.fst x.snd.snd.snd.snd) [1, 2, 3, 4, 5, 6] [1, 2, 3, 8, 5301] (((0 : Int), (0 : Int), tnS U, List.replicate (16 : Nat) (0 : Int), [])) (by kernel_rfl) (by kernel_rfl) (show invFa U (0 : Int) (0 : Int) (tnS U) (List.replicate (16 : Nat) (0 : Int)) [] from ?g0) ?_; rotate_left 1
  rintro ⟨n_0, r_1, S_2, v_3, c_4⟩ h_5
  obtain ⟨h_6, h_7, h_8, h_9, h_10, h_11, h_12, h_13, h_14⟩ : S_2 = tnS U ∧ (0 : Int) ≤ r_1 ∧ r_1 ≤ (16 : Int) ∧ (0 : Int) ≤ n_0 ∧ n_0 ≤ r_1 ∧ v_3.length = (16 : Nat) ∧ isSz U r_1 n_0 ∧ isVec U r_1 v_3 ∧ isCloud U r_1 c_4 := h_5
  refine sq ?_
  refine sq ?_
  refine rg (A := (AV.b (decide (r_1 < (16 : Int))) = AV.b (decide (r_1 < (16 : Int))))) cx [(1, { tell := some (.b (decide (r_1 < (16 : Int)))) })] [1, 2, 3, 4, 5, 6, 10] [1, 2, 3, 8, 5301] (by kernel_rfl) ?_
  refine sn ?_
  refine st_dec (r_1 < (16 : Int)) (by kernel_rfl) (by kernel_rfl) (fun h_15 => ?_) (fun h_15 => ?_)
  refine st_skip (by kernel_rfl) ?_
  refine sn ?_
  refine sq ?_
  refine st_block 1 (by kernel_rfl) ?_
  refine sq ?_
  refine rg (A := True) cx [] [1, 2, 3, 4, 5, 6, 7] [1, 2, 3, 8, 5301] trivial ?_
  refine sn ?_
  refine st_block 2 (by kernel_rfl) ?_
  refine st_loop (X := Int × Int × (Nat → List Int) × List Int × List Span) (fun x => ⟨[(1, .ptr (1) (0) (0) (0)), (2, .ptr (2) (0) (0) (0)), (3, .ptr (3) (0) (0) (0)), (4, .own 8 0), (5, .i .i64 (x.fst)), (6, .i .i64 (r_1)), (7, .i .i64 (x.snd.fst))], [(1, ⟨0, 138, .arr (tabC c3 (16 : Nat) x.snd.snd.fst)⟩), (2, ⟨0, 36, .var [.nl, .nl]⟩), (3, ⟨0, 36, .var [.nl, .own 5301 0]⟩), (8, ⟨0, 3, .row 1 (List.map c3 x.snd.snd.snd.fst)⟩), (5301, ⟨0, 81, .row 3 (List.map c81 x.snd.snd.snd.snd)⟩)]⟩) (fun x ↦ decFb U r_1 x.fst x.snd.fst x.snd.snd.fst x.snd.snd.snd.fst x.snd.snd.snd.snd) (fun x ↦ invFb U r_1 n_0 v_3 c_4 x.fst x.snd.fst x.snd.snd.fst x.snd.snd.snd.fst x.snd.snd.snd.snd) [1, 2, 3, 4, 5, 6, 7] [1, 2, 3, 8, 5301] ((n_0, (0 : Int), S_2, v_3, c_4)) (by kernel_rfl) (by kernel_rfl) (show invFb U r_1 n_0 v_3 c_4 n_0 (0 : Int) S_2 v_3 c_4 from ?g1) ?_; rotate_left 1
  rintro ⟨n_16, k_17, S_18, v_19, c_20⟩ h_21
  obtain ⟨h_22, h_23, h_24, h_25, h_26, h_27, h_28, h_29⟩ : S_18 = tnS U ∧ (0 : Int) ≤ k_17 ∧ k_17 ≤ (2 : Int) * (↑(U r_1.toNat).length : Int) ∧ (2 : Int) * (k_17 / (2 : Int)) = k_17 ∧ v_19.length = (16 : Nat) ∧ (0 : Int) ≤ n_16 ∧ n_16 ≤ r_1 + (1 : Int) ∧ isIn U r_1 n_0 v_3 c_4 k_17 n_16 v_19 c_20 := h_21
  refine sq ?_
  refine sq ?_
  refine rg (A := (AV.i IntKind.i64 (IntKind.i64.wrap (k_17 + (1 : Int))) = AV.i IntKind.i64 (k_17 + (1 : Int))) ∧ ((0 : Int) ≤ r_1) ∧ (r_1 < (↑(16 : Nat) : Int)) ∧ ((tabC c3 (16 : Nat) S_18)[r_1.toNat * (1 : Nat) + 0]? = some (AV.sl (List.map c3 (S_18 r_1.toNat)))) ∧ _ ∧ (AV.b (decide (k_17 + (1 : Int) < (↑(S_18 r_1.toNat).length : Int))) = AV.b (decide (k_17 + (1 : Int) < (↑(S_18 r_1.toNat).length : Int))))) cx [(1, { tell := some (.i .i64 (k_17 + (1 : Int))) }), (5, { row := [.sl (List.map c3 (S_18 r_1.toNat))] }), (6, { tell := some (.i .i64 ((↑(S_18 r_1.toNat).length : Int))) }), (7, { tell := some (.b (decide (k_17 + (1 : Int) < (↑(S_18 r_1.toNat).length : Int)))) })] [1, 2, 3, 4, 5, 6, 7, 20] [1, 2, 3, 8, 5301] ⟨(told_i64 (by omega) ?g2), (by (with_reducible assumption)), (by omega), (by (simp only [Nat.mul_one, Nat.add_zero, Nat.zero_add]; with_reducible refine get_tabC ?_; omega)), (told_len c3 (S_18 r_1.toNat)), (by kernel_rfl)⟩ ?_; rotate_left 1
  refine sn ?_
  refine st_dec (k_17 + (1 : Int) < (↑(S_18 r_1.toNat).length : Int)) (by kernel_rfl) (by kernel_rfl) (fun h_30 => ?_) (fun h_30 => ?_)
  refine st_skip (by kernel_rfl) ?_
  refine sn ?_
  refine sq ?_
  refine st_block 3 (by kernel_rfl) ?_
  refine sq ?_
  refine rg (A := ((0 : Int) ≤ r_1) ∧ (r_1 < (↑(16 : Nat) : Int)) ∧ ((tabC c3 (16 : Nat) S_18)[r_1.toNat * (1 : Nat) + 0]? = some (AV.sl (List.map c3 (S_18 r_1.toNat)))) ∧ ((0 : Int) ≤ k_17) ∧ ((List.map c3 (S_18 r_1.toNat))[k_17.toNat]? = some (c3 (S_18 r_1.toNat)[k_17.toNat]!)) ∧ ((c3 (S_18 r_1.toNat)[k_17.toNat]!).length = (1 : Nat)) ∧ (AV.b ((S_18 r_1.toNat)[k_17.toNat]! == (1 : Int)) = AV.b (decide ((S_18 r_1.toNat)[k_17.toNat]! = (1 : Int))))) cx [(3, { row := [.sl (List.map c3 (S_18 r_1.toNat))] }), (5, { row := (c3 (S_18 r_1.toNat)[k_17.toNat]!) }), (7, { tell := some (.b (decide ((S_18 r_1.toNat)[k_17.toNat]! = (1 : Int)))) })] [1, 2, 3, 4, 5, 6, 7, 30] [1, 2, 3, 8, 5301] ⟨(by (with_reducible assumption)), (by omega), (by (simp only [Nat.mul_one, Nat.add_zero, Nat.zero_add]; with_reducible refine get_tabC ?_; omega)), (by (with_reducible assumption)), (by (with_reducible refine get_map ?_; omega)), (by kernel_rfl), (by kernel_rfl)⟩ ?_
  refine sn ?_
  refine st_dec ((S_18 r_1.toNat)[k_17.toNat]! = (1 : Int)) (by kernel_rfl) (by kernel_rfl) (fun h_31 => ?_) (fun h_31 => ?_)
  refine sq ?_
  refine rg (A := ((0 : Int) ≤ r_1) ∧ (r_1 < (↑(16 : Nat) : Int)) ∧ ((tabC c3 (16 : Nat) S_18)[r_1.toNat * (1 : Nat) + 0]? = some (AV.sl (List.map c3 (S_18 r_1.toNat)))) ∧ (AV.i IntKind.i64 (IntKind.i64.wrap (k_17 + (1 : Int))) = AV.i IntKind.i64 (k_17 + (1 : Int))) ∧ ((0 : Int) ≤ k_17 + (1 : Int)) ∧ ((List.map c3 (S_18 r_1.toNat))[(k_17 + (1 : Int)).toNat]? = some (c3 (S_18 r_1.toNat)[(k_17 + (1 : Int)).toNat]!)) ∧ ((c3 (S_18 r_1.toNat)[(k_17 + (1 : Int)).toNat]!).length = (1 : Nat)) ∧ (AV.i IntKind.i64 (IntKind.i64.wrap ((S_18 r_1.toNat)[(k_17 + (1 : Int)).toNat]! - (1 : Int))) = AV.i IntKind.i64 ((S_18 r_1.toNat)[(k_17 + (1 : Int)).toNat]! - (1 : Int))) ∧ ((0 : Int) ≤ r_1) ∧ (r_1.toNat < (List.map c3 v_19).length) ∧ ((1 : Nat) = 1) ∧ ((List.map c3 v_19)[r_1.toNat]? = some (c3 v_19[r_1.toNat]!)) ∧ ((cellsA (AV.i IntKind.i64 ((S_18 r_1.toNat)[(k_17 + (1 : Int)).toNat]! - (1 : Int)))).length = (1 : Nat)) ∧ (0 + (1 : Nat) ≤ 1) ∧ ((List.map c3 v_19).set r_1.toNat (List.take (0) (c3 v_19[r_1.toNat]!) ++ cellsA (AV.i IntKind.i64 ((S_18 r_1.toNat)[(k_17 + (1 : Int)).toNat]! - (1 : Int))) ++ List.drop (0 + (1 : Nat)) (c3 v_19[r_1.toNat]!)) = List.map c3 (v_19.set r_1.toNat ((S_18 r_1.toNat)[(k_17 + (1 : Int)).toNat]! - (1 : Int))))) cx [(5, { row := [.sl (List.map c3 (S_18 r_1.toNat))] }), (7, { tell := some (.i .i64 (k_17 + (1 : Int))) }), (8, { row := (c3 (S_18 r_1.toNat)[(k_17 + (1 : Int)).toNat]!) }), (10, { tell := some (.i .i64 ((S_18 r_1.toNat)[(k_17 + (1 : Int)).toNat]! - (1 : Int))) }), (12, { row := (c3 v_19[r_1.toNat]!), rows := some (List.map c3 (v_19.set r_1.toNat ((S_18 r_1.toNat)[(k_17 + (1 : Int)).toNat]! - (1 : Int)))) })] [1, 2, 3, 4, 6, 7] [1, 2, 3, 8, 5301] ⟨(by (with_reducible assumption)), (by omega), (by (simp only [Nat.mul_one, Nat.add_zero, Nat.zero_add]; with_reducible refine get_tabC ?_; omega)), (told_i64 (by omega) ?g3), (by omega), (by (with_reducible refine get_map ?_; omega)), (by kernel_rfl), (told_i64 ?g4 ?g5), (by (with_reducible assumption)), (by (first | omega | (simp only [List.length_map]; omega))), (by kernel_rfl), (by (with_reducible refine get_map ?_; omega)), (by kernel_rfl), (by (first | omega | (simp only [List.length_map]; omega))), (by (with_reducible refine set_map ?_; kernel_rfl))⟩ ?_; rotate_left 3
  refine sn ?_
  refine rg (A := (AV.i IntKind.i64 (IntKind.i64.wrap (r_1 + (1 : Int))) = AV.i IntKind.i64 (r_1 + (1 : Int)))) cx [(1, { tell := some (.i .i64 (r_1 + (1 : Int))) })] [1, 2, 3, 4, 6, 7, 5] [1, 2, 3, 8, 5301] (told_i64 (by omega) (by omega)) ?_
  refine q_blk_normal ?_
  refine sn ?_
  refine rg (A := (AV.i IntKind.i64 (IntKind.i64.wrap (k_17 + (2 : Int))) = AV.i IntKind.i64 (k_17 + (2 : Int)))) cx [(1, { tell := some (.i .i64 (k_17 + (2 : Int))) })] [1, 2, 3, 4, 6, 7, 5] [1, 2, 3, 8, 5301] (told_i64 (by omega) ?g6) ?_; rotate_left 1
  refine sn ?_
  refine loop_next ((r_1 + (1 : Int), k_17 + (2 : Int), S_18, v_19.set r_1.toNat ((S_18 r_1.toNat)[(k_17 + (1 : Int)).toNat]! - (1 : Int)), c_20)) (by kernel_rfl) (show ((2 : Int) * (↑(U r_1.toNat).length : Int) - (k_17 + (2 : Int))).toNat < ((2 : Int) * (↑(U r_1.toNat).length : Int) - k_17).toNat from ?g7) (show invFb U r_1 n_0 v_3 c_4 (r_1 + (1 : Int)) (k_17 + (2 : Int)) S_18 (v_19.set r_1.toNat ((S_18 r_1.toNat)[(k_17 + (1 : Int)).toNat]! - (1 : Int))) c_20 from ?g8); rotate_left 2
  refine ra (A := ((0 : Int) ≤ r_1) ∧ (r_1 < (↑(16 : Nat) : Int)) ∧ ((tabC c3 (16 : Nat) S_18)[r_1.toNat * (1 : Nat) + 0]? = some (AV.sl (List.map c3 (S_18 r_1.toNat)))) ∧ ((0 : Int) ≤ k_17) ∧ ((List.map c3 (S_18 r_1.toNat))[k_17.toNat]? = some (c3 (S_18 r_1.toNat)[k_17.toNat]!)) ∧ ((c3 (S_18 r_1.toNat)[k_17.toNat]!).length = (1 : Nat)) ∧ ((0 : Int) ≤ r_1) ∧ (r_1 < (↑(16 : Nat) : Int)) ∧ ((tabC c3 (16 : Nat) S_18)[r_1.toNat * (1 : Nat) + 0]? = some (AV.sl (List.map c3 (S_18 r_1.toNat)))) ∧ (AV.i IntKind.i64 (IntKind.i64.wrap (k_17 + (1 : Int))) = AV.i IntKind.i64 (k_17 + (1 : Int))) ∧ ((0 : Int) ≤ k_17 + (1 : Int)) ∧ ((List.map c3 (S_18 r_1.toNat))[(k_17 + (1 : Int)).toNat]? = some (c3 (S_18 r_1.toNat)[(k_17 + (1 : Int)).toNat]!)) ∧ ((c3 (S_18 r_1.toNat)[(k_17 + (1 : Int)).toNat]!).length = (1 : Nat)) ∧ (AV.i IntKind.i64 (IntKind.i64.wrap ((S_18 r_1.toNat)[(k_17 + (1 : Int)).toNat]! - (1 : Int))) = AV.i IntKind.i64 ((S_18 r_1.toNat)[(k_17 + (1 : Int)).toNat]! - (1 : Int))) ∧ (81 = (81 : Nat)) ∧ ((3 : Nat) = 3) ∧ ([AV.i IntKind.i64 (0 : Int), AV.i IntKind.i64 (0 : Int), AV.i IntKind.i64 (0 : Int)].length = (3 : Nat)) ∧ (∀ (r : List AV), r ∈ List.map c81 [{ rep := r_1, lo := (S_18 r_1.toNat)[k_17.toNat]!, hi := (S_18 r_1.toNat)[(k_17 + (1 : Int)).toNat]! - (1 : Int) : Span }] → r.length = 3) ∧ ((List.map c81 c_20).length + (List.map c81 [{ rep := r_1, lo := (S_18 r_1.toNat)[k_17.toNat]!, hi := (S_18 r_1.toNat)[(k_17 + (1 : Int)).toNat]! - (1 : Int) : Span }]).length ≤ maxLen) ∧ (((List.map c81 c_20).length + (List.map c81 [{ rep := r_1, lo := (S_18 r_1.toNat)[k_17.toNat]!, hi := (S_18 r_1.toNat)[(k_17 + (1 : Int)).toNat]! - (1 : Int) : Span }]).length) * (24 : Nat) ≤ (140737488355328 : Nat)) ∧ (List.map c81 c_20 ++ List.map c81 [{ rep := r_1, lo := (S_18 r_1.toNat)[k_17.toNat]!, hi := (S_18 r_1.toNat)[(k_17 + (1 : Int)).toNat]! - (1 : Int) : Span }] = List.map c81 (c_20 ++ [{ rep := r_1, lo := (S_18 r_1.toNat)[k_17.toNat]!, hi := (S_18 r_1.toNat)[(k_17 + (1 : Int)).toNat]! - (1 : Int) : Span }]))) cx [(6, { row := [.sl (List.map c3 (S_18 r_1.toNat))] }), (8, { row := (c3 (S_18 r_1.toNat)[k_17.toNat]!) }), (13, { row := [.sl (List.map c3 (S_18 r_1.toNat))] }), (15, { tell := some (.i .i64 (k_17 + (1 : Int))) }), (16, { row := (c3 (S_18 r_1.toNat)[(k_17 + (1 : Int)).toNat]!) }), (18, { tell := some (.i .i64 ((S_18 r_1.toNat)[(k_17 + (1 : Int)).toNat]! - (1 : Int))) }), (21, { rows := some (List.map c81 (c_20 ++ [{ rep := r_1, lo := (S_18 r_1.toNat)[k_17.toNat]!, hi := (S_18 r_1.toNat)[(k_17 + (1 : Int)).toNat]! - (1 : Int) : Span }])) })] [1, 2, 3, 4, 5, 6, 7] [1, 2, 3, 8, 5301] ⟨(by (with_reducible assumption)), (by omega), (by (simp only [Nat.mul_one, Nat.add_zero, Nat.zero_add]; with_reducible refine get_tabC ?_; omega)), (by (with_reducible assumption)), (by (with_reducible refine get_map ?_; omega)), (by kernel_rfl), (by (with_reducible assumption)), (by omega), (by (simp only [Nat.mul_one, Nat.add_zero, Nat.zero_add]; with_reducible refine get_tabC ?_; omega)), (told_i64 (by omega) ?g9), (by omega), (by (with_reducible refine get_map ?_; omega)), (by kernel_rfl), (told_i64 ?g10 ?g11), (by kernel_rfl), (by kernel_rfl), (by kernel_rfl), (by (with_reducible refine len_map (fun _ => ?_) _; kernel_rfl)), ?g12, ?g13, (by (with_reducible refine app_map ?_; kernel_rfl))⟩ ?_; rotate_left 5
  refine q_blk_normal ?_
  refine sn ?_
  refine rg (A := (AV.i IntKind.i64 (IntKind.i64.wrap (k_17 + (2 : Int))) = AV.i IntKind.i64 (k_17 + (2 : Int)))) cx [(1, { tell := some (.i .i64 (k_17 + (2 : Int))) })] [1, 2, 3, 4, 5, 6, 7] [1, 2, 3, 8, 5301] (told_i64 (by omega) ?g14) ?_; rotate_left 1
  refine sn ?_
  refine loop_next ((n_16, k_17 + (2 : Int), S_18, v_19, c_20 ++ [{ rep := r_1, lo := (S_18 r_1.toNat)[k_17.toNat]!, hi := (S_18 r_1.toNat)[(k_17 + (1 : Int)).toNat]! - (1 : Int) : Span }])) (by kernel_rfl) (show ((2 : Int) * (↑(U r_1.toNat).length : Int) - (k_17 + (2 : Int))).toNat < ((2 : Int) * (↑(U r_1.toNat).length : Int) - k_17).toNat from ?g15) (show invFb U r_1 n_0 v_3 c_4 n_16 (k_17 + (2 : Int)) S_18 v_19 (c_20 ++ [{ rep := r_1, lo := (S_18 r_1.toNat)[k_17.toNat]!, hi := (S_18 r_1.toNat)[(k_17 + (1 : Int)).toNat]! - (1 : Int) : Span }]) from ?g16); rotate_left 2
  refine st_exit 2 (by kernel_rfl) ?_
  refine q_seq_exit ?_
  refine q_seq_exit ?_
  refine q_blk_hit ?_
  refine q_blk_normal ?_
  refine sn ?_
  refine rg (A := (AV.i IntKind.i64 (IntKind.i64.wrap (r_1 + (1 : Int))) = AV.i IntKind.i64 (r_1 + (1 : Int)))) cx [(1, { tell := some (.i .i64 (r_1 + (1 : Int))) })] [1, 2, 3, 4, 5, 6] [1, 2, 3, 8, 5301] (told_i64 (by omega) (by omega)) ?_
  refine sn ?_
  refine loop_next ((n_16, r_1 + (1 : Int), S_18, v_19, c_20)) (by kernel_rfl) (show ((16 : Int) - (r_1 + (1 : Int))).toNat < ((16 : Int) - r_1).toNat from (by omega)) (show invFa U n_16 (r_1 + (1 : Int)) S_18 v_19 c_20 from ?g17); rotate_left 1
  refine st_exit 0 (by kernel_rfl) ?_
  refine q_seq_exit ?_
  refine q_seq_exit ?_
  refine q_blk_hit ?_
  refine sn ?_
  refine sq ?_
  refine rg (A := ((0 : Int) ≤ (0 : Int)) ∧ ((0 : Int) ≤ n_0) ∧ (n_0 ≤ (↑(List.map c3 v_3).length : Int)) ∧ ((0 : Int) < (↑(List.map c3 v_3).length : Int)) ∧ (Option.map TI.size (E.look tab (3 : Nat)) = some (1))) cx [] [2, 3] [2, 3, 8, 5301] ⟨(by omega), (by (with_reducible assumption)), (by (first | omega | (simp only [List.length_map]; omega))), (by (first | omega | (simp only [List.length_map]; omega))), (by kernel_rfl)⟩ ?_
  refine sn ?_
  refine sq ?_
  refine awp_norm [8, 5301] [2, 3] [2, 3] (σ' := ⟨[(2, .ptr (2) (0) (0) (0)), (3, .ptr (3) (0) (0) (0))], [(2, ⟨0, 36, .var [.nl, .nl]⟩), (3, ⟨0, 36, .var [.sl (List.take (n_0 - (0 : Int)).toNat (List.drop (0) (List.map c3 v_3))), .sl (List.map c81 c_4)]⟩)]⟩) (by kernel_rfl) ?_
  refine rg (A := True) cx [] [2] [2] trivial ?_
  refine sn ?_
  refine st_ret (by kernel_rfl) ?_
  refine q_ret (r := .agg [.sl (List.take (n_0 - (0 : Int)).toNat (List.drop (0) (List.map c3 v_3))), .sl (List.map c81 c_4)]) (obl := []) (by kernel_rfl) trivial (AVle.eq (show AV.agg [AV.sl (List.take (n_0 - (0 : Int)).toNat (List.drop (0) (List.map c3 v_3))), AV.sl (List.map c81 c_4)] = AV.agg (c36 (tabP U)) from ?g18)); rotate_left 1
  rotate_left
  revert n_0 r_1 S_2 v_3 c_4 h_6 h_7 h_8 h_9 h_10 h_11 h_12 h_13 h_14 h_15; rotate_left
  revert n_0 r_1 S_2 v_3 c_4 h_6 h_7 h_8 h_9 h_10 h_11 h_12 h_13 h_14 h_15 n_16 k_17 S_18 v_19 c_20 h_22 h_23 h_24 h_25 h_26 h_27 h_28 h_29; rotate_left
  revert n_0 r_1 S_2 v_3 c_4 h_6 h_7 h_8 h_9 h_10 h_11 h_12 h_13 h_14 h_15 n_16 k_17 S_18 v_19 c_20 h_22 h_23 h_24 h_25 h_26 h_27 h_28 h_29 h_30 h_31; rotate_left
  revert n_0 r_1 S_2 v_3 c_4 h_6 h_7 h_8 h_9 h_10 h_11 h_12 h_13 h_14 h_15 n_16 k_17 S_18 v_19 c_20 h_22 h_23 h_24 h_25 h_26 h_27 h_28 h_29 h_30 h_31; rotate_left
  revert n_0 r_1 S_2 v_3 c_4 h_6 h_7 h_8 h_9 h_10 h_11 h_12 h_13 h_14 h_15 n_16 k_17 S_18 v_19 c_20 h_22 h_23 h_24 h_25 h_26 h_27 h_28 h_29 h_30 h_31; rotate_left
  revert n_0 r_1 S_2 v_3 c_4 h_6 h_7 h_8 h_9 h_10 h_11 h_12 h_13 h_14 h_15 n_16 k_17 S_18 v_19 c_20 h_22 h_23 h_24 h_25 h_26 h_27 h_28 h_29 h_30 h_31; rotate_left
  revert n_0 r_1 S_2 v_3 c_4 h_6 h_7 h_8 h_9 h_10 h_11 h_12 h_13 h_14 h_15 n_16 k_17 S_18 v_19 c_20 h_22 h_23 h_24 h_25 h_26 h_27 h_28 h_29 h_30 h_31; rotate_left
  revert n_0 r_1 S_2 v_3 c_4 h_6 h_7 h_8 h_9 h_10 h_11 h_12 h_13 h_14 h_15 n_16 k_17 S_18 v_19 c_20 h_22 h_23 h_24 h_25 h_26 h_27 h_28 h_29 h_30 h_31; rotate_left
  revert n_0 r_1 S_2 v_3 c_4 h_6 h_7 h_8 h_9 h_10 h_11 h_12 h_13 h_14 h_15 n_16 k_17 S_18 v_19 c_20 h_22 h_23 h_24 h_25 h_26 h_27 h_28 h_29 h_30 h_31; rotate_left
  revert n_0 r_1 S_2 v_3 c_4 h_6 h_7 h_8 h_9 h_10 h_11 h_12 h_13 h_14 h_15 n_16 k_17 S_18 v_19 c_20 h_22 h_23 h_24 h_25 h_26 h_27 h_28 h_29 h_30 h_31; rotate_left
  revert n_0 r_1 S_2 v_3 c_4 h_6 h_7 h_8 h_9 h_10 h_11 h_12 h_13 h_14 h_15 n_16 k_17 S_18 v_19 c_20 h_22 h_23 h_24 h_25 h_26 h_27 h_28 h_29 h_30 h_31; rotate_left
  revert n_0 r_1 S_2 v_3 c_4 h_6 h_7 h_8 h_9 h_10 h_11 h_12 h_13 h_14 h_15 n_16 k_17 S_18 v_19 c_20 h_22 h_23 h_24 h_25 h_26 h_27 h_28 h_29 h_30 h_31; rotate_left
  revert n_0 r_1 S_2 v_3 c_4 h_6 h_7 h_8 h_9 h_10 h_11 h_12 h_13 h_14 h_15 n_16 k_17 S_18 v_19 c_20 h_22 h_23 h_24 h_25 h_26 h_27 h_28 h_29 h_30 h_31; rotate_left
  revert n_0 r_1 S_2 v_3 c_4 h_6 h_7 h_8 h_9 h_10 h_11 h_12 h_13 h_14 h_15 n_16 k_17 S_18 v_19 c_20 h_22 h_23 h_24 h_25 h_26 h_27 h_28 h_29 h_30 h_31; rotate_left
  revert n_0 r_1 S_2 v_3 c_4 h_6 h_7 h_8 h_9 h_10 h_11 h_12 h_13 h_14 h_15 n_16 k_17 S_18 v_19 c_20 h_22 h_23 h_24 h_25 h_26 h_27 h_28 h_29 h_30 h_31; rotate_left
  revert n_0 r_1 S_2 v_3 c_4 h_6 h_7 h_8 h_9 h_10 h_11 h_12 h_13 h_14 h_15 n_16 k_17 S_18 v_19 c_20 h_22 h_23 h_24 h_25 h_26 h_27 h_28 h_29 h_30 h_31; rotate_left
  revert n_0 r_1 S_2 v_3 c_4 h_6 h_7 h_8 h_9 h_10 h_11 h_12 h_13 h_14 h_15 n_16 k_17 S_18 v_19 c_20 h_22 h_23 h_24 h_25 h_26 h_27 h_28 h_29 h_30; rotate_left
  revert n_0 r_1 S_2 v_3 c_4 h_6 h_7 h_8 h_9 h_10 h_11 h_12 h_13 h_14 h_15; rotate_left
  case g0 => exact ⟨rfl, by omega, by omega, by omega, by omega, by simp, rfl, by simp [isVec, vecT], rfl⟩
  case g1 => intro n r S v c h0 h1 h2 h3 h4 h5 h6 h7 h8 h9; exact ⟨h0, by omega, by omega, by omega, by omega, by omega, by omega, isIn_start h1 h9 h7⟩
  case g18 =>
    intro n r S v c h0 h1 h2 h3 h4 h5 h6 h7 h8 h9
    rw [tab_end h2 h9 h6 h7 h8]
    show AV.agg [AV.sl (List.take (n - 0).toNat (List.drop 0 (List.map c3 v))), AV.sl (List.map c81 c)] = _
    rw [List.drop_zero, Int.sub_zero, ← List.map_take]
    rfl
  all_goals
    intro n r S v c h0 h1 h2 h3 h4 h5 h6 h7 h8 h9 m k X w d k0 k1 k2 k3 k4 k5 k6 k7
    have hs := hU r.toNat (by omega)
    have hl := sepR_len hs
    have hd := isIn_len hs h1 h9 h8 k7
    have ht : (tnS U r.toNat).length = 2 * (U r.toNat).length := turns_len _
    subst k0
  case g17 =>
    intro k8
    rw [ht] at k8
    obtain ⟨a, b, e⟩ := isIn_end hs h1 h9 h6 h7 h8 k1 k3 (by omega) k2 k7
    exact ⟨rfl, by omega, by omega, by omega, by omega, k4, a, b, e⟩
  case g8 =>
    intro k8 k9
    rw [ht] at k8
    obtain ⟨e1, e2⟩ := tn_at (U := U) (r := r) k1 k3 (by omega)
    rw [e1] at k9
    rw [e2, Int.add_sub_cancel]
    exact ⟨rfl, by omega, by omega, by omega, by rw [List.length_set]; exact k4, by omega, by omega, isIn_one hs k1 k3 (by omega) k9 k7⟩
  case g16 =>
    intro k8 k9
    rw [ht] at k8
    obtain ⟨e1, e2⟩ := tn_at (U := U) (r := r) k1 k3 (by omega)
    rw [e1] at k9
    rw [e1, e2, Int.add_sub_cancel]
    exact ⟨rfl, by omega, by omega, by omega, k4, by omega, by omega, isIn_snoc k1 k3 (by omega) k9 k7⟩
  all_goals
    first
    | omega
    | (intro k8 k9
       rw [ht] at k8
       obtain ⟨e1, e2⟩ := tn_at (U := U) (r := r) k1 k3 (by omega)
       have hb := hs.2 _ (bang_in (l := U r.toNat) (i := (k / 2).toNat) (by omega))
       simp only [e2, List.length_map, List.length_cons, List.length_nil, Go.maxLen]
       omega)
end Go.Proofs.Ytjngmlkaijpbgaa
namespace Go.Proofs.Ytjngmlkaijpbgaa
open Go.E
set_option maxRecDepth 100000
set_option maxHeartbeats 4000000
def spansOf (ds : List Dot) : List Span := ds.map fun d => ⟨d.rep, d.num, d.num⟩
def isSpans (ds : List Dot) (i : Int) (c : List Span) : Prop := c = spansOf (ds.take i.toNat)
def invOf (ds : List Dot) (i : Int) (c : List Span) : Prop := 0 ≤ i ∧ i ≤ ds.length ∧ (c.length : Int) = i ∧ isSpans ds i c
def decOf (ds : List Dot) (i : Int) (c : List Span) : Nat := (ds.length - i).toNat
theorem isSpans_step {ds : List Dot} {i : Int} {c : List Span} (h0 : 0 ≤ i) (h : i < ds.length) (hs : isSpans ds i c) : isSpans ds (i + 1) (c ++ [⟨ds[i.toNat]!.rep, ds[i.toNat]!.num, ds[i.toNat]!.num⟩]) := by
  unfold isSpans spansOf at *
  rw [← take_step h0 h, List.map_append, ← hs]
  rfl
theorem hi_max {l : List Run} (h : ∀ r ∈ l, r.lo = r.hi) : ∀ x, inR l x ↔ ∃ r ∈ l, r.lo = x := fun x => by
  constructor
  · rintro ⟨r, hr, h1, h2⟩; exact ⟨r, hr, by have := h r hr; omega⟩
  · rintro ⟨r, hr, rfl⟩; exact ⟨r, hr, by omega, by have := h r hr; omega⟩
/-- Numbers that are no dots are left out by the form. -/
theorem of_spans (ds : List Dot) : tabP (openT [⟨[], spansOf ds⟩]) = tabP (ofT ds) := by
  rw [← tabP_nrm, ← tabP_nrm (ofT ds)]
  refine tabP_congr fun r hr => ?_
  refine sep_unique (nrm_sep _) (nrm_sep _) fun n => ?_
  show inR (nrm _) n ↔ inR (nrm _) n
  rw [nrm_in, nrm_in]
  refine and_congr_right fun n0 => and_congr_right fun n1 => ?_
  have e : openT [⟨[], spansOf ds⟩] r = cloudR (spansOf ds) r := by simp [openT, vecR]
  rw [e]
  unfold inR cloudR spansOf ofT
  constructor
  · rintro ⟨x, hx, h1, h2⟩
    obtain ⟨s, hs, rfl⟩ := List.mem_map.1 hx
    obtain ⟨hs, hq⟩ := List.mem_filter.1 hs
    obtain ⟨d, hd, rfl⟩ := List.mem_map.1 hs
    simp only [decide_eq_true_eq] at hq h1 h2
    refine ⟨⟨d.num, d.num⟩, List.mem_map.2 ⟨d, List.mem_filter.2 ⟨hd, ?_⟩, rfl⟩, h1, h2⟩
    rw [Bool.and_eq_true, decide_eq_true_eq]
    exact ⟨by unfold dotB; rw [decide_eq_true_eq]; omega, hq⟩
  · rintro ⟨x, hx, h1, h2⟩
    obtain ⟨d, hd, rfl⟩ := List.mem_map.1 hx
    obtain ⟨hd, hq⟩ := List.mem_filter.1 hd
    rw [Bool.and_eq_true, decide_eq_true_eq] at hq
    exact ⟨⟨d.num, d.num⟩, List.mem_map.2 ⟨⟨d.rep, d.num, d.num⟩, List.mem_filter.2 ⟨List.mem_map.2 ⟨d, hd, rfl⟩, by simpa using hq.2⟩, rfl⟩, h1, h2⟩
theorem con116 (p : Past) (hb : p.cloud.length * 16 ≤ 140737488350000) : Con Try.prog 116 [.agg (c36 p)] (.agg (c138 (tnS (nrmT (openT [p]))))) :=
  by
  refine st_con tab_ok (by kernel_rfl) [.cell 2 138] 6 Go.Proofs.Try.func116 (by kernel_rfl) (by kernel_rfl) ?_
  intro e0 cx
  refine sq ?_
  refine rg (A := True) cx [] [1, 2] [1, 2] trivial ?_
  refine sn ?_
  refine sq ?_
  refine rg (A := _) cx [(2, { val := some (.agg (tabC c3 (16 : Nat) (tnS (nrmT (openT [p]))))) })] [2] [2] (con130 ([p]) ?g0) ?_; rotate_left 1
  refine sn ?_
  refine st_ret (by kernel_rfl) ?_
  refine q_ret (r := .agg [.sl (List.map c3 (tnS (nrmT (openT [p])) (0))), .sl (List.map c3 (tnS (nrmT (openT [p])) (1))), .sl (List.map c3 (tnS (nrmT (openT [p])) (2))), .sl (List.map c3 (tnS (nrmT (openT [p])) (3))), .sl (List.map c3 (tnS (nrmT (openT [p])) (4))), .sl (List.map c3 (tnS (nrmT (openT [p])) (5))), .sl (List.map c3 (tnS (nrmT (openT [p])) (6))), .sl (List.map c3 (tnS (nrmT (openT [p])) (7))), .sl (List.map c3 (tnS (nrmT (openT [p])) (8))), .sl (List.map c3 (tnS (nrmT (openT [p])) (9))), .sl (List.map c3 (tnS (nrmT (openT [p])) (10))), .sl (List.map c3 (tnS (nrmT (openT [p])) (11))), .sl (List.map c3 (tnS (nrmT (openT [p])) (12))), .sl (List.map c3 (tnS (nrmT (openT [p])) (13))), .sl (List.map c3 (tnS (nrmT (openT [p])) (14))), .sl (List.map c3 (tnS (nrmT (openT [p])) (15)))]) (obl := []) (by kernel_rfl) trivial (AVle.eq (show AV.agg [AV.sl (List.map c3 (tnS (nrmT (openT [p])) (0))), AV.sl (List.map c3 (tnS (nrmT (openT [p])) (1))), AV.sl (List.map c3 (tnS (nrmT (openT [p])) (2))), AV.sl (List.map c3 (tnS (nrmT (openT [p])) (3))), AV.sl (List.map c3 (tnS (nrmT (openT [p])) (4))), AV.sl (List.map c3 (tnS (nrmT (openT [p])) (5))), AV.sl (List.map c3 (tnS (nrmT (openT [p])) (6))), AV.sl (List.map c3 (tnS (nrmT (openT [p])) (7))), AV.sl (List.map c3 (tnS (nrmT (openT [p])) (8))), AV.sl (List.map c3 (tnS (nrmT (openT [p])) (9))), AV.sl (List.map c3 (tnS (nrmT (openT [p])) (10))), AV.sl (List.map c3 (tnS (nrmT (openT [p])) (11))), AV.sl (List.map c3 (tnS (nrmT (openT [p])) (12))), AV.sl (List.map c3 (tnS (nrmT (openT [p])) (13))), AV.sl (List.map c3 (tnS (nrmT (openT [p])) (14))), AV.sl (List.map c3 (tnS (nrmT (openT [p])) (15)))] = AV.agg (c138 (tnS (nrmT (openT [p])))) from ?g1)); rotate_left 1
  case g0 => exact (by rw [tot_one]; omega)
  case g1 => exact rfl
theorem con82 (p : Past) (hb : p.cloud.length * 16 ≤ 140737488350000) : Con Try.prog 82 [.agg (c36 p)] (.agg (c36 (normP p))) :=
  by
  refine st_con tab_ok (by kernel_rfl) [.cell 2 36] 6 Go.Proofs.Try.func82 (by kernel_rfl) (by kernel_rfl) ?_
  intro e0 cx
  refine sq ?_
  refine rg (A := True) cx [] [1, 2] [1, 2] trivial ?_
  refine sn ?_
  refine sq ?_
  refine rg (A := _ ∧ _) cx [(1, { val := some (.agg (tabC c3 (16 : Nat) (tnS (nrmT (openT [p]))))) }), (2, { val := some (.agg [.sl (List.map c3 (tabP (nrmT (openT [p]))).vec), .sl (List.map c81 (tabP (nrmT (openT [p]))).cloud)]) })] [2] [2] ⟨(con116 (p) (by (with_reducible assumption))), (con115 (nrmT (openT [p])) ?g0)⟩ ?_; rotate_left 1
  refine sn ?_
  refine st_ret (by kernel_rfl) ?_
  refine q_ret (r := .agg [.sl (List.map c3 (tabP (nrmT (openT [p]))).vec), .sl (List.map c81 (tabP (nrmT (openT [p]))).cloud)]) (obl := []) (by kernel_rfl) trivial (AVle.eq (show AV.agg [AV.sl (List.map c3 (tabP (nrmT (openT [p]))).vec), AV.sl (List.map c81 (tabP (nrmT (openT [p]))).cloud)] = AV.agg (c36 (normP p)) from ?g1)); rotate_left 1
  case g0 => exact (nrmT_sep _)
  case g1 => exact (by rw [tabP_nrm]; rfl)
theorem con83 (p : Past) (hb : p.cloud.length * 16 ≤ 140737488350000) (hv : p.vec.length ≤ 9223372036854775807) : Con Try.prog 83 [.agg (c36 p)] (.b (decide (p = normP p))) :=
  by
  refine st_con tab_ok (by kernel_rfl) [.tmp 2] 7 Go.Proofs.Try.func83 (by kernel_rfl) (by kernel_rfl) ?_
  intro e0 cx
  refine sq ?_
  refine rg (A := True) cx [] [1] [1] trivial ?_
  refine sn ?_
  refine sq ?_
  refine ra (A := _ ∧ _) cx [(2, { val := some (.agg [.sl (List.map c3 (normP p).vec), .sl (List.map c81 (normP p).cloud)]) }), (3, { val := some (.b (decide (p = normP p))) })] [2] [] ⟨(con82 (p) (by (with_reducible assumption))), (con44 (p) (normP p) (by (with_reducible assumption)) (by omega))⟩ ?_
  refine sn ?_
  refine st_ret (by kernel_rfl) ?_
  exact q_ret (r := .b (decide (p = normP p))) (obl := []) (by kernel_rfl) trivial (AVle.refl _)
theorem con64 (ds : List Dot) (hb : ds.length * 24 ≤ 140737488350000) : Con Try.prog 64 [.sl (ds.map c26)] (.agg (c36 (tabP (ofT ds)))) :=
  by
  refine con_lens 0 (c26) (ds) (by kernel_rfl) Go.Proofs.Try.func64 (by kernel_rfl) fun hl_0 => ?_
  refine st_con tab_ok (by kernel_rfl) [.cell 2 36] 34 Go.Proofs.Try.func64 (by kernel_rfl) (by kernel_rfl) ?_
  intro e0 cx
  refine sq ?_
  refine rg (A := True) cx [] [0, 2] [2] trivial ?_
  refine sn ?_
  refine sq ?_
  refine rg (A := True) cx [] [0, 2, 3] [2, 3] trivial ?_
  refine sn ?_
  refine sq ?_
  refine sq ?_
  refine rg (A := True) cx [] [0, 2, 3, 4] [2, 3] trivial ?_
  refine sn ?_
  refine st_block 0 (by kernel_rfl) ?_
  refine awp_cellIn 3 81 3 1 5301 (σ' := ⟨[(0, .sl (List.map c26 ds)), (2, .ptr (2) (0) (0) (0)), (3, .ptr (3) (0) (0) (0)), (4, .i .i64 ((0 : Int)))], [(2, ⟨0, 36, .var [.nl, .nl]⟩), (3, ⟨0, 36, .var [.nl, .own 5301 0]⟩), (5301, ⟨0, 81, .row 3 (List.map c81 [])⟩)]⟩) (by kernel_rfl) ?_
  refine st_loop (X := Int × List Span) (fun x => ⟨[(0, .sl (List.map c26 ds)), (2, .ptr (2) (0) (0) (0)), (3, .ptr (3) (0) (0) (0)), (4, .i .i64 (x.fst))], [(2, ⟨0, 36, .var [.nl, .nl]⟩), (3, ⟨0, 36, .var [.nl, .own 5301 0]⟩), (5301, ⟨0, 81, .row 3 (List.map c81 x.snd)⟩)]⟩) (fun x ↦ decOf ds x.fst x.snd) (fun x ↦ invOf ds x.fst x.snd) [0, 2, 3, 4] [2, 3, 5301] (((0 : Int), [])) (by kernel_rfl) (by kernel_rfl) (show invOf ds (0 : Int) [] from ?g0) ?_; rotate_left 1
  rintro ⟨i_0, c_1⟩ h_2
  obtain ⟨h_3, h_4, h_5, h_6⟩ : (0 : Int) ≤ i_0 ∧ i_0 ≤ (↑ds.length : Int) ∧ (↑c_1.length : Int) = i_0 ∧ isSpans ds i_0 c_1 := h_2
  refine sq ?_
  refine sq ?_
  refine rg (A := _ ∧ (AV.b (decide (i_0 < (↑ds.length : Int))) = AV.b (decide (i_0 < (↑ds.length : Int))))) cx [(2, { tell := some (.i .i64 ((↑ds.length : Int))) }), (3, { tell := some (.b (decide (i_0 < (↑ds.length : Int)))) })] [0, 2, 3, 4, 8] [2, 3, 5301] ⟨(told_len c26 ds), (by kernel_rfl)⟩ ?_
  refine sn ?_
  refine st_dec (i_0 < (↑ds.length : Int)) (by kernel_rfl) (by kernel_rfl) (fun h_7 => ?_) (fun h_7 => ?_)
  refine st_skip (by kernel_rfl) ?_
  refine sn ?_
  refine sq ?_
  refine st_block 1 (by kernel_rfl) ?_
  refine ra (A := ((0 : Int) ≤ i_0) ∧ ((List.map c26 ds)[i_0.toNat]? = some (c26 ds[i_0.toNat]!)) ∧ ((c26 ds[i_0.toNat]!).length = (2 : Nat)) ∧ ((0 : Int) ≤ i_0) ∧ ((List.map c26 ds)[i_0.toNat]? = some (c26 ds[i_0.toNat]!)) ∧ ((c26 ds[i_0.toNat]!).length = (2 : Nat)) ∧ ((0 : Int) ≤ i_0) ∧ ((List.map c26 ds)[i_0.toNat]? = some (c26 ds[i_0.toNat]!)) ∧ ((c26 ds[i_0.toNat]!).length = (2 : Nat)) ∧ (81 = (81 : Nat)) ∧ ((3 : Nat) = 3) ∧ ([AV.i IntKind.i64 (0 : Int), AV.i IntKind.i64 (0 : Int), AV.i IntKind.i64 (0 : Int)].length = (3 : Nat)) ∧ (∀ (r : List AV), r ∈ List.map c81 [{ rep := ds[i_0.toNat]!.rep, lo := ds[i_0.toNat]!.num, hi := ds[i_0.toNat]!.num : Span }] → r.length = 3) ∧ ((List.map c81 c_1).length + (List.map c81 [{ rep := ds[i_0.toNat]!.rep, lo := ds[i_0.toNat]!.num, hi := ds[i_0.toNat]!.num : Span }]).length ≤ maxLen) ∧ (((List.map c81 c_1).length + (List.map c81 [{ rep := ds[i_0.toNat]!.rep, lo := ds[i_0.toNat]!.num, hi := ds[i_0.toNat]!.num : Span }]).length) * (24 : Nat) ≤ (140737488355328 : Nat)) ∧ (List.map c81 c_1 ++ List.map c81 [{ rep := ds[i_0.toNat]!.rep, lo := ds[i_0.toNat]!.num, hi := ds[i_0.toNat]!.num : Span }] = List.map c81 (c_1 ++ [{ rep := ds[i_0.toNat]!.rep, lo := ds[i_0.toNat]!.num, hi := ds[i_0.toNat]!.num : Span }]))) cx [(4, { row := (c26 ds[i_0.toNat]!) }), (9, { row := (c26 ds[i_0.toNat]!) }), (14, { row := (c26 ds[i_0.toNat]!) }), (19, { rows := some (List.map c81 (c_1 ++ [{ rep := ds[i_0.toNat]!.rep, lo := ds[i_0.toNat]!.num, hi := ds[i_0.toNat]!.num : Span }])) })] [0, 2, 3, 4] [2, 3, 5301] ⟨(by (with_reducible assumption)), (by (with_reducible refine get_map ?_; omega)), (by kernel_rfl), (by (with_reducible assumption)), (by (with_reducible refine get_map ?_; omega)), (by kernel_rfl), (by (with_reducible assumption)), (by (with_reducible refine get_map ?_; omega)), (by kernel_rfl), (by kernel_rfl), (by kernel_rfl), (by kernel_rfl), (by (with_reducible refine len_map (fun _ => ?_) _; kernel_rfl)), (by (simp only [Go.maxLen, List.length_map, List.length_append, List.length_cons, List.length_nil]; omega)), (by (simp only [Go.maxLen, List.length_map, List.length_append, List.length_cons, List.length_nil]; omega)), (by (with_reducible refine app_map ?_; kernel_rfl))⟩ ?_
  refine q_blk_normal ?_
  refine sn ?_
  refine rg (A := (AV.i IntKind.i64 (IntKind.i64.wrap (i_0 + (1 : Int))) = AV.i IntKind.i64 (i_0 + (1 : Int)))) cx [(1, { tell := some (.i .i64 (i_0 + (1 : Int))) })] [0, 2, 3, 4] [2, 3, 5301] (told_i64 (by omega) (by omega)) ?_
  refine sn ?_
  refine loop_next ((i_0 + (1 : Int), c_1 ++ [{ rep := ds[i_0.toNat]!.rep, lo := ds[i_0.toNat]!.num, hi := ds[i_0.toNat]!.num : Span }])) (by kernel_rfl) (show ((↑ds.length : Int) - (i_0 + (1 : Int))).toNat < ((↑ds.length : Int) - i_0).toNat from (by omega)) (show invOf ds (i_0 + (1 : Int)) (c_1 ++ [{ rep := ds[i_0.toNat]!.rep, lo := ds[i_0.toNat]!.num, hi := ds[i_0.toNat]!.num : Span }]) from ?g1); rotate_left 1
  refine st_exit 0 (by kernel_rfl) ?_
  refine q_seq_exit ?_
  refine q_seq_exit ?_
  refine q_blk_hit ?_
  refine sn ?_
  refine sq ?_
  refine awp_norm [5301] [0, 2, 3, 4, 8] [2, 3] (σ' := ⟨[(0, .sl (List.map c26 ds)), (2, .ptr (2) (0) (0) (0)), (3, .ptr (3) (0) (0) (0)), (4, .i .i64 (i_0)), (8, .b (decide (i_0 < (↑ds.length : Int))))], [(2, ⟨0, 36, .var [.nl, .nl]⟩), (3, ⟨0, 36, .var [.nl, .sl (List.map c81 c_1)]⟩)]⟩) (by kernel_rfl) ?_
  refine rg (A := (Con Try.prog (82 : Nat) [AV.agg [AV.nl, AV.sl (List.map c81 c_1)]] (AV.agg [AV.sl (List.map c3 (normP { vec := [], cloud := c_1 : Past }).vec), AV.sl (List.map c81 (normP { vec := [], cloud := c_1 : Past }).cloud)]))) cx [(1, { val := some (.agg [.sl (List.map c3 (normP { vec := [], cloud := c_1 : Past }).vec), .sl (List.map c81 (normP { vec := [], cloud := c_1 : Past }).cloud)]) })] [2] [2] (Con.le (con82 ({ vec := [], cloud := c_1 : Past }) (by (first | omega | (simp only [List.length_map]; omega)))) (ZLe.cons (AVle.agg (ZLe.cons AVle.nl (ZLe.cons (AVle.refl _) ZLe.nil))) ZLe.nil)) ?_
  refine sn ?_
  refine st_ret (by kernel_rfl) ?_
  refine q_ret (r := .agg [.sl (List.map c3 (normP { vec := [], cloud := c_1 : Past }).vec), .sl (List.map c81 (normP { vec := [], cloud := c_1 : Past }).cloud)]) (obl := []) (by kernel_rfl) trivial (AVle.eq (show AV.agg [AV.sl (List.map c3 (normP { vec := [], cloud := c_1 : Past }).vec), AV.sl (List.map c81 (normP { vec := [], cloud := c_1 : Past }).cloud)] = AV.agg (c36 (tabP (ofT ds))) from ?g2)); rotate_left 1
  rotate_left
  revert i_0 c_1 h_3 h_4 h_5 h_6 h_7; rotate_left
  revert i_0 c_1 h_3 h_4 h_5 h_6 h_7; rotate_left
  case g0 => exact ⟨by omega, by omega, rfl, rfl⟩
  case g1 => intro i c h0 h1 h2 h3 h4; exact ⟨by omega, by omega, by rw [List.length_append]; simp only [List.length_cons, List.length_nil]; omega, isSpans_step h0 h4 h3⟩
  case g2 =>
    intro i c h0 h1 h2 h3 h4
    unfold isSpans at h3
    rw [List.take_of_length_le (by omega)] at h3
    rw [h3]
    unfold normP
    rw [of_spans]
    rfl
end Go.Proofs.Ytjngmlkaijpbgaa
namespace Go.Proofs.Ytjngmlkaijpbgaa
open Go.E
set_option maxRecDepth 100000
set_option maxHeartbeats 4000000
theorem con41 (es : List Entry) : Con Try.prog 41 [.sl (es.map c28)] (.tup [.agg (c36 (dotsV es).1), .i .i64 (dotsV es).2]) :=
  by
  refine con_lens 0 (c28) (es) (by kernel_rfl) Go.Proofs.Try.func41 (by kernel_rfl) fun hl_0 => ?_
  refine st_con tab_ok (by kernel_rfl) [.cell 2 36, .tmp 3] 26 Go.Proofs.Try.func41 (by kernel_rfl) (by kernel_rfl) ?_
  intro e0 cx
  refine sq ?_
  refine rg (A := True) cx [] [0, 2] [2] trivial ?_
  refine sn ?_
  refine sq ?_
  refine sq ?_
  refine rg (A := _ ∧ (AV.b (lstE es != (0 : Int)) = AV.b (decide ¬lstE es = (0 : Int)))) cx [(1, { val := some (.i .i64 (lstE es)) }), (2, { tell := some (.b (decide ¬lstE es = (0 : Int))) })] [0, 2, 8] [2] ⟨(con18 (es)), (told_neq)⟩ ?_
  refine sn ?_
  refine st_dec (¬lstE es = (0 : Int)) (by kernel_rfl) (by kernel_rfl) (fun h_0 => ?_) (fun h_0 => ?_)
  refine sq ?_
  refine rg (A := True) cx [] [2, 3] [2] trivial ?_
  refine sn ?_
  refine st_ret (by kernel_rfl) ?_
  refine q_seq_ret ?_
  refine q_ret (r := .tup [.agg [.nl, .nl], .i .i64 ((1 : Int))]) (obl := []) (by kernel_rfl) trivial (AVle.tup (ZLe.cons (AVle.agg (ZLe.cons (AVle.nl' (show List.map c3 (dotsV es).fst.vec = [] from ?g2)) (ZLe.cons (AVle.nl' (show List.map c81 (dotsV es).fst.cloud = [] from ?g1)) ZLe.nil))) (ZLe.cons (AVle.eq (show AV.i IntKind.i64 (1 : Int) = AV.i IntKind.i64 (dotsV es).snd from ?g0)) ZLe.nil))); rotate_left 3
  refine st_skip (by kernel_rfl) ?_
  refine sn ?_
  refine sq ?_
  refine rg (A := True) cx [] [0, 2, 4] [2] trivial ?_
  refine sn ?_
  refine sq ?_
  refine sq ?_
  refine rg (A := True) cx [] [0, 2, 4, 5] [2] trivial ?_
  refine sn ?_
  refine st_block 0 (by kernel_rfl) ?_
  refine awp_adopt 4 1004 26 2 (σ' := ⟨[(0, .sl (List.map c28 es)), (2, .ptr (2) (0) (0) (0)), (4, .own 1004 0), (5, .i .i64 ((0 : Int)))], [(2, ⟨0, 36, .var [.nl, .nl]⟩), (1004, ⟨0, 26, .row 2 (List.map c26 [])⟩)]⟩) (by kernel_rfl) ?_
  refine st_loop (X := Int × List Dot) (fun x => ⟨[(0, .sl (List.map c28 es)), (2, .ptr (2) (0) (0) (0)), (4, .own 1004 0), (5, .i .i64 (x.fst))], [(2, ⟨0, 36, .var [.nl, .nl]⟩), (1004, ⟨0, 26, .row 2 (List.map c26 x.snd)⟩)]⟩) (fun x ↦ decRD es x.fst x.snd) (fun x ↦ invRD es x.fst x.snd) [0, 2, 4, 5] [2, 1004] (((0 : Int), [])) (by kernel_rfl) (by kernel_rfl) (show invRD es (0 : Int) [] from ?g3) ?_; rotate_left 1
  rintro ⟨i_1, l_2⟩ h_3
  obtain ⟨h_4, h_5, h_6, h_7⟩ : (0 : Int) ≤ i_1 ∧ i_1 ≤ (↑es.length : Int) ∧ (↑l_2.length : Int) = i_1 ∧ isPreD es i_1 l_2 := h_3
  refine sq ?_
  refine sq ?_
  refine rg (A := _ ∧ (AV.b (decide (i_1 < (↑es.length : Int))) = AV.b (decide (i_1 < (↑es.length : Int))))) cx [(2, { tell := some (.i .i64 ((↑es.length : Int))) }), (3, { tell := some (.b (decide (i_1 < (↑es.length : Int)))) })] [0, 2, 4, 5, 13] [2, 1004] ⟨(told_len c28 es), (by kernel_rfl)⟩ ?_
  refine sn ?_
  refine st_dec (i_1 < (↑es.length : Int)) (by kernel_rfl) (by kernel_rfl) (fun h_8 => ?_) (fun h_8 => ?_)
  refine st_skip (by kernel_rfl) ?_
  refine sn ?_
  refine sq ?_
  refine st_block 1 (by kernel_rfl) ?_
  refine rg (A := ((0 : Int) ≤ i_1) ∧ ((List.map c28 es)[i_1.toNat]? = some (c28 es[i_1.toNat]!)) ∧ ((c28 es[i_1.toNat]!).length = (4 : Nat)) ∧ ((2 : Nat) ≤ [AV.i IntKind.i64 es[i_1.toNat]!.dot.rep, AV.i IntKind.i64 es[i_1.toNat]!.dot.num, AV.s es[i_1.toNat]!.sku, AV.i IntKind.i64 es[i_1.toNat]!.qty].length) ∧ (26 = (26 : Nat)) ∧ ((2 : Nat) = 2) ∧ ([AV.i IntKind.i64 (0 : Int), AV.i IntKind.i64 (0 : Int)].length = (2 : Nat)) ∧ (∀ (r : List AV), r ∈ List.map c26 [es[i_1.toNat]!.dot] → r.length = 2) ∧ ((List.map c26 l_2).length + (List.map c26 [es[i_1.toNat]!.dot]).length ≤ maxLen) ∧ (((List.map c26 l_2).length + (List.map c26 [es[i_1.toNat]!.dot]).length) * (16 : Nat) ≤ (140737488355328 : Nat)) ∧ (List.map c26 l_2 ++ List.map c26 [es[i_1.toNat]!.dot] = List.map c26 (l_2 ++ [es[i_1.toNat]!.dot]))) cx [(3, { row := (c28 es[i_1.toNat]!) }), (7, { rows := some (List.map c26 (l_2 ++ [es[i_1.toNat]!.dot])) })] [0, 2, 4, 5] [2, 1004] ⟨(by (with_reducible assumption)), (by (with_reducible refine get_map ?_; omega)), (by kernel_rfl), (by (simp only [List.length_append, List.length_cons, List.length_nil]; omega)), (by kernel_rfl), (by kernel_rfl), (by kernel_rfl), (by (with_reducible refine len_map (fun _ => ?_) _; kernel_rfl)), (by (simp only [Go.maxLen, List.length_map, List.length_append, List.length_cons, List.length_nil]; omega)), ?g4, (by (with_reducible refine app_map ?_; kernel_rfl))⟩ ?_; rotate_left 1
  refine q_blk_normal ?_
  refine sn ?_
  refine rg (A := (AV.i IntKind.i64 (IntKind.i64.wrap (i_1 + (1 : Int))) = AV.i IntKind.i64 (i_1 + (1 : Int)))) cx [(1, { tell := some (.i .i64 (i_1 + (1 : Int))) })] [0, 2, 4, 5] [2, 1004] (told_i64 (by omega) (by omega)) ?_
  refine sn ?_
  refine loop_next ((i_1 + (1 : Int), l_2 ++ [es[i_1.toNat]!.dot])) (by kernel_rfl) (show ((↑es.length : Int) - (i_1 + (1 : Int))).toNat < ((↑es.length : Int) - i_1).toNat from (by omega)) (show invRD es (i_1 + (1 : Int)) (l_2 ++ [es[i_1.toNat]!.dot]) from ?g5); rotate_left 1
  refine st_exit 0 (by kernel_rfl) ?_
  refine q_seq_exit ?_
  refine q_seq_exit ?_
  refine q_blk_hit ?_
  refine sn ?_
  refine sq ?_
  refine rg (A := _) cx [(1, { val := some (.agg [.sl (List.map c3 (tabP (ofT l_2)).vec), .sl (List.map c81 (tabP (ofT l_2)).cloud)]) })] [2, 3] [2] (con64 (l_2) ?g6) ?_; rotate_left 1
  refine sn ?_
  refine st_ret (by kernel_rfl) ?_
  refine q_ret (r := .tup [.agg [.sl (List.map c3 (tabP (ofT l_2)).vec), .sl (List.map c81 (tabP (ofT l_2)).cloud)], .i .i64 ((0 : Int))]) (obl := []) (by kernel_rfl) trivial (AVle.tup (ZLe.cons (AVle.eq (show AV.agg [AV.sl (List.map c3 (tabP (ofT l_2)).vec), AV.sl (List.map c81 (tabP (ofT l_2)).cloud)] = AV.agg [AV.sl (List.map c3 (dotsV es).fst.vec), AV.sl (List.map c81 (dotsV es).fst.cloud)] from ?g8)) (ZLe.cons (AVle.eq (show AV.i IntKind.i64 (0 : Int) = AV.i IntKind.i64 (dotsV es).snd from ?g7)) ZLe.nil))); rotate_left 2
  revert h_0; rotate_left
  revert h_0; rotate_left
  revert h_0; rotate_left
  revert h_0; rotate_left
  revert h_0 i_1 l_2 h_4 h_5 h_6 h_7 h_8; rotate_left
  revert h_0 i_1 l_2 h_4 h_5 h_6 h_7 h_8; rotate_left
  revert h_0 i_1 l_2 h_4 h_5 h_6 h_7 h_8; rotate_left
  revert h_0 i_1 l_2 h_4 h_5 h_6 h_7 h_8; rotate_left
  revert h_0 i_1 l_2 h_4 h_5 h_6 h_7 h_8; rotate_left
  case g0 => intro h; rw [dotsV_no h]
  case g1 => intro h; rw [dotsV_no h]; rfl
  case g2 => intro h; rw [dotsV_no h]; rfl
  case g3 => intro h; exact ⟨by omega, by omega, rfl, rfl⟩
  case g4 => intro h i l h0 h1 h2 h3 h4; have := ok_len h; simp only [List.length_map, List.length_cons, List.length_nil]; omega
  case g5 => intro h i l h0 h1 h2 h3 h4; exact ⟨by omega, by omega, by rw [List.length_append]; simp only [List.length_cons, List.length_nil]; omega, isPreD_step h0 h4 h3⟩
  case g6 => intro h i l h0 h1 h2 h3 h4; have := ok_len h; omega
  case g7 => intro h i l h0 h1 h2 h3 h4; rw [dotsV_ok (Classical.not_not.1 h)]
  case g8 =>
    intro h i l h0 h1 h2 h3 h4
    unfold isPreD at h3
    rw [List.take_of_length_le (by omega)] at h3
    rw [dotsV_ok (Classical.not_not.1 h), h3]
theorem con65 (es : List Entry) (p : Past) (t : Bool) (hb : p.cloud.length * 16 ≤ 140737488350000) (hv : p.vec.length ≤ 9223372036854775807) : Con Try.prog 65 [.sl (es.map c28), .agg (c36 p), .b t] (.tup [.sl ((sideV es p t).1.map c28), .i .i64 (sideV es p t).2]) :=
  by
  refine con_lens 0 (c28) (es) (by kernel_rfl) Go.Proofs.Try.func65 (by kernel_rfl) fun hl_0 => ?_
  refine st_con tab_ok (by kernel_rfl) [.tmp 6, .tmp 7] 41 Go.Proofs.Try.func65 (by kernel_rfl) (by kernel_rfl) ?_
  intro e0 cx
  refine sq ?_
  refine rg (A := True) cx [] [0, 2, 4] [4] trivial ?_
  refine sn ?_
  refine sq ?_
  refine sq ?_
  refine st_join (σ' := ⟨[(0, .sl (List.map c28 es)), (2, .b (t)), (4, .ptr (4) (0) (0) (0)), (17, .b (decide (¬lstE es = (0 : Int) ∨ ¬p = normP p)))], [(4, ⟨0, 36, .var [.sl (List.map c3 p.vec), .sl (List.map c81 p.cloud)]⟩)]⟩) ?_ ?_
  refine st_split (¬lstE es = (0 : Int)) (fun h_1 => ?_) (fun h_1 => ?_)
  refine rg (A := _ ∧ (AV.b (lstE es != (0 : Int)) = AV.b true) ∧ (AV.b true = AV.b (decide (¬lstE es = (0 : Int) ∨ ¬p = normP p)))) cx [(1, { val := some (.i .i64 (lstE es)) }), (2, { tell := some (.b (true)) }), (7, { tell := some (.b (decide (¬lstE es = (0 : Int) ∨ ¬p = normP p))) })] [0, 2, 4, 17] [4] ⟨(con18 (es)), (told_neqt h_1), (by simp only [eq_false h_1, told_simp1, told_simp2, and_true, true_and, and_false, false_and, or_true, true_or, or_false, false_or, not_true_eq_false, not_false_eq_true, decide_true, decide_false, Bool.decide_eq_true])⟩ ?_
  exact ⟨rfl, by kernel_rfl⟩
  refine rg (A := _ ∧ (AV.b (lstE es != (0 : Int)) = AV.b (decide ¬lstE es = (0 : Int))) ∧ _ ∧ _ ∧ ((AV.b !decide (p = normP p)) = AV.b (decide ¬p = normP p)) ∧ (AV.b (decide ¬p = normP p) = AV.b (decide (¬lstE es = (0 : Int) ∨ ¬p = normP p)))) cx [(1, { val := some (.i .i64 (lstE es)) }), (2, { tell := some (.b (decide ¬lstE es = (0 : Int))) }), (3, { tell := some (.b (false)) }), (5, { val := some (.b (decide (p = normP p))) }), (6, { tell := some (.b (decide ¬p = normP p)) }), (7, { tell := some (.b (decide (¬lstE es = (0 : Int) ∨ ¬p = normP p))) })] [0, 2, 4, 17] [4] ⟨(con18 (es)), (told_neq), (told_false h_1), (con83 (p) (by (with_reducible assumption)) (by (with_reducible assumption))), (told_notd), (by simp only [eq_false h_1, told_simp1, told_simp2, and_true, true_and, and_false, false_and, or_true, true_or, or_false, false_or, not_true_eq_false, not_false_eq_true, decide_true, decide_false, Bool.decide_eq_true])⟩ ?_
  exact ⟨rfl, by kernel_rfl⟩
  refine sn ?_
  refine st_dec (¬lstE es = (0 : Int) ∨ ¬p = normP p) (by kernel_rfl) (by kernel_rfl) (fun h_2 => ?_) (fun h_2 => ?_)
  refine sq ?_
  refine rg (A := True) cx [] [6, 7] [] trivial ?_
  refine sn ?_
  refine st_ret (by kernel_rfl) ?_
  refine q_seq_ret ?_
  refine q_ret (r := .tup [.nl, .i .i64 ((1 : Int))]) (obl := []) (by kernel_rfl) trivial (AVle.tup (ZLe.cons (AVle.nl' (show List.map c28 (sideV es p t).fst = [] from ?g1)) (ZLe.cons (AVle.eq (show AV.i IntKind.i64 (1 : Int) = AV.i IntKind.i64 (sideV es p t).snd from ?g0)) ZLe.nil))); rotate_left 2
  refine st_skip (by kernel_rfl) ?_
  refine sn ?_
  refine sq ?_
  refine rg (A := True) cx [] [0, 2, 4, 8] [4] trivial ?_
  refine sn ?_
  refine sq ?_
  refine sq ?_
  refine rg (A := True) cx [] [0, 2, 4, 8, 9] [4] trivial ?_
  refine sn ?_
  refine st_block 0 (by kernel_rfl) ?_
  refine awp_adopt 8 1008 28 4 (σ' := ⟨[(0, .sl (List.map c28 es)), (2, .b (t)), (4, .ptr (4) (0) (0) (0)), (8, .own 1008 0), (9, .i .i64 ((0 : Int)))], [(4, ⟨0, 36, .var [.sl (List.map c3 p.vec), .sl (List.map c81 p.cloud)]⟩), (1008, ⟨0, 28, .row 4 (List.map c28 [])⟩)]⟩) (by kernel_rfl) ?_
  refine st_loop (X := Int × List Int × List Span × List Entry) (fun x => ⟨[(0, .sl (List.map c28 es)), (2, .b (t)), (4, .ptr (4) (0) (0) (0)), (8, .own 1008 0), (9, .i .i64 (x.fst))], [(4, ⟨0, 36, .var [.sl (List.map c3 x.snd.fst), .sl (List.map c81 x.snd.snd.fst)]⟩), (1008, ⟨0, 28, .row 4 (List.map c28 x.snd.snd.snd)⟩)]⟩) (fun x ↦ decSd es x.fst x.snd.fst x.snd.snd.fst x.snd.snd.snd) (fun x ↦ invSd p t es x.fst x.snd.fst x.snd.snd.fst x.snd.snd.snd) [0, 2, 4, 8, 9] [4, 1008] (((0 : Int), p.vec, p.cloud, [])) (by kernel_rfl) (by kernel_rfl) (show invSd p t es (0 : Int) p.vec p.cloud [] from ?g2) ?_; rotate_left 1
  rintro ⟨i_3, v_4, c_5, l_6⟩ h_7
  obtain ⟨h_8, h_9, h_10, h_11, h_12, h_13⟩ : v_4 = p.vec ∧ c_5 = p.cloud ∧ (0 : Int) ≤ i_3 ∧ i_3 ≤ (↑es.length : Int) ∧ isSd p t es i_3 l_6 ∧ (↑l_6.length : Int) ≤ i_3 := h_7
  refine sq ?_
  refine sq ?_
  refine rg (A := _ ∧ (AV.b (decide (i_3 < (↑es.length : Int))) = AV.b (decide (i_3 < (↑es.length : Int))))) cx [(2, { tell := some (.i .i64 ((↑es.length : Int))) }), (3, { tell := some (.b (decide (i_3 < (↑es.length : Int)))) })] [0, 2, 4, 8, 9, 21] [4, 1008] ⟨(told_len c28 es), (by kernel_rfl)⟩ ?_
  refine sn ?_
  refine st_dec (i_3 < (↑es.length : Int)) (by kernel_rfl) (by kernel_rfl) (fun h_14 => ?_) (fun h_14 => ?_)
  refine st_skip (by kernel_rfl) ?_
  refine sn ?_
  refine sq ?_
  refine st_block 1 (by kernel_rfl) ?_
  refine sq ?_
  refine ra (A := ((0 : Int) ≤ i_3) ∧ ((List.map c28 es)[i_3.toNat]? = some (c28 es[i_3.toNat]!)) ∧ ((c28 es[i_3.toNat]!).length = (4 : Nat)) ∧ ((2 : Nat) ≤ [AV.i IntKind.i64 es[i_3.toNat]!.dot.rep, AV.i IntKind.i64 es[i_3.toNat]!.dot.num, AV.s es[i_3.toNat]!.sku, AV.i IntKind.i64 es[i_3.toNat]!.qty].length) ∧ _ ∧ (AV.b (hasP { vec := v_4, cloud := c_5 : Past } es[i_3.toNat]!.dot == t) = AV.b (decide (hasP { vec := v_4, cloud := c_5 : Past } es[i_3.toNat]!.dot = t)))) cx [(3, { row := (c28 es[i_3.toNat]!) }), (6, { val := some (.b (hasP { vec := v_4, cloud := c_5 : Past } es[i_3.toNat]!.dot)) }), (8, { tell := some (.b (decide (hasP { vec := v_4, cloud := c_5 : Past } es[i_3.toNat]!.dot = t))) })] [0, 2, 4, 8, 9, 32] [4, 1008] ⟨(by (with_reducible assumption)), (by (with_reducible refine get_map ?_; omega)), (by kernel_rfl), (by (simp only [List.length_append, List.length_cons, List.length_nil]; omega)), (con40 ({ vec := v_4, cloud := c_5 : Past }) (es[i_3.toNat]!.dot) ?g3), (told_beq)⟩ ?_; rotate_left 1
  refine sn ?_
  refine st_dec (hasP { vec := v_4, cloud := c_5 : Past } es[i_3.toNat]!.dot = t) (by kernel_rfl) (by kernel_rfl) (fun h_15 => ?_) (fun h_15 => ?_)
  refine rg (A := ((0 : Int) ≤ i_3) ∧ ((List.map c28 es)[i_3.toNat]? = some (c28 es[i_3.toNat]!)) ∧ ((c28 es[i_3.toNat]!).length = (4 : Nat)) ∧ ((4 : Nat) ≤ [AV.i IntKind.i64 es[i_3.toNat]!.dot.rep, AV.i IntKind.i64 es[i_3.toNat]!.dot.num, AV.s es[i_3.toNat]!.sku, AV.i IntKind.i64 es[i_3.toNat]!.qty].length) ∧ (28 = (28 : Nat)) ∧ ((4 : Nat) = 4) ∧ ([AV.i IntKind.i64 (0 : Int), AV.i IntKind.i64 (0 : Int), AV.s { data := #[] : ByteArray }, AV.i IntKind.i64 (0 : Int)].length = (4 : Nat)) ∧ (∀ (r : List AV), r ∈ List.map c28 [es[i_3.toNat]!] → r.length = 4) ∧ ((List.map c28 l_6).length + (List.map c28 [es[i_3.toNat]!]).length ≤ maxLen) ∧ (((List.map c28 l_6).length + (List.map c28 [es[i_3.toNat]!]).length) * (40 : Nat) ≤ (140737488355328 : Nat)) ∧ (List.map c28 l_6 ++ List.map c28 [es[i_3.toNat]!] = List.map c28 (l_6 ++ [es[i_3.toNat]!]))) cx [(3, { row := (c28 es[i_3.toNat]!) }), (6, { rows := some (List.map c28 (l_6 ++ [es[i_3.toNat]!])) })] [0, 2, 4, 8, 9] [4, 1008] ⟨(by (with_reducible assumption)), (by (with_reducible refine get_map ?_; omega)), (by kernel_rfl), (by (simp only [List.length_append, List.length_cons, List.length_nil]; omega)), (by kernel_rfl), (by kernel_rfl), (by kernel_rfl), (by (with_reducible refine len_map (fun _ => ?_) _; kernel_rfl)), (by (simp only [Go.maxLen, List.length_map, List.length_append, List.length_cons, List.length_nil]; omega)), ?g4, (by (with_reducible refine app_map ?_; kernel_rfl))⟩ ?_; rotate_left 1
  refine q_blk_normal ?_
  refine sn ?_
  refine rg (A := (AV.i IntKind.i64 (IntKind.i64.wrap (i_3 + (1 : Int))) = AV.i IntKind.i64 (i_3 + (1 : Int)))) cx [(1, { tell := some (.i .i64 (i_3 + (1 : Int))) })] [0, 2, 4, 8, 9] [4, 1008] (told_i64 (by omega) (by omega)) ?_
  refine sn ?_
  refine loop_next ((i_3 + (1 : Int), v_4, c_5, l_6 ++ [es[i_3.toNat]!])) (by kernel_rfl) (show ((↑es.length : Int) - (i_3 + (1 : Int))).toNat < ((↑es.length : Int) - i_3).toNat from (by omega)) (show invSd p t es (i_3 + (1 : Int)) v_4 c_5 (l_6 ++ [es[i_3.toNat]!]) from ?g5); rotate_left 1
  refine st_skip (by kernel_rfl) ?_
  refine q_blk_normal ?_
  refine sn ?_
  refine rg (A := (AV.i IntKind.i64 (IntKind.i64.wrap (i_3 + (1 : Int))) = AV.i IntKind.i64 (i_3 + (1 : Int)))) cx [(1, { tell := some (.i .i64 (i_3 + (1 : Int))) })] [0, 2, 4, 8, 9] [4, 1008] (told_i64 (by omega) (by omega)) ?_
  refine sn ?_
  refine loop_next ((i_3 + (1 : Int), v_4, c_5, l_6)) (by kernel_rfl) (show ((↑es.length : Int) - (i_3 + (1 : Int))).toNat < ((↑es.length : Int) - i_3).toNat from (by omega)) (show invSd p t es (i_3 + (1 : Int)) v_4 c_5 l_6 from ?g6); rotate_left 1
  refine st_exit 0 (by kernel_rfl) ?_
  refine q_seq_exit ?_
  refine q_seq_exit ?_
  refine q_blk_hit ?_
  refine sn ?_
  refine sq ?_
  refine rg (A := True) cx [] [6, 7] [1008] trivial ?_
  refine sn ?_
  refine st_ret (by kernel_rfl) ?_
  refine q_ret (r := .tup [.sl (List.map c28 l_6), .i .i64 ((0 : Int))]) (obl := []) (by kernel_rfl) trivial (AVle.tup (ZLe.cons (AVle.eq (show AV.sl (List.map c28 l_6) = AV.sl (List.map c28 (sideV es p t).fst) from ?g8)) (ZLe.cons (AVle.eq (show AV.i IntKind.i64 (0 : Int) = AV.i IntKind.i64 (sideV es p t).snd from ?g7)) ZLe.nil))); rotate_left 2
  revert h_2; rotate_left
  revert h_2; rotate_left
  revert h_2; rotate_left
  revert h_2 i_3 v_4 c_5 l_6 h_8 h_9 h_10 h_11 h_12 h_13 h_14; rotate_left
  revert h_2 i_3 v_4 c_5 l_6 h_8 h_9 h_10 h_11 h_12 h_13 h_14 h_15; rotate_left
  revert h_2 i_3 v_4 c_5 l_6 h_8 h_9 h_10 h_11 h_12 h_13 h_14 h_15; rotate_left
  revert h_2 i_3 v_4 c_5 l_6 h_8 h_9 h_10 h_11 h_12 h_13 h_14 h_15; rotate_left
  revert h_2 i_3 v_4 c_5 l_6 h_8 h_9 h_10 h_11 h_12 h_13 h_14; rotate_left
  revert h_2 i_3 v_4 c_5 l_6 h_8 h_9 h_10 h_11 h_12 h_13 h_14; rotate_left
  case g0 => intro h; rw [sideV_no h]
  case g1 => intro h; rw [sideV_no h]; rfl
  case g2 => intro h; exact ⟨rfl, rfl, by omega, by omega, rfl, by simp⟩
  case g3 => intro h i v c l k0 k1 h0 h1 h2 h3 h4; subst k0 k1; simp only; omega
  case g4 => intro h i v c l k0 k1 h0 h1 h2 h3 h4; have := okL_len (lst_ok (ok_both h).1); simp only [List.length_map, List.length_cons, List.length_nil]; omega
  case g5 => intro h i v c l k0 k1 h0 h1 h2 h3 h4 h5; have := invP_add (p := fun e => hasP p e.dot == t) h0 h2 h3 h4 (by subst k0 k1; simpa using h5); exact ⟨k0, k1, this.1, this.2.1, this.2.2.1, this.2.2.2⟩
  case g6 => intro h i v c l k0 k1 h0 h1 h2 h3 h4 h5; have := invP_skip (p := fun e => hasP p e.dot == t) h0 h2 h3 h4 (by subst k0 k1; simpa using h5); exact ⟨k0, k1, this.1, this.2.1, this.2.2.1, this.2.2.2⟩
  case g7 => intro h i v c l k0 k1 h0 h1 h2 h3 h4; rw [sideV_ok (ok_both h).1 (ok_both h).2]
  case g8 => intro h i v c l k0 k1 h0 h1 h2 h3 h4; rw [sideV_ok (ok_both h).1 (ok_both h).2, invP_done (p := fun e => hasP p e.dot == t) h2 h4]
theorem con42 (es : List Entry) (p : Past) (hb : p.cloud.length * 16 ≤ 140737488350000) (hv : p.vec.length ≤ 9223372036854775807) : Con Try.prog 42 [.sl (es.map c28), .agg (c36 p)] (.tup [.sl ((sideV es p true).1.map c28), .i .i64 (sideV es p true).2]) :=
  by
  refine con_lens 0 (c28) (es) (by kernel_rfl) Go.Proofs.Try.func42 (by kernel_rfl) fun hl_0 => ?_
  refine st_con tab_ok (by kernel_rfl) [.tmp 4, .tmp 5] 11 Go.Proofs.Try.func42 (by kernel_rfl) (by kernel_rfl) ?_
  intro e0 cx
  refine sq ?_
  refine rg (A := True) cx [] [0, 3] [3] trivial ?_
  refine sn ?_
  refine sq ?_
  refine rg (A := _) cx [(2, { val := some (.tup [.sl (List.map c28 (sideV es p true).fst), .i .i64 ((sideV es p true).snd)]) })] [4, 5] [] (con65 (es) (p) (true) (by (with_reducible assumption)) (by (with_reducible assumption))) ?_
  refine sn ?_
  refine st_ret (by kernel_rfl) ?_
  exact q_ret (r := .tup [.sl (List.map c28 (sideV es p true).fst), .i .i64 ((sideV es p true).snd)]) (obl := []) (by kernel_rfl) trivial (AVle.refl _)
theorem con43 (es : List Entry) (p : Past) (hb : p.cloud.length * 16 ≤ 140737488350000) (hv : p.vec.length ≤ 9223372036854775807) : Con Try.prog 43 [.sl (es.map c28), .agg (c36 p)] (.tup [.sl ((sideV es p false).1.map c28), .i .i64 (sideV es p false).2]) :=
  by
  refine con_lens 0 (c28) (es) (by kernel_rfl) Go.Proofs.Try.func43 (by kernel_rfl) fun hl_0 => ?_
  refine st_con tab_ok (by kernel_rfl) [.tmp 4, .tmp 5] 11 Go.Proofs.Try.func43 (by kernel_rfl) (by kernel_rfl) ?_
  intro e0 cx
  refine sq ?_
  refine rg (A := True) cx [] [0, 3] [3] trivial ?_
  refine sn ?_
  refine sq ?_
  refine rg (A := _) cx [(2, { val := some (.tup [.sl (List.map c28 (sideV es p false).fst), .i .i64 ((sideV es p false).snd)]) })] [4, 5] [] (con65 (es) (p) (false) (by (with_reducible assumption)) (by (with_reducible assumption))) ?_
  refine sn ?_
  refine st_ret (by kernel_rfl) ?_
  exact q_ret (r := .tup [.sl (List.map c28 (sideV es p false).fst), .i .i64 ((sideV es p false).snd)]) (obl := []) (by kernel_rfl) trivial (AVle.refl _)
end Go.Proofs.Ytjngmlkaijpbgaa
namespace Go.Proofs.Ytjngmlkaijpbgaa
open Go.E
set_option maxRecDepth 100000
set_option maxHeartbeats 4000000
theorem con10 (c : Case) (hb : c.p.cloud.length * 16 ≤ 140737488350000) (hv : c.p.vec.length ≤ 9223372036854775807) : Con Try.prog 10 [.agg (c38 c)] (.b true) :=
  by
  refine st_con tab_ok (by kernel_rfl) [.tmp 2] 100 Go.Proofs.Try.func10 (by kernel_rfl) (by kernel_rfl) ?_
  intro e0 cx
  refine sq ?_
  refine rg (A := True) cx [] [1] [1] trivial ?_
  refine sn ?_
  refine sq ?_
  refine rg (A := _ ∧ _) cx [(0, { val := some (resC (con17 )) }), (1, { val := some (resC (con39 (someL))) })] [1, 3, 4] [1, 3] ⟨(con17 ), (con39 (someL))⟩ ?_
  refine sn ?_
  refine sq ?_
  refine sq ?_
  refine rg (A := _ ∧ _) cx [(5, { val := some (.b (true)) }), (11, { val := some (.b (false)) })] [1, 3, 29] [1, 3] ⟨(con40 ((dotsV someL).fst) ({ rep := (1 : Int), num := (4 : Int) : Dot }) ?g0), (con40 ((dotsV someL).fst) ({ rep := (1 : Int), num := (3 : Int) : Dot }) ?g1)⟩ ?_; rotate_left 2
  refine sn ?_
  refine st_false (by kernel_rfl) (by kernel_rfl) ?_
  refine st_skip (by kernel_rfl) ?_
  refine sn ?_
  refine sq ?_
  refine rg (A := _) cx [(2, { val := some (resC (con41 (c.a))) })] [1, 3, 5, 6] [1, 3, 5] (con41 (c.a)) ?_
  refine sn ?_
  refine sq ?_
  refine rg (A := _) cx [(4, { val := some (.tup [.sl (List.map c28 (sideV c.a c.p true).fst), .i .i64 ((sideV c.a c.p true).snd)]) })] [1, 3, 5, 6, 7, 8] [1, 3, 5] (con42 (c.a) (c.p) (by (with_reducible assumption)) (by (with_reducible assumption))) ?_
  refine sn ?_
  refine sq ?_
  refine rg (A := _) cx [(4, { val := some (.tup [.sl (List.map c28 (sideV c.a c.p false).fst), .i .i64 ((sideV c.a c.p false).snd)]) })] [1, 3, 5, 6, 7, 8, 9, 10] [1, 3, 5] (con43 (c.a) (c.p) (by (with_reducible assumption)) (by (with_reducible assumption))) ?_
  refine sn ?_
  refine sq ?_
  refine rg (A := _) cx [(2, { val := some (resC (con39 (c.a))) })] [1, 3, 5, 6, 7, 8, 9, 10, 4] [1, 3, 5] (con39 (c.a)) ?_
  refine sn ?_
  refine sq ?_
  refine sq ?_
  refine rg (A := (AV.b ((dotsV c.a).snd != (dotsV c.a).snd) = AV.b false) ∧ _ ∧ ((AV.b !decide ((dotsV c.a).fst = (dotsV c.a).fst)) = AV.b (decide ¬(dotsV c.a).fst = (dotsV c.a).fst))) cx [(2, { tell := some (.b (false)) }), (6, { val := some (.b (decide ((dotsV c.a).fst = (dotsV c.a).fst))) }), (7, { tell := some (.b (decide ¬(dotsV c.a).fst = (dotsV c.a).fst)) })] [1, 7, 8, 9, 10, 66] [1] ⟨(told_ins), (con44 ((dotsV c.a).fst) ((dotsV c.a).fst) ?g2 ?g3), (told_notd)⟩ ?_; rotate_left 2
  refine sn ?_
  refine st_dec (¬(dotsV c.a).fst = (dotsV c.a).fst) (by kernel_rfl) (by kernel_rfl) (fun h_0 => absurd h_0 (fun hn => hn rfl)) (fun h_0 => ?_)
  refine st_skip (by kernel_rfl) ?_
  refine sn ?_
  refine sq ?_
  refine rg (A := _) cx [(4, { val := some (.tup [.sl (List.map c28 (sideV c.a c.p true).fst), .i .i64 ((sideV c.a c.p true).snd)]) })] [1, 7, 8, 9, 10, 11, 4] [1] (con45 (c.a) (c.p) (by (with_reducible assumption))) ?_
  refine sn ?_
  refine sq ?_
  refine sq ?_
  refine rg (A := (AV.b ((sideV c.a c.p true).snd != (sideV c.a c.p true).snd) = AV.b false) ∧ _ ∧ ((AV.b !decide ((sideV c.a c.p true).fst = (sideV c.a c.p true).fst)) = AV.b (decide ¬(sideV c.a c.p true).fst = (sideV c.a c.p true).fst))) cx [(2, { tell := some (.b (false)) }), (6, { val := some (.b (decide ((sideV c.a c.p true).fst = (sideV c.a c.p true).fst))) }), (7, { tell := some (.b (decide ¬(sideV c.a c.p true).fst = (sideV c.a c.p true).fst)) })] [1, 9, 10, 83] [1] ⟨(told_ins), (con24 ((sideV c.a c.p true).fst) ((sideV c.a c.p true).fst)), (told_notd)⟩ ?_
  refine sn ?_
  refine st_dec (¬(sideV c.a c.p true).fst = (sideV c.a c.p true).fst) (by kernel_rfl) (by kernel_rfl) (fun h_1 => absurd h_1 (fun hn => hn rfl)) (fun h_1 => ?_)
  refine st_skip (by kernel_rfl) ?_
  refine sn ?_
  refine sq ?_
  refine rg (A := _) cx [(4, { val := some (.tup [.sl (List.map c28 (sideV c.a c.p false).fst), .i .i64 ((sideV c.a c.p false).snd)]) })] [9, 10, 11, 4] [] (con46 (c.a) (c.p) (by (with_reducible assumption))) ?_
  refine sn ?_
  refine sq ?_
  refine rg (A := (AV.b ((sideV c.a c.p false).snd == (sideV c.a c.p false).snd) = AV.b true) ∧ _) cx [(2, { tell := some (.b (true)) }), (6, { val := some (.b (decide ((sideV c.a c.p false).fst = (sideV c.a c.p false).fst))) })] [2] [] ⟨(told_ies), (con24 ((sideV c.a c.p false).fst) ((sideV c.a c.p false).fst))⟩ ?_
  refine sn ?_
  refine st_ret (by kernel_rfl) ?_
  refine q_ret (r := .b (decide ((sideV c.a c.p false).fst = (sideV c.a c.p false).fst))) (obl := []) (by kernel_rfl) trivial (AVle.eq (show AV.b (decide ((sideV c.a c.p false).fst = (sideV c.a c.p false).fst)) = AV.b true from ?g4)); rotate_left 1
  rotate_left
  rotate_left
  rotate_left
  rotate_left
  revert h_0 h_1; rotate_left
  case g0 => exact (by have := dotsV_len someL; omega)
  case g1 => exact (by have := dotsV_len someL; omega)
  case g2 => exact (by have := dotsV_len c.a; omega)
  case g3 => exact (by have := dotsV_len c.a; omega)
  case g4 => exact (fun _ _ => by rw [decide_eq_true rfl])
end Go.Proofs.Ytjngmlkaijpbgaa
namespace Go.E
open Go.RowKit Go.ChangeShapes Go.WideShapes Go.ChangeAt
/-- An argument of a type. -/
def TyA (T : Tab) (L n t : Nat) (av : AV) : Prop :=
  match look T t with
  | some ti => if ti.isAgg then ∃ cs, av = .agg cs ∧ TyC T L n t cs else TyC T L n t [av]
  | none => False
def TyAll (T : Tab) (L n : Nat) : List Nat → List AV → Prop
  | [], [] => True
  | t :: ts, a :: aL => TyA T L n t a ∧ TyAll T L n ts aL
  | _, _ => False
section
variable {P : Program} {T : Tab} {H : Type} {enc : TypeId × Value → H} {W : World} {spare : Nat → Bool} {held : Bool}
theorem plain_not_cell (hT : TabOk P T) {n t : Nat} {ti : TI} (hti : look T t = some ti) (hp : plainT T n t = true) (hg : ti.isAgg = false) {r : Reach} {base : Nat} {v : Value} (hv : Value.okWide P W r base t v) : v.oneCell' = true ∨ ∃ x, v = x ∧ v.cells = #[v] := by
  have hu := (hT t ti hti).1
  unfold Value.okWide at hv
  rw [hu] at hv
  cases n with
  | zero => simp [plainT] at hp
  | succ n =>
    unfold plainT at hp
    rw [hti] at hp
    simp only at hp
    unfold TI.isAgg at hg
    cases hd : ti.desc with
    | bool => rw [hd] at hv; simp only [Cell.okWide, hu, hd, Cell.ok] at hv; cases v <;> simp_all [Value.oneCell', Value.cells]
    | int k => rw [hd] at hv; simp only [Cell.okWide, hu, hd, Cell.ok] at hv; cases v <;> simp_all [Value.oneCell', Value.cells]
    | string => rw [hd] at hv; simp only [Cell.okWide, hu, hd, Cell.ok] at hv; cases v <;> simp_all [Value.oneCell', Value.cells]
    | slice e => rw [hd] at hv; simp only [Cell.okWide, hu, hd, Cell.ok] at hv; cases v <;> simp_all [Value.oneCell', Value.cells]
    | struct fs => rw [hd] at hg; simp at hg
    | array k e => rw [hd] at hg; simp at hg
    | _ => rw [hd] at hp; first | exact absurd hp Bool.false_ne_true | cases hp
theorem open_arg (hT : TabOk P T) {n t : Nat} (hp : plainT T n t = true) {r : Reach} {base : Nat} {v : Value} {d : DataW H} {ps : List MemPlace} (hv : Value.okWide P W r base t v)
    (hd : DataW.Trod enc P W 0 spare held t v d ps) (hw : ∀ m ∈ d.weights P t, m ≤ reachBytes) {L : Nat} (hL : bulkD d ≤ L) : ∃ av, RelV0 (fun k => k < W.heap.size) W av v ∧ TyA T L n t av := by
  obtain ⟨ti, hti⟩ := plain_look hp
  obtain ⟨fuel, hf⟩ := hd
  obtain ⟨avs, hc, hty⟩ := opens hT n t hp fuel _ _ _ hf hw L hL
  by_cases hg : ti.isAgg = true
  · have hu := (hT t ti hti).1
    have hv' := hv
    unfold Value.okWide at hv'
    rw [hu] at hv'
    have : ∃ cs, v = .agg cs := by
      unfold TI.isAgg at hg
      split at hg
      · rename_i fs hd; rw [hd] at hv'; obtain ⟨cs, h, _⟩ := hv'; exact ⟨cs, h⟩
      · rename_i k e hd; rw [hd] at hv'; obtain ⟨cs, h, _⟩ := hv'; exact ⟨cs, h⟩
      · cases hg
    obtain ⟨cs, rfl⟩ := this
    refine ⟨.agg avs, ?_, by unfold TyA; rw [hti]; simp only [hg, if_true]; exact ⟨avs, rfl, hty⟩⟩
    have := RelV0.agg (S := fun k => k < W.heap.size) (w := W) avs cs.toList (by rw [hc.1]; simp [Value.cells]) (fun u hu => hc.2.1 u (by simpa [Value.cells] using hu)) (fun j a u ha hu => hc.2.2 j a u ha (by simpa [Value.cells] using hu))
    simpa using this
  · have hg' : ti.isAgg = false := by simpa using hg
    have h1 : v.cells.toList = [v] := by
      rcases plain_not_cell hT hti hp hg' hv with h | ⟨_, _, h⟩
      · cases v <;> simp_all [Value.oneCell', Value.cells]
      · rw [h]
    rw [h1] at hc
    obtain ⟨c1, _, c3⟩ := hc
    match avs, c1, c3, hty with
    | [a], _, c3, hty => exact ⟨a, c3 0 a v rfl rfl, by unfold TyA; rw [hti]; simp only [hg', Bool.false_eq_true, if_false]; exact hty⟩
theorem open_args (hT : TabOk P T) {L n : Nat} {r : Reach} {base : Nat} : ∀ (ts : List Nat) (vs : List Value) (ds : List (DataW H)) (ps : List MemPlace), (∀ t ∈ ts, plainT T n t = true) →
    (∀ (j : Nat) t v, ts[j]? = some t → vs[j]? = some v → Value.okWide P W r base t v) → DataW.TrodAll enc P W 0 spare held ts vs ds ps → (∀ m ∈ DataW.weightsEach P ts ds, m ≤ reachBytes) → bulkDs ds ≤ L →
    ∃ avs : List AV, avs.length = vs.length ∧ (∀ (j : Nat) (a : AV) (u : Value), avs[j]? = some a → vs[j]? = some u → RelV0 (fun k => k < W.heap.size) W a u) ∧ TyAll T L n ts avs ∧ ds.length = ts.length
  | [], [], [], ps, _, _, _, _, _ => ⟨[], rfl, fun j a u ha => by simp at ha, trivial, rfl⟩
  | t :: ts, v :: vs, d :: ds, ps, hp, hv, hA, hw, hL => by
    simp only [bulkDs] at hL
    obtain ⟨p, q, h1, h2, _⟩ := hA
    obtain ⟨a, e1, e2⟩ := open_arg hT (hp t (by simp)) (hv 0 t v rfl rfl) h1 (fun m hm => hw m (by simp only [DataW.weightsEach, List.mem_append]; exact .inl hm)) (L := L) (by omega)
    obtain ⟨aL, f1, f2, f3, f4⟩ := open_args (L := L) hT ts vs ds q (fun t ht => hp t (List.mem_cons_of_mem _ ht)) (fun j t v ht hv' => hv (j + 1) t v (by simpa using ht) (by simpa using hv')) h2 (fun m hm => hw m (by simp only [DataW.weightsEach, List.mem_append]; exact .inr hm)) (by omega)
    refine ⟨a :: aL, by simp [f1], fun j b u hb hu => ?_, ⟨e2, f3⟩, by simp [f4]⟩
    cases j with
    | zero => simp at hb hu; subst hb hu; exact e1
    | succ j => exact f2 j b u (by simpa using hb) (by simpa using hu)
  | [], _ :: _, _, _, _, _, hA, _, _ => hA.elim
  | [], [], _ :: _, _, _, _, hA, _, _ => hA.elim
  | _ :: _, [], _, _, _, _, hA, _, _ => hA.elim
  | _ :: _, _ :: _, [], _, _, _, hA, _, _ => hA.elim
theorem trodAll_stays (hl : laidOutB P = true) {W' : World} (hb : Below W.heap.size W W') : ∀ (ts : List Nat) (vs : List Value) (ds : List (DataW H)) (ps : List MemPlace), (∀ t ∈ ts, P.readableRec t = true ∧ t < P.types.size) →
    (∀ x ∈ ps, x.block < W.heap.size) → DataW.TrodAll enc P W 0 (fun _ => true) true ts vs ds ps → DataW.TrodAll enc P W' 0 (fun b => decide (b < W.heap.size)) true ts vs ds ps
  | [], [], [], ps, _, _, h => h
  | t :: ts, v :: vs, d :: ds, ps, hr, hlt, h => by
    obtain ⟨p, q, h1, h2, rfl⟩ := h
    exact ⟨p, q, Below.trod hl (hr t (by simp)).1 (hr t (by simp)).2 h1 hb (fun x hx => hlt x (List.mem_append_left _ hx)),
      trodAll_stays hl hb ts vs ds q (fun t ht => hr t (List.mem_cons_of_mem _ ht)) (fun x hx => hlt x (List.mem_append_right _ hx)) h2, rfl⟩
  | [], _ :: _, _, _, _, _, hA => hA.elim
  | [], [], _ :: _, _, _, _, hA => hA.elim
  | _ :: _, [], _, _, _, _, hA => hA.elim
  | _ :: _, _ :: _, [], _, _, _, hA => hA.elim
end
/-- What the contract gives, of one reading. -/
theorem law_core {T : Tab} {C : Checked} {f : FuncId} {fn : Func} {s : ChangeSpec} {H : Type} {enc : TypeId × Value → H} (ts : List Nat) (tb L n : Nat)
    (hT : TabOk C.prog T) (hl : laidOutB C.prog = true)
    (hts : fn.params = ts.toArray) (htb : fn.resultTypes = #[tb]) (hub : C.prog.underlying tb = some .bool) (hpl : ts.all (fun t => plainT T n t && C.prog.readableRec t && Nat.blt t C.prog.types.size) = true)
    (hvars : s.vars = []) (hspec : ∀ ds : List (DataW H), ds.length = ts.length → s.fn H (ds ++ []) = { results := [.lit (.bool true)], args := ds })
    (hcon : ∀ avs, TyAll T L n ts avs → Con C.prog f avs (.b true)) {W : World} {base : Nat} {args : Array Value} {ds gs : List (DataW H)} {before : List MemPlace} {us : List Nat}
    (hval : ∀ (j : Nat) t v, fn.params[j]? = some t → args[j]? = some v → Value.okWide C.prog W .any base t v) (hW : DataW.Whole enc C.prog fn.params.toList s.vars false W args.toList ds gs before)
    (hsz : (DataW.weightsEach C.prog (fn.params.toList ++ us) (ds ++ gs)).all (· ≤ reachBytes) = true) (hbk : bulkDs (ds ++ gs) ≤ L) :
    Calls C.prog f args W fun e W' => ∃ v, e = .returned v ∧ s.post enc C.prog fn false true false false W args v W' := by
  have hW' := hW
  obtain ⟨p, q, hA, hV, rfl, _, _⟩ := hW
  rw [hvars] at hV
  obtain ⟨rfl, rfl⟩ := trodVars_none hV
  rw [List.append_nil] at hW' hbk
  have hpars : fn.params.toList = ts := by rw [hts]
  have hA' : DataW.TrodAll enc C.prog W 0 (fun _ => true) true ts args.toList ds p := by rw [← hpars]; exact hA
  have hpl' : ∀ t ∈ ts, plainT T n t = true ∧ C.prog.readableRec t = true ∧ t < C.prog.types.size := by
    intro t ht
    have := List.all_eq_true.1 hpl t ht
    simp only [Bool.and_eq_true] at this
    exact ⟨this.1.1, this.1.2, by simpa using this.2⟩
  have hw : ∀ m ∈ DataW.weightsEach C.prog ts ds, m ≤ reachBytes := by
    intro m hm
    have hsz' := hsz
    rw [List.append_nil, hpars] at hsz'
    have hsub : ∀ (ts us : List Nat) (ds : List (DataW H)), ∀ m ∈ DataW.weightsEach C.prog ts ds, m ∈ DataW.weightsEach C.prog (ts ++ us) ds := by
      intro ts us ds
      induction ts generalizing ds with
      | nil => intro m hm; cases ds <;> simp [DataW.weightsEach] at hm
      | cons t ts ih =>
        intro m hm
        cases ds with
        | nil => simp [DataW.weightsEach] at hm
        | cons d ds =>
          simp only [DataW.weightsEach, List.cons_append, List.mem_append] at hm ⊢
          rcases hm with hm | hm
          · exact .inl hm
          · exact .inr (ih ds m hm)
    have := List.all_eq_true.1 hsz' m (hsub ts _ ds m hm)
    simpa using this
  obtain ⟨avs, h1, h2, h3, h4⟩ := open_args hT ts args.toList ds p (fun t ht => (hpl' t ht).1) (fun j t v ht hv => hval j t v (by rw [hts]; simpa using ht) (by simpa using hv)) hA' hw hbk
  have hlt : ∀ x ∈ p, x.block < W.heap.size := fun x hx => hW'.lt x hx
  have hsp := hspec ds h4
  have := (hcon avs h3).2 W (fun k => k < W.heap.size) args.toList (fun _ h => h) (by rw [h1]) h2
  rw [Array.toArray_toList] at this
  refine this.mono fun e W' ⟨v, he, hr, hb⟩ => ?_
  cases hr with
  | b =>
    refine ⟨_, he, ds, [], p, [], p, [], hW', ?_, ?_, ?_, hb.frame _, fun h => by cases h⟩
    · rw [hsp, htb]
      exact trodAll_mk1 (shut_bool hub true)
    · rw [hsp, hpars]
      exact trodAll_stays hl hb ts args.toList ds p (fun t ht => (hpl' t ht).2) hlt hA'
    · rw [hsp, hvars]
      rfl
/-- **A law's row, from its contract.** -/
theorem law_lifted {T : Tab} {C : Checked} {os : Os} {f : FuncId} {fn : Func} {s : ChangeSpec} {conds : List PathCond} {H : Type} {enc : TypeId × Value → H} (ts : List Nat) (tb n : Nat)
    (hT : TabOk C.prog T) (hl : laidOutB C.prog = true) (own : ownKnob C.prog.godebug = none) (started : os.Started) (noInit : C.prog.inits.idxOf? f = none) (hfn : C.prog.funcs[f]? = some fn)
    (hts : fn.params = ts.toArray) (htb : fn.resultTypes = #[tb]) (hub : C.prog.underlying tb = some .bool) (hpl : ts.all (fun t => plainT T n t && C.prog.readableRec t && Nat.blt t C.prog.types.size) = true)
    (hvars : s.vars = []) (hspec : ∀ ds : List (DataW H), ds.length = ts.length → s.fn H (ds ++ []) = { results := [.lit (.bool true)], args := ds })
    (witness : ∃ (w : World) (tape : Tape) (i : Input), w.os = os ∧ (w.forCall tape i).Shaped C.prog ∧ i.vars = [] ∧ Input.okWide C.prog (w.forCall tape i) .any w.heap.size f i ∧
      s.pre6 enc C.prog fn conds false (w.forCall tape i).memory i.args ∧ ({} : Assume).holds C.prog (lone (Frame.enter C.prog f i.args .normal) [] (w.forCall tape i)))
    (hcon : ∀ L avs, TyAll T L n ts avs → Con C.prog f avs (.b true)) :
    ReturnsInHanded {} C os f .any (s.pre6 enc C.prog fn conds false) (s.post enc C.prog fn false true false false) := by
  refine returnsInHanded_of_change_sized own started noInit hfn witness ?_
  intro W base args ds gs before hval hW _ hsz _
  exact law_core ts tb (bulkDs (ds ++ gs)) n hT hl hts htb hub hpl hvars hspec (hcon _) hval hW hsz (Nat.le_refl _)
/-- **The same of the second form**: where what is read is of a bounded bulk. -/
theorem law_lifted_upto {T : Tab} {C : Checked} {os : Os} {f : FuncId} {fn : Func} {s : ChangeSpec} {u : OpenSpec} {k : (H : Type) → List (DataW H) → Bool} {conds : List PathCond} {H : Type} {enc : TypeId × Value → H} (F : Stop.Interp) (ts : List Nat) (tb L n : Nat)
    (hu : u = { OpenSpec.ofChange s with cond := some k }) (hk : ∀ ds : List (DataW H), k H ds = true → bulkDs ds ≤ L)
    (hT : TabOk C.prog T) (hl : laidOutB C.prog = true) (own : ownKnob C.prog.godebug = none) (started : os.Started) (noInit : C.prog.inits.idxOf? f = none) (hfn : C.prog.funcs[f]? = some fn)
    (hts : fn.params = ts.toArray) (htb : fn.resultTypes = #[tb]) (hub : C.prog.underlying tb = some .bool) (hpl : ts.all (fun t => plainT T n t && C.prog.readableRec t && Nat.blt t C.prog.types.size) = true)
    (hvars : s.vars = []) (hspec : ∀ ds : List (DataW H), ds.length = ts.length → s.fn H (ds ++ []) = { results := [.lit (.bool true)], args := ds })
    (witness : ∃ (w : World) (tape : Tape) (i : Input), w.os = os ∧ (w.forCall tape i).Shaped C.prog ∧ i.vars = [] ∧ Input.okWide C.prog (w.forCall tape i) .any w.heap.size f i ∧
      u.pre6 enc C.prog fn conds false (w.forCall tape i).memory i.args ∧ ({} : Assume).holds C.prog (lone (Frame.enter C.prog f i.args .normal) [] (w.forCall tape i)))
    (hcon : ∀ avs, TyAll T L n ts avs → Con C.prog f avs (.b true)) :
    ReturnsInHanded {} C os f .any (u.pre6 enc C.prog fn conds false) ((u.at F).post enc C.prog fn false true false false) := by
  subst hu
  refine returnsInHanded_of_cond_sized (k := k) rfl own started noInit hfn witness ?_
  intro W base args ds gs before hval hW _ hkk hsz _
  exact law_core ts tb L n hT hl hts htb hub hpl hvars hspec hcon hval hW hsz (hk _ hkk)
theorem rows_typed {α : Type} {g : α → List AV} {Q : α → Prop} {C : List AV → Prop} (h : ∀ r, C r → ∃ x, r = g x ∧ Q x) : ∀ (rows : List (List AV)), (∀ r ∈ rows, C r) → ∃ xs : List α, rows = xs.map g ∧ ∀ x ∈ xs, Q x
  | [], _ => ⟨[], rfl, fun x hx => by simp at hx⟩
  | r :: rows, hr => by
    obtain ⟨x, h1, h2⟩ := h r (hr r (by simp))
    obtain ⟨xs, h3, h4⟩ := rows_typed h rows fun q hq => hr q (List.mem_cons_of_mem _ hq)
    refine ⟨x :: xs, by rw [h1, h3]; rfl, fun y hy => ?_⟩
    rcases List.mem_cons.1 hy with rfl | hy
    · exact h2
    · exact h4 y hy
end Go.E
namespace Go.Proofs.Ytjngmlkaijpbgaa
open Go.E
set_option maxRecDepth 100000
set_option maxHeartbeats 4000000
open Go.ChangeShapes Go.WideShapes Go.ChangeAt Go.RowKit Go
theorem Try.own : Go.ownKnob Try.prog.godebug = none := by kernel_rfl
theorem Try.laidOut : laidOutB Try.prog = true := by kernel_rfl
def inr (n : Int) : Prop := -9223372036854775808 ≤ n ∧ n ≤ 9223372036854775807
theorem ty3 {L n : Nat} {cs : List AV} (h : TyC tab L (n + 1) 3 cs) : ∃ x, cs = c3 x ∧ inr x := by
  obtain ⟨x, rfl, h1, h2⟩ := h
  exact ⟨x, rfl, h1, h2⟩
theorem ty33 {L n : Nat} {cs : List AV} (h : TyC tab L (n + 2) 33 cs) : ∃ xs : List Int, cs = c33 xs ∧ sz22 xs := by
  obtain ⟨rows, rfl, h1, h2, hL, h3⟩ := h
  obtain ⟨xs, rfl, hx⟩ := rows_typed (fun r hr => ty3 hr) rows h3
  exact ⟨xs, rfl, by rw [List.length_map] at h2; exact h2⟩
theorem ty26 {L n : Nat} {cs : List AV} (h : TyC tab L (n + 2) 26 cs) : ∃ d : Dot, cs = c26 d ∧ inr d.rep ∧ inr d.num := by
  obtain ⟨a, b, rfl, ha, c, d, rfl, hc, rfl⟩ := h
  obtain ⟨x, rfl, hx⟩ := ty3 ha
  obtain ⟨y, rfl, hy⟩ := ty3 hc
  exact ⟨⟨x, y⟩, rfl, hx, hy⟩
theorem one_eq {a b : AV} (h : [a] = [b]) : a = b := by simpa using h
theorem ta3 {L : Nat} {a : AV} (h : TyA tab L 9 3 a) : ∃ x, a = .i .i64 x ∧ inr x := by
  obtain ⟨x, hx, k⟩ := ty3 (L := L) (n := 8) (cs := [a]) h
  exact ⟨x, one_eq hx, k⟩
theorem ta33 {L : Nat} {a : AV} (h : TyA tab L 9 33 a) : ∃ x : List Int, a = .sl (x.map c3) ∧ sz22 x := by
  obtain ⟨x, hx, k⟩ := ty33 (L := L) (n := 7) (cs := [a]) h
  exact ⟨x, one_eq hx, k⟩
theorem ta26 {L : Nat} {a : AV} (h : TyA tab L 9 26 a) : ∃ x : Dot, a = .agg (c26 x) ∧ inr x.rep ∧ inr x.num := by
  obtain ⟨cs, rfl, h2⟩ := (show ∃ cs, a = .agg cs ∧ TyC tab L 9 26 cs from h)
  obtain ⟨d, rfl, k⟩ := ty26 (L := L) (n := 7) h2
  exact ⟨d, rfl, k⟩
theorem ty9 {L n : Nat} {cs : List AV} (h : TyC tab L (n + 1) 9 cs) : ∃ s : ByteArray, cs = [.s s] ∧ s.size ≤ 140737488351232 := by
  obtain ⟨s, rfl, _, h2, _⟩ := h
  exact ⟨s, rfl, h2⟩
theorem ta9 {L : Nat} {a : AV} (h : TyA tab L 9 9 a) : ∃ s : ByteArray, a = .s s ∧ s.size ≤ 140737488351232 := by
  obtain ⟨x, hx, k⟩ := ty9 (L := L) (n := 8) (cs := [a]) h
  exact ⟨x, one_eq hx, k⟩
theorem ty81 {L n : Nat} {cs : List AV} (h : TyC tab L (n + 2) 81 cs) : ∃ d : Span, cs = c81 d ∧ inr d.rep ∧ inr d.lo ∧ inr d.hi := by
  obtain ⟨a, b, rfl, ha, c, d, rfl, hc, e, f, rfl, he, rfl⟩ := h
  obtain ⟨x, rfl, hx⟩ := ty3 ha
  obtain ⟨y, rfl, hy⟩ := ty3 hc
  obtain ⟨z, rfl, hz⟩ := ty3 he
  exact ⟨⟨x, y, z⟩, rfl, hx, hy, hz⟩
def inE (e : Entry) : Prop := inr e.dot.rep ∧ inr e.dot.num ∧ e.sku.size ≤ 140737488351232 ∧ inr e.qty
theorem ty28 {L n : Nat} {cs : List AV} (h : TyC tab L (n + 3) 28 cs) : ∃ e : Entry, cs = c28 e ∧ inE e := by
  obtain ⟨a, b, rfl, ha, c, d, rfl, hc, e, f, rfl, he, rfl⟩ := h
  obtain ⟨x, rfl, hx⟩ := ty26 ha
  obtain ⟨y, rfl, hy⟩ := ty9 hc
  obtain ⟨z, rfl, hz⟩ := ty3 he
  exact ⟨⟨x, y, z⟩, rfl, hx.1, hx.2, hy, hz⟩
theorem ty22 {L n : Nat} {cs : List AV} (h : TyC tab L (n + 4) 22 cs) : ∃ xs : List Entry, cs = [.sl (xs.map c28)] ∧ ((∀ x ∈ xs, inE x) ∧ xs.length * 40 ≤ 140737488351232) ∧ xs.length ≤ L := by
  obtain ⟨rows, rfl, h1, h2, hL, h3⟩ := h
  obtain ⟨xs, rfl, hx⟩ := rows_typed (fun r hr => ty28 hr) rows h3
  exact ⟨xs, rfl, ⟨hx, by rw [List.length_map] at h2; exact h2⟩, by rw [List.length_map] at hL; exact hL⟩
theorem ta22 {L : Nat} {a : AV} (h : TyA tab L 9 22 a) : ∃ xs : List Entry, a = .sl (xs.map c28) ∧ ((∀ x ∈ xs, inE x) ∧ xs.length * 40 ≤ 140737488351232) ∧ xs.length ≤ L := by
  obtain ⟨x, hx, k⟩ := ty22 (L := L) (n := 5) (cs := [a]) h
  exact ⟨x, one_eq hx, k⟩
theorem ty34 {L n : Nat} {cs : List AV} (h : TyC tab L (n + 3) 34 cs) : ∃ xs : List Span, cs = [.sl (xs.map c81)] ∧ (∀ x ∈ xs, inr x.rep ∧ inr x.lo ∧ inr x.hi) ∧ xs.length * 24 ≤ 140737488351232 := by
  obtain ⟨rows, rfl, h1, h2, hL, h3⟩ := h
  obtain ⟨xs, rfl, hx⟩ := rows_typed (fun r hr => ty81 hr) rows h3
  exact ⟨xs, rfl, hx, by rw [List.length_map] at h2; exact h2⟩
def inP (p : Past) : Prop := p.vec.length * 8 ≤ 140737488351232 ∧ (∀ x ∈ p.cloud, inr x.rep ∧ inr x.lo ∧ inr x.hi) ∧ p.cloud.length * 24 ≤ 140737488351232
theorem ty36 {L n : Nat} {cs : List AV} (h : TyC tab L (n + 4) 36 cs) : ∃ p : Past, cs = c36 p ∧ inP p := by
  obtain ⟨a, b, rfl, ha, c, d, rfl, hc, rfl⟩ := h
  obtain ⟨x, rfl, hx⟩ := ty33 (L := L) (n := n + 1) ha
  obtain ⟨y, rfl, hy⟩ := ty34 hc
  exact ⟨⟨x, y⟩, rfl, hx, hy⟩
def inC (c : Case) : Prop := ((∀ x ∈ c.a, inE x) ∧ c.a.length * 40 ≤ 140737488351232) ∧ ((∀ x ∈ c.b, inE x) ∧ c.b.length * 40 ≤ 140737488351232) ∧ inP c.p ∧ c.sku.size ≤ 140737488351232
theorem ty38 {L n : Nat} {cs : List AV} (h : TyC tab L (n + 5) 38 cs) : ∃ c : Case, cs = c38 c ∧ inC c ∧ c.a.length ≤ L ∧ c.b.length ≤ L := by
  obtain ⟨a, b, rfl, ha, a2, b2, rfl, ha2, a3, b3, rfl, ha3, a4, b4, rfl, ha4, a5, b5, rfl, ha5, a6, b6, rfl, ha6, rfl⟩ := h
  obtain ⟨x1, rfl, h1⟩ := ty22 ha
  obtain ⟨x2, rfl, h2⟩ := ty22 ha2
  obtain ⟨x3, rfl, h3⟩ := ty36 ha3
  obtain ⟨x4, rfl, h4⟩ := ty26 (L := L) (n := n + 2) ha4
  obtain ⟨x5, rfl, h5⟩ := ty3 (L := L) (n := n + 3) ha5
  obtain ⟨x6, rfl, h6⟩ := ty9 (L := L) (n := n + 3) ha6
  exact ⟨⟨x1, x2, x3, x4, x5, x6⟩, rfl, ⟨h1.1, h2.1, h3, h6⟩, h1.2, h2.2⟩
theorem ta38 {L : Nat} {a : AV} (h : TyA tab L 9 38 a) : ∃ c : Case, a = .agg (c38 c) ∧ inC c ∧ c.a.length ≤ L ∧ c.b.length ≤ L := by
  obtain ⟨cs, rfl, h2⟩ := (show ∃ cs, a = .agg cs ∧ TyC tab L 9 38 cs from h)
  obtain ⟨d, rfl, k⟩ := ty38 (L := L) (n := 4) h2
  exact ⟨d, rfl, k⟩
mutual
theorem bulk_eq {H : Type} : ∀ d : DataW H, Rows.uptoBulk d = bulkD d
  | .lit l => by cases l <;> simp [Rows.uptoBulk, bulkD]
  | .nil => by simp [Rows.uptoBulk, bulkD]
  | .ptr d => by simp only [Rows.uptoBulk, bulkD, bulk_eq d]
  | .slice elems spare => by simp only [Rows.uptoBulk, bulkD, bulks_eq elems, bulks_eq spare]
  | .agg parts => by simp only [Rows.uptoBulk, bulkD, bulks_eq parts]
  | .iface _ d => by simp only [Rows.uptoBulk, bulkD, bulk_eq d]
  | .map entries => by simp only [Rows.uptoBulk, bulkD, bulkm_eq entries]
  | .held _ => by simp [Rows.uptoBulk, bulkD]
theorem bulks_eq {H : Type} : ∀ l : List (DataW H), Rows.uptoBulkAll l = bulkDs l
  | [] => by simp [Rows.uptoBulkAll, bulkDs]
  | d :: r => by simp only [Rows.uptoBulkAll, bulkDs, bulk_eq d, bulks_eq r]
theorem bulkm_eq {H : Type} : ∀ l : List (Lit × DataW H), Rows.uptoBulkEntries l = bulkDm l
  | [] => by simp [Rows.uptoBulkEntries, bulkDm]
  | x :: r => by simp only [Rows.uptoBulkEntries, bulkDm, bulke_eq x, bulkm_eq r]
theorem bulke_eq {H : Type} : ∀ x : Lit × DataW H, Rows.uptoBulkEntry x = bulkDe x
  | (l, d) => by cases l <;> simp only [Rows.uptoBulkEntry, bulkDe, bulk_eq d]
end
theorem bulk_small {H : Type} (ds : List (DataW H)) (h : Rows.uptoSmall H ds = true) : bulkDs ds ≤ 1048576 := by
  rw [← bulks_eq]
  exact of_decide_eq_true h
end Go.Proofs.Ytjngmlkaijpbgaa
namespace Go.Proofs.Ytjngmlkaijpbgaa
open Go.E Go.ChangeShapes Go.WideShapes Go.ChangeAt Go.RowKit
set_option maxRecDepth 100000
theorem law10 {L : Nat} {a1 : AV} (h1 : TyA tab L 9 38 a1) : Con Try.prog 10 [a1] (.b true) := by
  obtain ⟨x1, rfl, k1⟩ := ta38 h1
  exact con10 x1 (by have := k1.1.2.2.1.2; omega) (by have := k1.1.2.2.1.1; omega)
theorem LinesSides_lifted (os : Os) (started : os.Started) (H : Type) (enc : TypeId × Value → H) :
    ReturnsInHanded {} Try.checked os 10 .any (Rows.linesSidesSpec.pre6 enc Try.prog Try.f10 Rows.linesSidesRow.domain false) (Rows.linesSidesSpec.post enc Try.prog Try.f10 false true false false) := by
  refine law_lifted (C := Try.checked) [38] 4 9 tab_ok Try.laidOut Try.own started (by kernel_rfl) Try.func10 rfl rfl (by kernel_rfl) (by kernel_rfl) rfl ?_
    (ChangeSpec.witness6 (enc := enc) (C := Try.checked) false ⟨#[], #[.agg #[.slice none 0 0, .slice none 0 0, .slice none 0 0, .slice none 0 0, .int .i64 0, .int .i64 0, .int .i64 0, .string ⟨#[]⟩]], []⟩ 8 (by kernel_rfl) (by kernel_rfl) (by kernel_rfl) (by kernel_rfl)) ?_
  · intro ds hds
    rcases ds with _ | ⟨d1, _ | ⟨d2, l⟩⟩
    · exact absurd hds (by simp)
    · kernel_rfl
    · exact absurd hds (by simp)
  · intro L avs h
    rcases avs with _ | ⟨a1, _ | ⟨a2, l⟩⟩
    · exact h.elim
    · exact law10 h.1
    · exact h.2.elim
theorem LinesSides_holds : Rows.LinesSidesSaid :=
  OpenClaim.holds_of_wide 10 Try.f10 rfl rfl rfl rfl rfl rfl rfl ⟨rfl, rfl, rfl, rfl, rfl⟩ rfl rfl rfl rfl rfl (by kernel_rfl) Try.func10 (by kernel_rfl)
    (of_decide_eq_true (by kernel_rfl)) (by unfold Func.isWrapper; first | (rw [if_pos (by decide +kernel)]; kernel_rfl) | (rw [if_neg (by decide +kernel)]; exact ⟨rfl, rfl⟩))
    (fun os started H enc _ => LinesSides_lifted os started H enc)
end Go.Proofs.Ytjngmlkaijpbgaa
