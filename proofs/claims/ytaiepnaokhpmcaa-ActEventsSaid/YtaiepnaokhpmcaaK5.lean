/- Rd: the document's turns. Conditions: sizes. Re: the document's Mean. Conditions: sizes. Rf: the document's Form. Conditions: the runs are in form. Rg: the document's Norm, Of, IsNorm. Conditions: sizes. Pm: span.Meet, others, Minus; past.Minus, Join. Conditions: sizes. Rm: the document's combine, Minus, Join, Size, Empty. Conditions: sizes. Rn: the document's Compare, Next, Within. Conditions: sizes. La: lines: entries in form. Conditions: none. Kr: records in the documents. Conditions: sizes. -/
import Derived.Test.YtaiepnaokhpmcaaK4
set_option linter.unusedVariables false
set_option linter.unusedSimpArgs false
namespace Go.Proofs.Ytaiepnaokhpmcaa
open Go.E
set_option maxRecDepth 100000
set_option maxHeartbeats 4000000
def zipR (lo hi : List Int) : List Run := List.zipWith (fun a b => ⟨a, b⟩) lo hi
def isIns (lo hi : List Int) (i : Int) (l : List Int) : Prop := l = insR ((zipR lo hi).take i.toNat)
def isOuts (lo hi : List Int) (i : Int) (l : List Int) : Prop := l = outsR ((zipR lo hi).take i.toNat)
def invTa (lo hi : List Int) (i : Int) (a b : List Int) : Prop := 0 ≤ i ∧ i ≤ lo.length ∧ (a.length : Int) ≤ i ∧ (b.length : Int) = a.length ∧ isIns lo hi i a ∧ isOuts lo hi i b
def decTa (lo : List Int) (i : Int) (a b : List Int) : Nat := (lo.length - i).toNat
def isSw (A B : List Int) (i j : Int) (t : List Int) : Prop := VW (A.drop i.toNat) (B.drop j.toNat) (i - j).toNat ∧ j ≤ i ∧ t ++ sw (A.drop i.toNat) (B.drop j.toNat) (i - j).toNat = sw A B 0
def invTb (A B : List Int) (d j i : Int) (t : List Int) : Prop := 0 ≤ i ∧ i ≤ A.length ∧ 0 ≤ j ∧ j ≤ B.length ∧ d = i - j ∧ (t.length : Int) ≤ i + j ∧ isSw A B i j t
def decTb (A B : List Int) (d j i : Int) (t : List Int) : Nat := (A.length + B.length - i - j).toNat
theorem isSw_len {A B : List Int} {i j : Int} {t : List Int} (h0 : 0 ≤ i) (hi : i ≤ A.length) (j0 : 0 ≤ j) (jl : j ≤ B.length) (h : isSw A B i j t) : A.length = B.length := by
  have := h.1.len
  have := h.2.1
  simp only [List.length_drop] at *
  omega
theorem isSw_in {A B : List Int} {i j : Int} {t : List Int} (h0 : 0 ≤ i) (hi : i < A.length) (j0 : 0 ≤ j) (jl : j ≤ B.length) (hle : A[i.toNat]! ≤ B[j.toNat]!) (h : isSw A B i j t) :
    isSw A B (i + 1) j (if i - j = 0 then t ++ [A[i.toNat]!] else t) := by
  have hl := isSw_len h0 (by omega) j0 jl h
  obtain ⟨v, hji, e⟩ := h
  have hj : j < B.length := by omega
  rw [drop_at h0 hi, drop_at j0 hj] at v e
  rw [sw, if_pos hle] at e
  refine ⟨?_, by omega, ?_⟩
  · rw [drop_at j0 hj, show (i + 1 - j).toNat = (i - j).toNat + 1 by omega]; exact v.in_ hle
  · rw [← e, drop_at j0 hj, show (i + 1 - j).toNat = (i - j).toNat + 1 by omega]
    by_cases z : i - j = 0
    · rw [if_pos z, if_pos (show (i - j).toNat = 0 by omega), List.append_assoc]
    · rw [if_neg z, if_neg (show ¬ (i - j).toNat = 0 by omega)]; rfl
theorem isSw_out {A B : List Int} {i j : Int} {t : List Int} (h0 : 0 ≤ i) (hi : i ≤ A.length) (j0 : 0 ≤ j) (jl : j ≤ B.length) (ho : i < A.length ∨ j < B.length) (hn : ¬ (i < A.length ∧ A[i.toNat]! ≤ B[j.toNat]!)) (h : isSw A B i j t) :
    j < B.length ∧ j < i ∧ isSw A B i (j + 1) (if i - j - 1 = 0 then t ++ [B[j.toNat]!] else t) := by
  have hl := isSw_len h0 hi j0 jl h
  obtain ⟨v, hji, e⟩ := h
  have hj : j < B.length := by omega
  rw [drop_at j0 hj] at v e
  by_cases hA : i < A.length
  · have hba : B[j.toNat]! < A[i.toNat]! := by have : ¬ A[i.toNat]! ≤ B[j.toNat]! := fun k => hn ⟨hA, k⟩; omega
    rw [drop_at h0 hA] at v e
    have hp := v.pos hba
    rw [sw, if_neg (by omega)] at e
    refine ⟨hj, by omega, ?_, by omega, ?_⟩
    · rw [drop_at h0 hA, show (i - (j + 1)).toNat = (i - j).toNat - 1 by omega]; exact v.out hba
    · rw [← e, drop_at h0 hA, show (i - (j + 1)).toNat = (i - j).toNat - 1 by omega]
      by_cases z : i - j - 1 = 0
      · rw [if_pos z, if_pos (show (i - j).toNat = 1 by omega), List.append_assoc]
      · rw [if_neg z, if_neg (show ¬ (i - j).toNat = 1 by omega)]; rfl
  · rw [List.drop_of_length_le (l := A) (by omega)] at v e
    have hp := v.end_
    rw [sw] at e
    refine ⟨hj, by omega, ?_, by omega, ?_⟩
    · rw [List.drop_of_length_le (l := A) (by omega), show (i - (j + 1)).toNat = (i - j).toNat - 1 by omega]; exact hp.2
    · rw [← e, List.drop_of_length_le (l := A) (by omega), show (i - (j + 1)).toNat = (i - j).toNat - 1 by omega]
      by_cases z : i - j - 1 = 0
      · rw [if_pos z, if_pos (show (i - j).toNat = 1 by omega), List.append_assoc]
      · rw [if_neg z, if_neg (show ¬ (i - j).toNat = 1 by omega)]; rfl
theorem isSw_end {A B : List Int} {i j : Int} {t : List Int} (ho : ¬ (i < A.length ∨ j < B.length)) (h : isSw A B i j t) : t = sw A B 0 := by
  have e := h.2.2
  rw [List.drop_of_length_le (by omega), List.drop_of_length_le (by omega), sw, List.append_nil] at e
  exact e
theorem zip_len {lo hi : List Int} (h : lo.length = hi.length) : (zipR lo hi).length = lo.length := by
  unfold zipR; rw [List.length_zipWith]; omega
theorem zip_step {lo hi : List Int} {i : Int} (h : lo.length = hi.length) (h0 : 0 ≤ i) (hi' : i < lo.length) : (zipR lo hi).take (i + 1).toNat = (zipR lo hi).take i.toNat ++ [⟨lo[i.toNat]!, hi[i.toNat]!⟩] := by
  rw [← take_step h0 (by rw [zip_len h]; exact hi')]
  congr 2
  have := zip_len h
  rw [getElem!_pos (zipR lo hi) i.toNat (by omega), getElem!_pos lo i.toNat (by omega), getElem!_pos hi i.toNat (by omega)]
  simp [zipR]
theorem ins_app (a : List Run) (r : Run) : insR (a ++ [r]) = insR a ++ if (clipR r).lo ≤ (clipR r).hi then [(clipR r).lo] else [] := by
  unfold insR
  rw [keepR_app, keepR_one, List.map_append]
  split <;> rfl
theorem outs_app (a : List Run) (r : Run) : outsR (a ++ [r]) = outsR a ++ if (clipR r).lo ≤ (clipR r).hi then [(clipR r).hi + 1] else [] := by
  unfold outsR
  rw [keepR_app, keepR_one, List.map_append]
  split <;> rfl
theorem isIns_in {lo hi : List Int} {i : Int} {a b : List Int} (h : lo.length = hi.length) (h0 : 0 ≤ i) (hl : i < lo.length) (hc : max lo[i.toNat]! 1 ≤ min hi[i.toNat]! 1000000000) (ha : isIns lo hi i a) (hb : isOuts lo hi i b) :
    isIns lo hi (i + 1) (a ++ [max lo[i.toNat]! 1]) ∧ isOuts lo hi (i + 1) (b ++ [min hi[i.toNat]! 1000000000 + 1]) := by
  unfold isIns isOuts at *
  have hc' : (clipR ⟨lo[i.toNat]!, hi[i.toNat]!⟩).lo ≤ (clipR ⟨lo[i.toNat]!, hi[i.toNat]!⟩).hi := hc
  rw [zip_step h h0 hl, ins_app, outs_app, ← ha, ← hb, if_pos hc', if_pos hc']
  exact ⟨rfl, rfl⟩
theorem isIns_out {lo hi : List Int} {i : Int} {a b : List Int} (h : lo.length = hi.length) (h0 : 0 ≤ i) (hl : i < lo.length) (hc : ¬ max lo[i.toNat]! 1 ≤ min hi[i.toNat]! 1000000000) (ha : isIns lo hi i a) (hb : isOuts lo hi i b) :
    isIns lo hi (i + 1) a ∧ isOuts lo hi (i + 1) b := by
  unfold isIns isOuts at *
  have hc' : ¬ (clipR ⟨lo[i.toNat]!, hi[i.toNat]!⟩).lo ≤ (clipR ⟨lo[i.toNat]!, hi[i.toNat]!⟩).hi := hc
  rw [zip_step h h0 hl, ins_app, outs_app, ← ha, ← hb, if_neg hc', if_neg hc', List.append_nil, List.append_nil]
  exact ⟨rfl, rfl⟩
theorem isIns_end {lo hi : List Int} {i : Int} {a b : List Int} (h : lo.length = hi.length) (hl : ¬ i < lo.length) (ha : isIns lo hi i a) (hb : isOuts lo hi i b) : a.mergeSort leI = insS (zipR lo hi) ∧ b.mergeSort leI = outsS (zipR lo hi) := by
  unfold isIns isOuts at *
  have := zip_len h
  rw [ha, hb, List.take_of_length_le (by omega)]
  exact ⟨rfl, rfl⟩
theorem isSw_start (l : List Run) : isSw (insS l) (outsS l) 0 0 [] := ⟨sweep_ok l, by omega, by simp⟩
theorem con62 (lo hi : List Int) (h : lo.length = hi.length) (hb : lo.length * 16 ≤ 140737488351232) : Con Try.prog 62 [.sl (lo.map c3), .sl (hi.map c3)] (.sl ((turnsR (nrm (zipR lo hi))).map c3)) :=
  by
  refine con_lens 0 (c3) (lo) (by kernel_rfl) Go.Proofs.Try.func62 (by kernel_rfl) fun hl_0 => ?_
  refine con_lens 1 (c3) (hi) (by kernel_rfl) Go.Proofs.Try.func62 (by kernel_rfl) fun hl_1 => ?_
  refine st_con tab_ok (by kernel_rfl) [.tmp 4] 98 Go.Proofs.Try.func62 (by kernel_rfl) (by kernel_rfl) ?_
  intro e0 cx
  refine sq ?_
  refine rg (A := True) cx [] [0, 1] [] trivial ?_
  refine sn ?_
  refine sq ?_
  refine rg (A := True) cx [] [0, 1, 5, 6] [] trivial ?_
  refine sn ?_
  refine sq ?_
  refine sq ?_
  refine rg (A := True) cx [] [0, 1, 5, 6, 7] [] trivial ?_
  refine sn ?_
  refine st_block 0 (by kernel_rfl) ?_
  refine awp_adopt 5 1005 3 1 (σ' := ⟨[(0, .sl (List.map c3 lo)), (1, .sl (List.map c3 hi)), (5, .own 1005 0), (6, .nl), (7, .i .i64 ((0 : Int)))], [(1005, ⟨0, 3, .row 1 (List.map c3 [])⟩)]⟩) (by kernel_rfl) ?_
  refine awp_adopt 6 1006 3 1 (σ' := ⟨[(0, .sl (List.map c3 lo)), (1, .sl (List.map c3 hi)), (5, .own 1005 0), (6, .own 1006 0), (7, .i .i64 ((0 : Int)))], [(1005, ⟨0, 3, .row 1 (List.map c3 [])⟩), (1006, ⟨0, 3, .row 1 (List.map c3 [])⟩)]⟩) (by kernel_rfl) ?_
  refine st_loop (X := Int × List Int × List Int) (fun x => ⟨[(0, .sl (List.map c3 lo)), (1, .sl (List.map c3 hi)), (5, .own 1005 0), (6, .own 1006 0), (7, .i .i64 (x.fst))], [(1005, ⟨0, 3, .row 1 (List.map c3 x.snd.fst)⟩), (1006, ⟨0, 3, .row 1 (List.map c3 x.snd.snd)⟩)]⟩) (fun x ↦ decTa lo x.fst x.snd.fst x.snd.snd) (fun x ↦ invTa lo hi x.fst x.snd.fst x.snd.snd) [0, 1, 5, 6, 7] [1005, 1006] (((0 : Int), [], [])) (by kernel_rfl) (by kernel_rfl) (show invTa lo hi (0 : Int) [] [] from ?g0) ?_; rotate_left 1
  rintro ⟨i_0, a_1, b_2⟩ h_3
  obtain ⟨h_4, h_5, h_6, h_7, h_8, h_9⟩ : (0 : Int) ≤ i_0 ∧ i_0 ≤ (↑lo.length : Int) ∧ (↑a_1.length : Int) ≤ i_0 ∧ (↑b_2.length : Int) = (↑a_1.length : Int) ∧ isIns lo hi i_0 a_1 ∧ isOuts lo hi i_0 b_2 := h_3
  refine sq ?_
  refine sq ?_
  refine rg (A := _ ∧ (AV.b (decide (i_0 < (↑lo.length : Int))) = AV.b (decide (i_0 < (↑lo.length : Int))))) cx [(2, { tell := some (.i .i64 ((↑lo.length : Int))) }), (3, { tell := some (.b (decide (i_0 < (↑lo.length : Int)))) })] [0, 1, 5, 6, 7, 17] [1005, 1006] ⟨(told_len c3 lo), (by kernel_rfl)⟩ ?_
  refine sn ?_
  refine st_dec (i_0 < (↑lo.length : Int)) (by kernel_rfl) (by kernel_rfl) (fun h_10 => ?_) (fun h_10 => ?_)
  refine st_skip (by kernel_rfl) ?_
  refine sn ?_
  refine sq ?_
  refine st_block 1 (by kernel_rfl) ?_
  refine sq ?_
  refine ra (A := ((0 : Int) ≤ i_0) ∧ ((List.map c3 lo)[i_0.toNat]? = some (c3 lo[i_0.toNat]!)) ∧ ((c3 lo[i_0.toNat]!).length = (1 : Nat)) ∧ (AV.i IntKind.i64 (if (1 : Int) > lo[i_0.toNat]! then (1 : Int) else lo[i_0.toNat]!) = AV.i IntKind.i64 (max lo[i_0.toNat]! (1 : Int))) ∧ ((0 : Int) ≤ i_0) ∧ ((List.map c3 hi)[i_0.toNat]? = some (c3 hi[i_0.toNat]!)) ∧ ((c3 hi[i_0.toNat]!).length = (1 : Nat)) ∧ (AV.i IntKind.i64 (if (1000000000 : Int) < hi[i_0.toNat]! then (1000000000 : Int) else hi[i_0.toNat]!) = AV.i IntKind.i64 (min hi[i_0.toNat]! (1000000000 : Int)))) cx [(2, { row := (c3 lo[i_0.toNat]!) }), (4, { tell := some (.i .i64 (max lo[i_0.toNat]! (1 : Int))) }), (7, { row := (c3 hi[i_0.toNat]!) }), (9, { tell := some (.i .i64 (min hi[i_0.toNat]! (1000000000 : Int))) })] [0, 1, 5, 6, 7, 8, 9] [1005, 1006] ⟨(by (with_reducible assumption)), (by (with_reducible refine get_map ?_; omega)), (by kernel_rfl), (told_max), (by (with_reducible assumption)), (by (with_reducible refine get_map ?_; omega)), (by kernel_rfl), (told_min)⟩ ?_
  refine sn ?_
  refine sq ?_
  refine rg (A := (AV.b (decide (max lo[i_0.toNat]! (1 : Int) ≤ min hi[i_0.toNat]! (1000000000 : Int))) = AV.b (decide (max lo[i_0.toNat]! (1 : Int) ≤ min hi[i_0.toNat]! (1000000000 : Int))))) cx [(2, { tell := some (.b (decide (max lo[i_0.toNat]! (1 : Int) ≤ min hi[i_0.toNat]! (1000000000 : Int)))) })] [0, 1, 5, 6, 7, 8, 9, 32] [1005, 1006] (by kernel_rfl) ?_
  refine sn ?_
  refine st_dec (max lo[i_0.toNat]! (1 : Int) ≤ min hi[i_0.toNat]! (1000000000 : Int)) (by kernel_rfl) (by kernel_rfl) (fun h_11 => ?_) (fun h_11 => ?_)
  refine sq ?_
  refine rg (A := (3 = (3 : Nat)) ∧ ((1 : Nat) = 1) ∧ ([AV.i IntKind.i64 (0 : Int)].length = (1 : Nat)) ∧ (∀ (r : List AV), r ∈ List.map c3 [max lo[i_0.toNat]! (1 : Int)] → r.length = 1) ∧ ((List.map c3 a_1).length + (List.map c3 [max lo[i_0.toNat]! (1 : Int)]).length ≤ maxLen) ∧ (((List.map c3 a_1).length + (List.map c3 [max lo[i_0.toNat]! (1 : Int)]).length) * (8 : Nat) ≤ (140737488355328 : Nat)) ∧ (List.map c3 a_1 ++ List.map c3 [max lo[i_0.toNat]! (1 : Int)] = List.map c3 (a_1 ++ [max lo[i_0.toNat]! (1 : Int)]))) cx [(3, { rows := some (List.map c3 (a_1 ++ [max lo[i_0.toNat]! (1 : Int)])) })] [0, 1, 5, 6, 7, 9] [1005, 1006] ⟨(by kernel_rfl), (by kernel_rfl), (by kernel_rfl), (by (with_reducible refine len_map (fun _ => ?_) _; kernel_rfl)), (by (simp only [Go.maxLen, List.length_map, List.length_append, List.length_cons, List.length_nil]; omega)), (by (simp only [Go.maxLen, List.length_map, List.length_append, List.length_cons, List.length_nil]; omega)), (by (with_reducible refine app_map ?_; kernel_rfl))⟩ ?_
  refine sn ?_
  refine rg (A := (AV.i IntKind.i64 (IntKind.i64.wrap (min hi[i_0.toNat]! (1000000000 : Int) + (1 : Int))) = AV.i IntKind.i64 (min hi[i_0.toNat]! (1000000000 : Int) + (1 : Int))) ∧ (3 = (3 : Nat)) ∧ ((1 : Nat) = 1) ∧ ([AV.i IntKind.i64 (0 : Int)].length = (1 : Nat)) ∧ (∀ (r : List AV), r ∈ List.map c3 [min hi[i_0.toNat]! (1000000000 : Int) + (1 : Int)] → r.length = 1) ∧ ((List.map c3 b_2).length + (List.map c3 [min hi[i_0.toNat]! (1000000000 : Int) + (1 : Int)]).length ≤ maxLen) ∧ (((List.map c3 b_2).length + (List.map c3 [min hi[i_0.toNat]! (1000000000 : Int) + (1 : Int)]).length) * (8 : Nat) ≤ (140737488355328 : Nat)) ∧ (List.map c3 b_2 ++ List.map c3 [min hi[i_0.toNat]! (1000000000 : Int) + (1 : Int)] = List.map c3 (b_2 ++ [min hi[i_0.toNat]! (1000000000 : Int) + (1 : Int)]))) cx [(2, { tell := some (.i .i64 (min hi[i_0.toNat]! (1000000000 : Int) + (1 : Int))) }), (4, { rows := some (List.map c3 (b_2 ++ [min hi[i_0.toNat]! (1000000000 : Int) + (1 : Int)])) })] [0, 1, 5, 6, 7] [1005, 1006] ⟨(told_i64 (by omega) (by omega)), (by kernel_rfl), (by kernel_rfl), (by kernel_rfl), (by (with_reducible refine len_map (fun _ => ?_) _; kernel_rfl)), (by (simp only [Go.maxLen, List.length_map, List.length_append, List.length_cons, List.length_nil]; omega)), (by (simp only [Go.maxLen, List.length_map, List.length_append, List.length_cons, List.length_nil]; omega)), (by (with_reducible refine app_map ?_; kernel_rfl))⟩ ?_
  refine q_blk_normal ?_
  refine sn ?_
  refine rg (A := (AV.i IntKind.i64 (IntKind.i64.wrap (i_0 + (1 : Int))) = AV.i IntKind.i64 (i_0 + (1 : Int)))) cx [(1, { tell := some (.i .i64 (i_0 + (1 : Int))) })] [0, 1, 5, 6, 7] [1005, 1006] (told_i64 (by omega) (by omega)) ?_
  refine sn ?_
  refine loop_next ((i_0 + (1 : Int), a_1 ++ [max lo[i_0.toNat]! (1 : Int)], b_2 ++ [min hi[i_0.toNat]! (1000000000 : Int) + (1 : Int)])) (by kernel_rfl) (show ((↑lo.length : Int) - (i_0 + (1 : Int))).toNat < ((↑lo.length : Int) - i_0).toNat from (by omega)) (show invTa lo hi (i_0 + (1 : Int)) (a_1 ++ [max lo[i_0.toNat]! (1 : Int)]) (b_2 ++ [min hi[i_0.toNat]! (1000000000 : Int) + (1 : Int)]) from ?g1); rotate_left 1
  refine st_skip (by kernel_rfl) ?_
  refine q_blk_normal ?_
  refine sn ?_
  refine rg (A := (AV.i IntKind.i64 (IntKind.i64.wrap (i_0 + (1 : Int))) = AV.i IntKind.i64 (i_0 + (1 : Int)))) cx [(1, { tell := some (.i .i64 (i_0 + (1 : Int))) })] [0, 1, 5, 6, 7] [1005, 1006] (told_i64 (by omega) (by omega)) ?_
  refine sn ?_
  refine loop_next ((i_0 + (1 : Int), a_1, b_2)) (by kernel_rfl) (show ((↑lo.length : Int) - (i_0 + (1 : Int))).toNat < ((↑lo.length : Int) - i_0).toNat from (by omega)) (show invTa lo hi (i_0 + (1 : Int)) a_1 b_2 from ?g2); rotate_left 1
  refine st_exit 0 (by kernel_rfl) ?_
  refine q_seq_exit ?_
  refine q_seq_exit ?_
  refine q_blk_hit ?_
  refine sn ?_
  refine sq ?_
  refine rg (A := _) cx [(1, { val := some (.sl (List.map c3 (a_1.mergeSort leI))) })] [5, 6] [1006] (con69 (a_1) (by omega)) ?_
  refine sn ?_
  refine sq ?_
  refine rg (A := _) cx [(1, { val := some (.sl (List.map c3 (b_2.mergeSort leI))) })] [5, 6] [] (con69 (b_2) (by omega)) ?_
  refine sn ?_
  refine sq ?_
  refine rg (A := True) cx [] [5, 6, 10] [] trivial ?_
  refine sn ?_
  refine sq ?_
  refine rg (A := True) cx [] [5, 6, 10, 11, 12] [] trivial ?_
  refine sn ?_
  refine sq ?_
  refine sq ?_
  refine rg (A := True) cx [] [5, 6, 10, 11, 12, 13] [] trivial ?_
  refine sn ?_
  refine st_block 2 (by kernel_rfl) ?_
  refine awp_adopt 10 1010 3 1 (σ' := ⟨[(5, .sl (List.map c3 (a_1.mergeSort leI))), (6, .sl (List.map c3 (b_2.mergeSort leI))), (10, .own 1010 0), (11, .i .i64 ((0 : Int))), (12, .i .i64 ((0 : Int))), (13, .i .i64 ((0 : Int)))], [(1010, ⟨0, 3, .row 1 (List.map c3 [])⟩)]⟩) (by kernel_rfl) ?_
  refine st_loop (X := Int × Int × Int × List Int) (fun x => ⟨[(5, .sl (List.map c3 (a_1.mergeSort leI))), (6, .sl (List.map c3 (b_2.mergeSort leI))), (10, .own 1010 0), (11, .i .i64 (x.fst)), (12, .i .i64 (x.snd.fst)), (13, .i .i64 (x.snd.snd.fst))], [(1010, ⟨0, 3, .row 1 (List.map c3 x.snd.snd.snd)⟩)]⟩) (fun x ↦ decTb (a_1.mergeSort leI) (b_2.mergeSort leI) x.fst x.snd.fst x.snd.snd.fst x.snd.snd.snd) (fun x ↦ invTb (a_1.mergeSort leI) (b_2.mergeSort leI) x.fst x.snd.fst x.snd.snd.fst x.snd.snd.snd) [5, 6, 10, 11, 12, 13] [1010] (((0 : Int), (0 : Int), (0 : Int), [])) (by kernel_rfl) (by kernel_rfl) (show invTb (a_1.mergeSort leI) (b_2.mergeSort leI) (0 : Int) (0 : Int) (0 : Int) [] from ?g3) ?_; rotate_left 1
  rintro ⟨d_12, j_13, i_14, t_15⟩ h_16
  obtain ⟨h_17, h_18, h_19, h_20, h_21, h_22, h_23⟩ : (0 : Int) ≤ i_14 ∧ i_14 ≤ (↑(a_1.mergeSort leI).length : Int) ∧ (0 : Int) ≤ j_13 ∧ j_13 ≤ (↑(b_2.mergeSort leI).length : Int) ∧ d_12 = i_14 - j_13 ∧ (↑t_15.length : Int) ≤ i_14 + j_13 ∧ isSw (a_1.mergeSort leI) (b_2.mergeSort leI) i_14 j_13 t_15 := h_16
  refine sq ?_
  refine sq ?_
  refine st_join (σ' := ⟨[(5, .sl (List.map c3 (a_1.mergeSort leI))), (6, .sl (List.map c3 (b_2.mergeSort leI))), (10, .own 1010 0), (11, .i .i64 (d_12)), (12, .i .i64 (j_13)), (13, .i .i64 (i_14)), (55, .b (decide (i_14 < (↑(a_1.mergeSort leI).length : Int) ∨ j_13 < (↑(b_2.mergeSort leI).length : Int))))], [(1010, ⟨0, 3, .row 1 (List.map c3 t_15)⟩)]⟩) ?_ ?_
  refine st_split (i_14 < (↑(a_1.mergeSort leI).length : Int)) (fun h_25 => ?_) (fun h_25 => ?_)
  refine rg (A := _ ∧ _ ∧ (AV.b true = AV.b (decide (i_14 < (↑(a_1.mergeSort leI).length : Int) ∨ j_13 < (↑(b_2.mergeSort leI).length : Int))))) cx [(2, { tell := some (.i .i64 ((↑(a_1.mergeSort leI).length : Int))) }), (3, { tell := some (.b (true)) }), (9, { tell := some (.b (decide (i_14 < (↑(a_1.mergeSort leI).length : Int) ∨ j_13 < (↑(b_2.mergeSort leI).length : Int)))) })] [5, 6, 10, 11, 12, 13, 55] [1010] ⟨(told_len c3 (a_1.mergeSort leI)), (told_true h_25), (by simp only [eq_true h_25, told_simp1, told_simp2, and_true, true_and, and_false, false_and, or_true, true_or, or_false, false_or, not_true_eq_false, not_false_eq_true, decide_true, decide_false, Bool.decide_eq_true])⟩ ?_
  exact ⟨rfl, by kernel_rfl⟩
  refine rg (A := _ ∧ _ ∧ _ ∧ (AV.b (decide (j_13 < (↑(b_2.mergeSort leI).length : Int))) = AV.b (decide (j_13 < (↑(b_2.mergeSort leI).length : Int)))) ∧ (AV.b (decide (j_13 < (↑(b_2.mergeSort leI).length : Int))) = AV.b (decide (i_14 < (↑(a_1.mergeSort leI).length : Int) ∨ j_13 < (↑(b_2.mergeSort leI).length : Int))))) cx [(2, { tell := some (.i .i64 ((↑(a_1.mergeSort leI).length : Int))) }), (3, { tell := some (.b (false)) }), (7, { tell := some (.i .i64 ((↑(b_2.mergeSort leI).length : Int))) }), (8, { tell := some (.b (decide (j_13 < (↑(b_2.mergeSort leI).length : Int)))) }), (9, { tell := some (.b (decide (i_14 < (↑(a_1.mergeSort leI).length : Int) ∨ j_13 < (↑(b_2.mergeSort leI).length : Int)))) })] [5, 6, 10, 11, 12, 13, 55] [1010] ⟨(told_len c3 (a_1.mergeSort leI)), (told_false h_25), (told_len c3 (b_2.mergeSort leI)), (by kernel_rfl), (by simp only [eq_false h_25, told_simp1, told_simp2, and_true, true_and, and_false, false_and, or_true, true_or, or_false, false_or, not_true_eq_false, not_false_eq_true, decide_true, decide_false, Bool.decide_eq_true])⟩ ?_
  exact ⟨rfl, by kernel_rfl⟩
  refine sn ?_
  refine st_dec (i_14 < (↑(a_1.mergeSort leI).length : Int) ∨ j_13 < (↑(b_2.mergeSort leI).length : Int)) (by kernel_rfl) (by kernel_rfl) (fun h_26 => ?_) (fun h_26 => ?_)
  refine st_skip (by kernel_rfl) ?_
  refine sn ?_
  refine st_block 3 (by kernel_rfl) ?_
  refine sq ?_
  refine st_join (σ' := ⟨[(5, .sl (List.map c3 (a_1.mergeSort leI))), (6, .sl (List.map c3 (b_2.mergeSort leI))), (10, .own 1010 0), (11, .i .i64 (d_12)), (12, .i .i64 (j_13)), (13, .i .i64 (i_14)), (70, .b (decide (i_14 < (↑(a_1.mergeSort leI).length : Int) ∧ (a_1.mergeSort leI)[i_14.toNat]! ≤ (b_2.mergeSort leI)[j_13.toNat]!)))], [(1010, ⟨0, 3, .row 1 (List.map c3 t_15)⟩)]⟩) ?_ ?_
  refine st_split (i_14 < (↑(a_1.mergeSort leI).length : Int)) (fun h_28 => ?_) (fun h_28 => ?_)
  refine ra (A := _ ∧ _ ∧ ((0 : Int) ≤ i_14) ∧ ((List.map c3 (a_1.mergeSort leI))[i_14.toNat]? = some (c3 (a_1.mergeSort leI)[i_14.toNat]!)) ∧ ((c3 (a_1.mergeSort leI)[i_14.toNat]!).length = (1 : Nat)) ∧ ((0 : Int) ≤ j_13) ∧ ((List.map c3 (b_2.mergeSort leI))[j_13.toNat]? = some (c3 (b_2.mergeSort leI)[j_13.toNat]!)) ∧ ((c3 (b_2.mergeSort leI)[j_13.toNat]!).length = (1 : Nat)) ∧ (AV.b (decide ((a_1.mergeSort leI)[i_14.toNat]! ≤ (b_2.mergeSort leI)[j_13.toNat]!)) = AV.b (decide ((a_1.mergeSort leI)[i_14.toNat]! ≤ (b_2.mergeSort leI)[j_13.toNat]!))) ∧ (AV.b (decide ((a_1.mergeSort leI)[i_14.toNat]! ≤ (b_2.mergeSort leI)[j_13.toNat]!)) = AV.b (decide (i_14 < (↑(a_1.mergeSort leI).length : Int) ∧ (a_1.mergeSort leI)[i_14.toNat]! ≤ (b_2.mergeSort leI)[j_13.toNat]!)))) cx [(2, { tell := some (.i .i64 ((↑(a_1.mergeSort leI).length : Int))) }), (3, { tell := some (.b (true)) }), (7, { row := (c3 (a_1.mergeSort leI)[i_14.toNat]!) }), (11, { row := (c3 (b_2.mergeSort leI)[j_13.toNat]!) }), (13, { tell := some (.b (decide ((a_1.mergeSort leI)[i_14.toNat]! ≤ (b_2.mergeSort leI)[j_13.toNat]!))) }), (14, { tell := some (.b (decide (i_14 < (↑(a_1.mergeSort leI).length : Int) ∧ (a_1.mergeSort leI)[i_14.toNat]! ≤ (b_2.mergeSort leI)[j_13.toNat]!))) })] [5, 6, 10, 11, 12, 13, 70] [1010] ⟨(told_len c3 (a_1.mergeSort leI)), (told_true h_28), (by (with_reducible assumption)), (by (with_reducible refine get_map ?_; omega)), (by kernel_rfl), (by (with_reducible assumption)), ?g4, (by kernel_rfl), (by kernel_rfl), (by simp only [eq_true h_28, told_simp1, told_simp2, and_true, true_and, and_false, false_and, or_true, true_or, or_false, false_or, not_true_eq_false, not_false_eq_true, decide_true, decide_false, Bool.decide_eq_true])⟩ ?_; rotate_left 1
  exact ⟨rfl, by kernel_rfl⟩
  refine ra (A := _ ∧ _ ∧ (AV.b false = AV.b (decide (i_14 < (↑(a_1.mergeSort leI).length : Int) ∧ (a_1.mergeSort leI)[i_14.toNat]! ≤ (b_2.mergeSort leI)[j_13.toNat]!)))) cx [(2, { tell := some (.i .i64 ((↑(a_1.mergeSort leI).length : Int))) }), (3, { tell := some (.b (false)) }), (14, { tell := some (.b (decide (i_14 < (↑(a_1.mergeSort leI).length : Int) ∧ (a_1.mergeSort leI)[i_14.toNat]! ≤ (b_2.mergeSort leI)[j_13.toNat]!))) })] [5, 6, 10, 11, 12, 13, 70] [1010] ⟨(told_len c3 (a_1.mergeSort leI)), (told_false h_28), (by simp only [eq_false h_28, told_simp1, told_simp2, and_true, true_and, and_false, false_and, or_true, true_or, or_false, false_or, not_true_eq_false, not_false_eq_true, decide_true, decide_false, Bool.decide_eq_true])⟩ ?_
  exact ⟨rfl, by kernel_rfl⟩
  refine sn ?_
  refine st_dec (i_14 < (↑(a_1.mergeSort leI).length : Int) ∧ (a_1.mergeSort leI)[i_14.toNat]! ≤ (b_2.mergeSort leI)[j_13.toNat]!) (by kernel_rfl) (by kernel_rfl) (fun h_29 => ?_) (fun h_29 => ?_)
  refine sq ?_
  refine sq ?_
  refine rg (A := (AV.b (d_12 == (0 : Int)) = AV.b (decide (d_12 = (0 : Int))))) cx [(1, { tell := some (.b (decide (d_12 = (0 : Int)))) })] [5, 6, 10, 11, 12, 13, 72] [1010] (by kernel_rfl) ?_
  refine sn ?_
  refine st_dec (d_12 = (0 : Int)) (by kernel_rfl) (by kernel_rfl) (fun h_30 => ?_) (fun h_30 => ?_)
  refine rg (A := ((0 : Int) ≤ i_14) ∧ ((List.map c3 (a_1.mergeSort leI))[i_14.toNat]? = some (c3 (a_1.mergeSort leI)[i_14.toNat]!)) ∧ ((c3 (a_1.mergeSort leI)[i_14.toNat]!).length = (1 : Nat)) ∧ (3 = (3 : Nat)) ∧ ((1 : Nat) = 1) ∧ ([AV.i IntKind.i64 (0 : Int)].length = (1 : Nat)) ∧ (∀ (r : List AV), r ∈ List.map c3 [(a_1.mergeSort leI)[i_14.toNat]!] → r.length = 1) ∧ ((List.map c3 t_15).length + (List.map c3 [(a_1.mergeSort leI)[i_14.toNat]!]).length ≤ maxLen) ∧ (((List.map c3 t_15).length + (List.map c3 [(a_1.mergeSort leI)[i_14.toNat]!]).length) * (8 : Nat) ≤ (140737488355328 : Nat)) ∧ (List.map c3 t_15 ++ List.map c3 [(a_1.mergeSort leI)[i_14.toNat]!] = List.map c3 (t_15 ++ [(a_1.mergeSort leI)[i_14.toNat]!]))) cx [(3, { row := (c3 (a_1.mergeSort leI)[i_14.toNat]!) }), (6, { rows := some (List.map c3 (t_15 ++ [(a_1.mergeSort leI)[i_14.toNat]!])) })] [5, 6, 10, 11, 12, 13] [1010] ⟨(by (with_reducible assumption)), (by (with_reducible refine get_map ?_; omega)), (by kernel_rfl), (by kernel_rfl), (by kernel_rfl), (by kernel_rfl), (by (with_reducible refine len_map (fun _ => ?_) _; kernel_rfl)), ?g5, ?g6, (by (with_reducible refine app_map ?_; kernel_rfl))⟩ ?_; rotate_left 2
  refine sn ?_
  refine sq ?_
  refine rg (A := (AV.i IntKind.i64 (IntKind.i64.wrap (d_12 + (1 : Int))) = AV.i IntKind.i64 (d_12 + (1 : Int)))) cx [(1, { tell := some (.i .i64 (d_12 + (1 : Int))) })] [5, 6, 10, 11, 12, 13] [1010] (told_i64 (by omega) (by omega)) ?_
  refine sn ?_
  refine rg (A := (AV.i IntKind.i64 (IntKind.i64.wrap (i_14 + (1 : Int))) = AV.i IntKind.i64 (i_14 + (1 : Int)))) cx [(1, { tell := some (.i .i64 (i_14 + (1 : Int))) })] [5, 6, 10, 11, 12, 13] [1010] (told_i64 (by omega) ?g7) ?_; rotate_left 1
  refine q_blk_normal ?_
  refine sn ?_
  refine loop_next ((d_12 + (1 : Int), j_13, i_14 + (1 : Int), t_15 ++ [(a_1.mergeSort leI)[i_14.toNat]!])) (by kernel_rfl) (show ((↑(a_1.mergeSort leI).length : Int) + (↑(b_2.mergeSort leI).length : Int) - (i_14 + (1 : Int)) - j_13).toNat < ((↑(a_1.mergeSort leI).length : Int) + (↑(b_2.mergeSort leI).length : Int) - i_14 - j_13).toNat from (by omega)) (show invTb (a_1.mergeSort leI) (b_2.mergeSort leI) (d_12 + (1 : Int)) j_13 (i_14 + (1 : Int)) (t_15 ++ [(a_1.mergeSort leI)[i_14.toNat]!]) from ?g8); rotate_left 1
  refine st_skip (by kernel_rfl) ?_
  refine sn ?_
  refine sq ?_
  refine rg (A := (AV.i IntKind.i64 (IntKind.i64.wrap (d_12 + (1 : Int))) = AV.i IntKind.i64 (d_12 + (1 : Int)))) cx [(1, { tell := some (.i .i64 (d_12 + (1 : Int))) })] [5, 6, 10, 11, 12, 13] [1010] (told_i64 ?g9 ?g10) ?_; rotate_left 2
  refine sn ?_
  refine rg (A := (AV.i IntKind.i64 (IntKind.i64.wrap (i_14 + (1 : Int))) = AV.i IntKind.i64 (i_14 + (1 : Int)))) cx [(1, { tell := some (.i .i64 (i_14 + (1 : Int))) })] [5, 6, 10, 11, 12, 13] [1010] (told_i64 (by omega) ?g11) ?_; rotate_left 1
  refine q_blk_normal ?_
  refine sn ?_
  refine loop_next ((d_12 + (1 : Int), j_13, i_14 + (1 : Int), t_15)) (by kernel_rfl) (show ((↑(a_1.mergeSort leI).length : Int) + (↑(b_2.mergeSort leI).length : Int) - (i_14 + (1 : Int)) - j_13).toNat < ((↑(a_1.mergeSort leI).length : Int) + (↑(b_2.mergeSort leI).length : Int) - i_14 - j_13).toNat from (by omega)) (show invTb (a_1.mergeSort leI) (b_2.mergeSort leI) (d_12 + (1 : Int)) j_13 (i_14 + (1 : Int)) t_15 from ?g12); rotate_left 1
  refine sq ?_
  refine rg (A := (AV.i IntKind.i64 (IntKind.i64.wrap (d_12 - (1 : Int))) = AV.i IntKind.i64 (d_12 - (1 : Int)))) cx [(1, { tell := some (.i .i64 (d_12 - (1 : Int))) })] [5, 6, 10, 11, 12, 13] [1010] (told_i64 ?g13 ?g14) ?_; rotate_left 2
  refine sn ?_
  refine sq ?_
  refine sq ?_
  refine rg (A := (AV.b (d_12 - (1 : Int) == (0 : Int)) = AV.b (decide (d_12 - (1 : Int) = (0 : Int))))) cx [(1, { tell := some (.b (decide (d_12 - (1 : Int) = (0 : Int)))) })] [5, 6, 10, 11, 12, 13, 87] [1010] (by kernel_rfl) ?_
  refine sn ?_
  refine st_dec (d_12 - (1 : Int) = (0 : Int)) (by kernel_rfl) (by kernel_rfl) (fun h_31 => ?_) (fun h_31 => ?_)
  refine rg (A := ((0 : Int) ≤ j_13) ∧ ((List.map c3 (b_2.mergeSort leI))[j_13.toNat]? = some (c3 (b_2.mergeSort leI)[j_13.toNat]!)) ∧ ((c3 (b_2.mergeSort leI)[j_13.toNat]!).length = (1 : Nat)) ∧ (3 = (3 : Nat)) ∧ ((1 : Nat) = 1) ∧ ([AV.i IntKind.i64 (0 : Int)].length = (1 : Nat)) ∧ (∀ (r : List AV), r ∈ List.map c3 [(b_2.mergeSort leI)[j_13.toNat]!] → r.length = 1) ∧ ((List.map c3 t_15).length + (List.map c3 [(b_2.mergeSort leI)[j_13.toNat]!]).length ≤ maxLen) ∧ (((List.map c3 t_15).length + (List.map c3 [(b_2.mergeSort leI)[j_13.toNat]!]).length) * (8 : Nat) ≤ (140737488355328 : Nat)) ∧ (List.map c3 t_15 ++ List.map c3 [(b_2.mergeSort leI)[j_13.toNat]!] = List.map c3 (t_15 ++ [(b_2.mergeSort leI)[j_13.toNat]!]))) cx [(3, { row := (c3 (b_2.mergeSort leI)[j_13.toNat]!) }), (6, { rows := some (List.map c3 (t_15 ++ [(b_2.mergeSort leI)[j_13.toNat]!])) })] [5, 6, 10, 11, 12, 13] [1010] ⟨(by (with_reducible assumption)), ?g15, (by kernel_rfl), (by kernel_rfl), (by kernel_rfl), (by kernel_rfl), (by (with_reducible refine len_map (fun _ => ?_) _; kernel_rfl)), ?g16, ?g17, (by (with_reducible refine app_map ?_; kernel_rfl))⟩ ?_; rotate_left 3
  refine sn ?_
  refine rg (A := (AV.i IntKind.i64 (IntKind.i64.wrap (j_13 + (1 : Int))) = AV.i IntKind.i64 (j_13 + (1 : Int)))) cx [(1, { tell := some (.i .i64 (j_13 + (1 : Int))) })] [5, 6, 10, 11, 12, 13] [1010] (told_i64 (by omega) ?g18) ?_; rotate_left 1
  refine q_blk_normal ?_
  refine sn ?_
  refine loop_next ((d_12 - (1 : Int), j_13 + (1 : Int), i_14, t_15 ++ [(b_2.mergeSort leI)[j_13.toNat]!])) (by kernel_rfl) (show ((↑(a_1.mergeSort leI).length : Int) + (↑(b_2.mergeSort leI).length : Int) - i_14 - (j_13 + (1 : Int))).toNat < ((↑(a_1.mergeSort leI).length : Int) + (↑(b_2.mergeSort leI).length : Int) - i_14 - j_13).toNat from (by omega)) (show invTb (a_1.mergeSort leI) (b_2.mergeSort leI) (d_12 - (1 : Int)) (j_13 + (1 : Int)) i_14 (t_15 ++ [(b_2.mergeSort leI)[j_13.toNat]!]) from ?g19); rotate_left 1
  refine st_skip (by kernel_rfl) ?_
  refine sn ?_
  refine rg (A := (AV.i IntKind.i64 (IntKind.i64.wrap (j_13 + (1 : Int))) = AV.i IntKind.i64 (j_13 + (1 : Int)))) cx [(1, { tell := some (.i .i64 (j_13 + (1 : Int))) })] [5, 6, 10, 11, 12, 13] [1010] (told_i64 (by omega) ?g20) ?_; rotate_left 1
  refine q_blk_normal ?_
  refine sn ?_
  refine loop_next ((d_12 - (1 : Int), j_13 + (1 : Int), i_14, t_15)) (by kernel_rfl) (show ((↑(a_1.mergeSort leI).length : Int) + (↑(b_2.mergeSort leI).length : Int) - i_14 - (j_13 + (1 : Int))).toNat < ((↑(a_1.mergeSort leI).length : Int) + (↑(b_2.mergeSort leI).length : Int) - i_14 - j_13).toNat from (by omega)) (show invTb (a_1.mergeSort leI) (b_2.mergeSort leI) (d_12 - (1 : Int)) (j_13 + (1 : Int)) i_14 t_15 from ?g21); rotate_left 1
  refine st_exit 2 (by kernel_rfl) ?_
  refine q_seq_exit ?_
  refine q_seq_exit ?_
  refine q_blk_hit ?_
  refine sn ?_
  refine sq ?_
  refine rg (A := True) cx [] [4] [1010] trivial ?_
  refine sn ?_
  refine st_ret (by kernel_rfl) ?_
  refine q_ret (r := .sl (List.map c3 t_15)) (obl := []) (by kernel_rfl) trivial (AVle.eq (show AV.sl (List.map c3 t_15) = AV.sl (List.map c3 (turnsR (nrm (zipR lo hi)))) from ?g22)); rotate_left 1
  rotate_left
  revert i_0 a_1 b_2 h_4 h_5 h_6 h_7 h_8 h_9 h_10 h_11; rotate_left
  revert i_0 a_1 b_2 h_4 h_5 h_6 h_7 h_8 h_9 h_10 h_11; rotate_left
  revert i_0 a_1 b_2 h_4 h_5 h_6 h_7 h_8 h_9 h_10; rotate_left
  revert i_0 a_1 b_2 h_4 h_5 h_6 h_7 h_8 h_9 h_10 d_12 j_13 i_14 t_15 h_17 h_18 h_19 h_20 h_21 h_22 h_23 h_26 h_28; rotate_left
  revert i_0 a_1 b_2 h_4 h_5 h_6 h_7 h_8 h_9 h_10 d_12 j_13 i_14 t_15 h_17 h_18 h_19 h_20 h_21 h_22 h_23 h_26 h_29 h_30; rotate_left
  revert i_0 a_1 b_2 h_4 h_5 h_6 h_7 h_8 h_9 h_10 d_12 j_13 i_14 t_15 h_17 h_18 h_19 h_20 h_21 h_22 h_23 h_26 h_29 h_30; rotate_left
  revert i_0 a_1 b_2 h_4 h_5 h_6 h_7 h_8 h_9 h_10 d_12 j_13 i_14 t_15 h_17 h_18 h_19 h_20 h_21 h_22 h_23 h_26 h_29 h_30; rotate_left
  revert i_0 a_1 b_2 h_4 h_5 h_6 h_7 h_8 h_9 h_10 d_12 j_13 i_14 t_15 h_17 h_18 h_19 h_20 h_21 h_22 h_23 h_26 h_29 h_30; rotate_left
  revert i_0 a_1 b_2 h_4 h_5 h_6 h_7 h_8 h_9 h_10 d_12 j_13 i_14 t_15 h_17 h_18 h_19 h_20 h_21 h_22 h_23 h_26 h_29 h_30; rotate_left
  revert i_0 a_1 b_2 h_4 h_5 h_6 h_7 h_8 h_9 h_10 d_12 j_13 i_14 t_15 h_17 h_18 h_19 h_20 h_21 h_22 h_23 h_26 h_29 h_30; rotate_left
  revert i_0 a_1 b_2 h_4 h_5 h_6 h_7 h_8 h_9 h_10 d_12 j_13 i_14 t_15 h_17 h_18 h_19 h_20 h_21 h_22 h_23 h_26 h_29 h_30; rotate_left
  revert i_0 a_1 b_2 h_4 h_5 h_6 h_7 h_8 h_9 h_10 d_12 j_13 i_14 t_15 h_17 h_18 h_19 h_20 h_21 h_22 h_23 h_26 h_29 h_30; rotate_left
  revert i_0 a_1 b_2 h_4 h_5 h_6 h_7 h_8 h_9 h_10 d_12 j_13 i_14 t_15 h_17 h_18 h_19 h_20 h_21 h_22 h_23 h_26 h_29; rotate_left
  revert i_0 a_1 b_2 h_4 h_5 h_6 h_7 h_8 h_9 h_10 d_12 j_13 i_14 t_15 h_17 h_18 h_19 h_20 h_21 h_22 h_23 h_26 h_29; rotate_left
  revert i_0 a_1 b_2 h_4 h_5 h_6 h_7 h_8 h_9 h_10 d_12 j_13 i_14 t_15 h_17 h_18 h_19 h_20 h_21 h_22 h_23 h_26 h_29 h_31; rotate_left
  revert i_0 a_1 b_2 h_4 h_5 h_6 h_7 h_8 h_9 h_10 d_12 j_13 i_14 t_15 h_17 h_18 h_19 h_20 h_21 h_22 h_23 h_26 h_29 h_31; rotate_left
  revert i_0 a_1 b_2 h_4 h_5 h_6 h_7 h_8 h_9 h_10 d_12 j_13 i_14 t_15 h_17 h_18 h_19 h_20 h_21 h_22 h_23 h_26 h_29 h_31; rotate_left
  revert i_0 a_1 b_2 h_4 h_5 h_6 h_7 h_8 h_9 h_10 d_12 j_13 i_14 t_15 h_17 h_18 h_19 h_20 h_21 h_22 h_23 h_26 h_29 h_31; rotate_left
  revert i_0 a_1 b_2 h_4 h_5 h_6 h_7 h_8 h_9 h_10 d_12 j_13 i_14 t_15 h_17 h_18 h_19 h_20 h_21 h_22 h_23 h_26 h_29 h_31; rotate_left
  revert i_0 a_1 b_2 h_4 h_5 h_6 h_7 h_8 h_9 h_10 d_12 j_13 i_14 t_15 h_17 h_18 h_19 h_20 h_21 h_22 h_23 h_26 h_29 h_31; rotate_left
  revert i_0 a_1 b_2 h_4 h_5 h_6 h_7 h_8 h_9 h_10 d_12 j_13 i_14 t_15 h_17 h_18 h_19 h_20 h_21 h_22 h_23 h_26 h_29 h_31; rotate_left
  revert i_0 a_1 b_2 h_4 h_5 h_6 h_7 h_8 h_9 h_10 d_12 j_13 i_14 t_15 h_17 h_18 h_19 h_20 h_21 h_22 h_23 h_26; rotate_left
  case g0 => exact ⟨by omega, by omega, by simp, by simp, by simp [isIns, insR, keepR], by simp [isOuts, outsR, keepR]⟩
  case g1 => intro i a b h0 h1 h2 h3 h4 h5 h6 h7; have := isIns_in h h0 h6 h7 h4 h5; exact ⟨by omega, by omega, by simp only [List.length_append, List.length_cons, List.length_nil]; omega, by simp only [List.length_append, List.length_cons, List.length_nil]; omega, this.1, this.2⟩
  case g2 => intro i a b h0 h1 h2 h3 h4 h5 h6 h7; have := isIns_out h h0 h6 h7 h4 h5; exact ⟨by omega, by omega, by omega, by omega, this.1, this.2⟩
  case g3 => intro i a b h0 h1 h2 h3 h4 h5 h6; obtain ⟨e1, e2⟩ := isIns_end h h6 h4 h5; rw [e1, e2]; exact ⟨by omega, by omega, by omega, by omega, by omega, by simp, isSw_start _⟩
  case g4 => intro i a b h0 h1 h2 h3 h4 h5 h6 d j k t k0 k1 k2 k3 k4 k5 k6 k7 k8; have := isSw_len k0 k1 k2 k3 k6; have := k6.2.1; exact get_map (by omega)
  case g8 =>
    intro i a b h0 h1 h2 h3 h4 h5 h6 d j k t k0 k1 k2 k3 k4 k5 k6 k7 k8 k9
    have := isSw_in k0 k8.1 k2 k3 k8.2 k6
    rw [if_pos (by omega)] at this
    exact ⟨by omega, by omega, by omega, by omega, by omega, by simp only [List.length_append, List.length_cons, List.length_nil]; omega, this⟩
  case g12 =>
    intro i a b h0 h1 h2 h3 h4 h5 h6 d j k t k0 k1 k2 k3 k4 k5 k6 k7 k8 k9
    have := isSw_in k0 k8.1 k2 k3 k8.2 k6
    rw [if_neg (by omega)] at this
    exact ⟨by omega, by omega, by omega, by omega, by omega, by omega, this⟩
  case g15 => intro i a b h0 h1 h2 h3 h4 h5 h6 d j k t k0 k1 k2 k3 k4 k5 k6 k7 k8 k9; have := isSw_out k0 k1 k2 k3 k7 k8 k6; exact get_map (by omega)
  case g19 =>
    intro i a b h0 h1 h2 h3 h4 h5 h6 d j k t k0 k1 k2 k3 k4 k5 k6 k7 k8 k9
    obtain ⟨q1, q2, this⟩ := isSw_out k0 k1 k2 k3 k7 k8 k6
    rw [if_pos (by omega)] at this
    exact ⟨by omega, by omega, by omega, by omega, by omega, by simp only [List.length_append, List.length_cons, List.length_nil]; omega, this⟩
  case g21 =>
    intro i a b h0 h1 h2 h3 h4 h5 h6 d j k t k0 k1 k2 k3 k4 k5 k6 k7 k8 k9
    obtain ⟨q1, q2, this⟩ := isSw_out k0 k1 k2 k3 k7 k8 k6
    rw [if_neg (by omega)] at this
    exact ⟨by omega, by omega, by omega, by omega, by omega, by omega, this⟩
  case g22 =>
    intro i a b h0 h1 h2 h3 h4 h5 h6 d j k t k0 k1 k2 k3 k4 k5 k6 k7
    obtain ⟨e1, e2⟩ := isIns_end h h6 h4 h5
    rw [e1, e2] at k6 k7
    rw [isSw_end k7 k6, sweep_nrm]
  all_goals
    intros
    simp only [List.length_mergeSort, List.length_map, List.length_cons, List.length_nil, Go.maxLen] at *
    omega
end Go.Proofs.Ytaiepnaokhpmcaa
namespace Go.Proofs.Ytaiepnaokhpmcaa
open Go.E
set_option maxRecDepth 100000
set_option maxHeartbeats 4000000
def losT (T : Nat → List Run) (r : Nat) : List Int := (T r).map fun x => x.lo
def hisT (T : Nat → List Run) (r : Nat) : List Int := (T r).map fun x => x.hi
def c58 (s : Nat → List Int) : List AV := tabC c3 16 s
def tnS (U : Nat → List Run) (r : Nat) : List Int := turnsR (U r)
def zT (A B : Nat → List Int) (r : Nat) : List Run := zipR (A r) (B r)
def isLen (A B : Nat → List Int) : Prop := ∀ r : Nat, r < 16 → (A r).length = (B r).length
def invMa (ps : List Past) (i : Int) (A B : Nat → List Int) : Prop := 0 ≤ i ∧ i ≤ ps.length ∧ isLen A B ∧ isOpen ps i (zT A B)
def decMa (ps : List Past) (i : Int) (A B : Nat → List Int) : Nat := (ps.length - i).toNat
def invMb (ps : List Past) (i j : Int) (A B : Nat → List Int) : Prop := 0 ≤ j ∧ j ≤ (ps[i.toNat]!).vec.length ∧ j ≤ 16 ∧ isLen A B ∧ isOpenV ps i j (zT A B)
def decMb (ps : List Past) (i j : Int) (A B : Nat → List Int) : Nat := ((ps[i.toNat]!).vec.length - j).toNat
def invMc (ps : List Past) (i j : Int) (A B : Nat → List Int) : Prop := 0 ≤ j ∧ j ≤ (ps[i.toNat]!).cloud.length ∧ isLen A B ∧ isOpenC ps i j (zT A B)
def decMc (ps : List Past) (i j : Int) (A B : Nat → List Int) : Nat := ((ps[i.toNat]!).cloud.length - j).toNat
def isMean (U : Nat → List Run) (r : Int) (S : Nat → List Int) : Prop := ∀ k : Nat, (k : Int) < r → S k = tnS (nrmT U) k
def invMd (A2 B2 : Nat → List Int) (r : Int) (A B S : Nat → List Int) : Prop := A = A2 ∧ B = B2 ∧ 0 ≤ r ∧ r ≤ 16 ∧ isMean (zT A2 B2) r S
def decMd (r : Int) (A B S : Nat → List Int) : Nat := (16 - r).toNat
theorem zT_upd {A B : Nat → List Int} {k : Nat} {x y : Int} (h : (A k).length = (B k).length) (r : Nat) : zT (updF A k (A k ++ [x])) (updF B k (B k ++ [y])) r = updF (zT A B) k (zT A B k ++ [⟨x, y⟩]) r := by
  unfold zT updF
  by_cases e : r = k
  · rw [if_pos e, if_pos e, if_pos e]
    unfold zipR
    rw [List.zipWith_append h]
    rfl
  · rw [if_neg e, if_neg e, if_neg e]
theorem isLen_upd {A B : Nat → List Int} {k : Nat} {x y : Int} (h : isLen A B) : isLen (updF A k (A k ++ [x])) (updF B k (B k ++ [y])) := by
  intro r hr
  have := h r hr
  unfold updF
  by_cases e : r = k
  · rw [if_pos e, if_pos e, List.length_append, List.length_append]; subst e; simp only [List.length_cons, List.length_nil]; omega
  · rw [if_neg e, if_neg e]; exact this
theorem zT_len {A B : Nat → List Int} (h : isLen A B) {r : Nat} (hr : r < 16) : (A r).length = (zT A B r).length ∧ (B r).length = (zT A B r).length := by
  have := h r hr
  unfold zT zipR
  rw [List.length_zipWith]
  omega
theorem isMean_next {U : Nat → List Run} {r : Int} {S : Nat → List Int} (h0 : 0 ≤ r) (h : isMean U r S) : isMean U (r + 1) (updF S r.toNat (tnS (nrmT U) r.toNat)) := by
  intro k hk
  unfold updF
  by_cases e : k = r.toNat
  · rw [if_pos e, e]
  · rw [if_neg e]; exact h k (by omega)
theorem con46 (ps : List Past) (hb : totP ps * 16 ≤ 140737488351232) : Con Try.prog 46 [.sl (ps.map c25)] (.agg (c58 (tnS (nrmT (openT ps))))) :=
  by
  refine con_lens 0 (c25) (ps) (by kernel_rfl) Go.Proofs.Try.func46 (by kernel_rfl) fun hl_0 => ?_
  refine st_con tab_ok (by kernel_rfl) [.cell 2 58] 116 Go.Proofs.Try.func46 (by kernel_rfl) (by kernel_rfl) ?_
  intro e0 cx
  refine sq ?_
  refine rg (A := True) cx [] [0, 2] [2] trivial ?_
  refine sn ?_
  refine sq ?_
  refine rg (A := True) cx [] [0, 2, 3, 4] [2, 3, 4] trivial ?_
  refine sn ?_
  refine sq ?_
  refine sq ?_
  refine rg (A := True) cx [] [0, 2, 3, 4, 5] [2, 3, 4] trivial ?_
  refine sn ?_
  refine st_block 0 (by kernel_rfl) ?_
  refine awp_tabIn 3 3 1 100300 16 (σ' := ⟨[(0, .sl (List.map c25 ps)), (2, .ptr (2) (0) (0) (0)), (3, .ptr (3) (0) (0) (0)), (4, .ptr (4) (0) (0) (0)), (5, .i .i64 ((0 : Int)))], [(2, ⟨0, 58, .var [.nl, .nl, .nl, .nl, .nl, .nl, .nl, .nl, .nl, .nl, .nl, .nl, .nl, .nl, .nl, .nl]⟩), (3, ⟨0, 56, .var (ownsC 100300 16)⟩), (4, ⟨0, 56, .arr [.nl, .nl, .nl, .nl, .nl, .nl, .nl, .nl, .nl, .nl, .nl, .nl, .nl, .nl, .nl, .nl]⟩)] ++ tabRows 100300 3 1 16 (c3) (fun x ↦ [])⟩) (by kernel_rfl) ?_
  refine awp_tabIn 4 3 1 100400 16 (σ' := ⟨[(0, .sl (List.map c25 ps)), (2, .ptr (2) (0) (0) (0)), (3, .ptr (3) (0) (0) (0)), (4, .ptr (4) (0) (0) (0)), (5, .i .i64 ((0 : Int)))], [(2, ⟨0, 58, .var [.nl, .nl, .nl, .nl, .nl, .nl, .nl, .nl, .nl, .nl, .nl, .nl, .nl, .nl, .nl, .nl]⟩), (3, ⟨0, 56, .var (ownsC 100300 16)⟩), (4, ⟨0, 56, .var (ownsC 100400 16)⟩)] ++ tabRows 100300 3 1 16 (c3) (fun x ↦ []) ++ tabRows 100400 3 1 16 (c3) (fun x ↦ [])⟩) (by kernel_rfl) ?_
  refine st_loop (X := Int × (Nat → List Int) × (Nat → List Int)) (fun x => ⟨[(0, .sl (List.map c25 ps)), (2, .ptr (2) (0) (0) (0)), (3, .ptr (3) (0) (0) (0)), (4, .ptr (4) (0) (0) (0)), (5, .i .i64 (x.fst))], [(2, ⟨0, 58, .var [.nl, .nl, .nl, .nl, .nl, .nl, .nl, .nl, .nl, .nl, .nl, .nl, .nl, .nl, .nl, .nl]⟩), (3, ⟨0, 56, .var (ownsC 100300 16)⟩), (4, ⟨0, 56, .var (ownsC 100400 16)⟩)] ++ tabRows 100300 3 1 16 (c3) (x.snd.fst) ++ tabRows 100400 3 1 16 (c3) (x.snd.snd)⟩) (fun x ↦ decMa ps x.fst x.snd.fst x.snd.snd) (fun x ↦ invMa ps x.fst x.snd.fst x.snd.snd) [0, 2, 3, 4, 5] ([2, 3, 4] ++ List.range' 100300 16 ++ List.range' 100400 16) (((0 : Int), fun x ↦ [], fun x ↦ [])) (by kernel_rfl) (by kernel_rfl) (show invMa ps (0 : Int) (fun x ↦ []) fun x ↦ [] from ?g0) ?_; rotate_left 1
  rintro ⟨i_0, A_1, B_2⟩ h_3
  obtain ⟨h_4, h_5, h_6, h_7⟩ : (0 : Int) ≤ i_0 ∧ i_0 ≤ (↑ps.length : Int) ∧ isLen A_1 B_2 ∧ isOpen ps i_0 (zT A_1 B_2) := h_3
  refine sq ?_
  refine sq ?_
  refine rg (A := _ ∧ (AV.b (decide (i_0 < (↑ps.length : Int))) = AV.b (decide (i_0 < (↑ps.length : Int))))) cx [(2, { tell := some (.i .i64 ((↑ps.length : Int))) }), (3, { tell := some (.b (decide (i_0 < (↑ps.length : Int)))) })] [0, 2, 3, 4, 5, 14] ([2, 3, 4] ++ List.range' 100300 16 ++ List.range' 100400 16) ⟨(told_len c25 ps), (by kernel_rfl)⟩ ?_
  refine sn ?_
  refine st_dec (i_0 < (↑ps.length : Int)) (by kernel_rfl) (by kernel_rfl) (fun h_8 => ?_) (fun h_8 => ?_)
  refine st_skip (by kernel_rfl) ?_
  refine sn ?_
  refine sq ?_
  refine st_block 1 (by kernel_rfl) ?_
  refine sq ?_
  refine sq ?_
  refine rg (A := True) cx [] [0, 2, 3, 4, 5, 6] ([2, 3, 4] ++ List.range' 100300 16 ++ List.range' 100400 16) trivial ?_
  refine sn ?_
  refine st_block 2 (by kernel_rfl) ?_
  refine st_loop (X := Int × (Nat → List Int) × (Nat → List Int)) (fun x => ⟨[(0, .sl (List.map c25 ps)), (2, .ptr (2) (0) (0) (0)), (3, .ptr (3) (0) (0) (0)), (4, .ptr (4) (0) (0) (0)), (5, .i .i64 (i_0)), (6, .i .i64 (x.fst))], [(2, ⟨0, 58, .var [.nl, .nl, .nl, .nl, .nl, .nl, .nl, .nl, .nl, .nl, .nl, .nl, .nl, .nl, .nl, .nl]⟩), (3, ⟨0, 56, .var (ownsC 100300 16)⟩), (4, ⟨0, 56, .var (ownsC 100400 16)⟩)] ++ tabRows 100300 3 1 16 (c3) (x.snd.fst) ++ tabRows 100400 3 1 16 (c3) (x.snd.snd)⟩) (fun x ↦ decMb ps i_0 x.fst x.snd.fst x.snd.snd) (fun x ↦ invMb ps i_0 x.fst x.snd.fst x.snd.snd) [0, 2, 3, 4, 5, 6] ([2, 3, 4] ++ List.range' 100300 16 ++ List.range' 100400 16) (((0 : Int), A_1, B_2)) (by kernel_rfl) (by kernel_rfl) (show invMb ps i_0 (0 : Int) A_1 B_2 from ?g1) ?_; rotate_left 1
  rintro ⟨j_9, A_10, B_11⟩ h_12
  obtain ⟨h_13, h_14, h_15, h_16, h_17⟩ : (0 : Int) ≤ j_9 ∧ j_9 ≤ (↑ps[i_0.toNat]!.vec.length : Int) ∧ j_9 ≤ (16 : Int) ∧ isLen A_10 B_11 ∧ isOpenV ps i_0 j_9 (zT A_10 B_11) := h_12
  refine sq ?_
  refine sq ?_
  refine st_join (σ' := ⟨[(0, .sl (List.map c25 ps)), (2, .ptr (2) (0) (0) (0)), (3, .ptr (3) (0) (0) (0)), (4, .ptr (4) (0) (0) (0)), (5, .i .i64 (i_0)), (6, .i .i64 (j_9)), (28, .b (decide (j_9 < (↑ps[i_0.toNat]!.vec.length : Int) ∧ j_9 < (16 : Int))))], [(2, ⟨0, 58, .var [.nl, .nl, .nl, .nl, .nl, .nl, .nl, .nl, .nl, .nl, .nl, .nl, .nl, .nl, .nl, .nl]⟩), (3, ⟨0, 56, .var (ownsC 100300 16)⟩), (4, ⟨0, 56, .var (ownsC 100400 16)⟩)] ++ tabRows 100300 3 1 16 (c3) (A_10) ++ tabRows 100400 3 1 16 (c3) (B_11)⟩) ?_ ?_
  refine st_split (j_9 < (↑ps[i_0.toNat]!.vec.length : Int)) (fun h_19 => ?_) (fun h_19 => ?_)
  refine rg (A := ((0 : Int) ≤ i_0) ∧ ((List.map c25 ps)[i_0.toNat]? = some (c25 ps[i_0.toNat]!)) ∧ ((c25 ps[i_0.toNat]!).length = (2 : Nat)) ∧ _ ∧ _ ∧ (AV.b (decide (j_9 < (16 : Int))) = AV.b (decide (j_9 < (16 : Int)))) ∧ (AV.b (decide (j_9 < (16 : Int))) = AV.b (decide (j_9 < (↑ps[i_0.toNat]!.vec.length : Int) ∧ j_9 < (16 : Int))))) cx [(3, { row := (c25 ps[i_0.toNat]!) }), (6, { tell := some (.i .i64 ((↑ps[i_0.toNat]!.vec.length : Int))) }), (7, { tell := some (.b (true)) }), (10, { tell := some (.b (decide (j_9 < (16 : Int)))) }), (11, { tell := some (.b (decide (j_9 < (↑ps[i_0.toNat]!.vec.length : Int) ∧ j_9 < (16 : Int)))) })] [0, 2, 3, 4, 5, 6, 28] ([2, 3, 4] ++ List.range' 100300 16 ++ List.range' 100400 16) ⟨(by (with_reducible assumption)), (by (with_reducible refine get_map ?_; omega)), (by kernel_rfl), (told_len c3 ps[i_0.toNat]!.vec), (told_true h_19), (by kernel_rfl), (by simp only [eq_true h_19, told_simp1, told_simp2, and_true, true_and, and_false, false_and, or_true, true_or, or_false, false_or, not_true_eq_false, not_false_eq_true, decide_true, decide_false, Bool.decide_eq_true])⟩ ?_
  exact ⟨rfl, by kernel_rfl⟩
  refine rg (A := ((0 : Int) ≤ i_0) ∧ ((List.map c25 ps)[i_0.toNat]? = some (c25 ps[i_0.toNat]!)) ∧ ((c25 ps[i_0.toNat]!).length = (2 : Nat)) ∧ _ ∧ _ ∧ (AV.b false = AV.b (decide (j_9 < (↑ps[i_0.toNat]!.vec.length : Int) ∧ j_9 < (16 : Int))))) cx [(3, { row := (c25 ps[i_0.toNat]!) }), (6, { tell := some (.i .i64 ((↑ps[i_0.toNat]!.vec.length : Int))) }), (7, { tell := some (.b (false)) }), (11, { tell := some (.b (decide (j_9 < (↑ps[i_0.toNat]!.vec.length : Int) ∧ j_9 < (16 : Int)))) })] [0, 2, 3, 4, 5, 6, 28] ([2, 3, 4] ++ List.range' 100300 16 ++ List.range' 100400 16) ⟨(by (with_reducible assumption)), (by (with_reducible refine get_map ?_; omega)), (by kernel_rfl), (told_len c3 ps[i_0.toNat]!.vec), (told_false h_19), (by simp only [eq_false h_19, told_simp1, told_simp2, and_true, true_and, and_false, false_and, or_true, true_or, or_false, false_or, not_true_eq_false, not_false_eq_true, decide_true, decide_false, Bool.decide_eq_true])⟩ ?_
  exact ⟨rfl, by kernel_rfl⟩
  refine sn ?_
  refine st_dec (j_9 < (↑ps[i_0.toNat]!.vec.length : Int) ∧ j_9 < (16 : Int)) (by kernel_rfl) (by kernel_rfl) (fun h_20 => ?_) (fun h_20 => ?_)
  refine st_skip (by kernel_rfl) ?_
  refine sn ?_
  refine sq ?_
  refine st_block 3 (by kernel_rfl) ?_
  refine sq ?_
  refine st_reg16 (F := fun kx => ⟨[(0, .sl (List.map c25 ps)), (2, .ptr (2) (0) (0) (0)), (3, .ptr (3) (0) (0) (0)), (4, .ptr (4) (0) (0) (0)), (5, .i .i64 (i_0)), (6, .i .i64 (kx)), (28, .b (decide (kx < (↑ps[i_0.toNat]!.vec.length : Int) ∧ kx < (16 : Int))))], [(2, ⟨0, 58, .var [.nl, .nl, .nl, .nl, .nl, .nl, .nl, .nl, .nl, .nl, .nl, .nl, .nl, .nl, .nl, .nl]⟩), (3, ⟨0, 56, .var (ownsC 100300 16)⟩), (4, ⟨0, 56, .var (ownsC 100400 16)⟩)] ++ tabRows 100300 3 1 16 (c3) (A_10) ++ tabRows 100400 3 1 16 (c3) (B_11)⟩) (G := fun kx => ⟨[(0, .sl (List.map c25 ps)), (2, .ptr (2) (0) (0) (0)), (3, .ptr (3) (0) (0) (0)), (4, .ptr (4) (0) (0) (0)), (5, .i .i64 (i_0)), (6, .i .i64 (kx))], [(2, ⟨0, 58, .var [.nl, .nl, .nl, .nl, .nl, .nl, .nl, .nl, .nl, .nl, .nl, .nl, .nl, .nl, .nl, .nl]⟩), (3, ⟨0, 56, .var (ownsC 100300 16)⟩), (4, ⟨0, 56, .var (ownsC 100400 16)⟩)] ++ tabRows 100300 3 1 16 (c3) (updF A_10 kx.toNat (A_10 kx.toNat ++ [(1 : Int)])) ++ tabRows 100400 3 1 16 (c3) (B_11)⟩) (A := fun kx => ((0 : Int) ≤ kx) ∧ (kx < (↑(16 : Nat) : Int)) ∧ (3 = (3 : Nat)) ∧ ((1 : Nat) = 1) ∧ ([AV.i IntKind.i64 (0 : Int)].length = (1 : Nat)) ∧ (∀ (r : List AV), r ∈ List.map c3 [(1 : Int)] → r.length = 1) ∧ ((List.map c3 (A_10 kx.toNat)).length + (List.map c3 [(1 : Int)]).length ≤ maxLen) ∧ (((List.map c3 (A_10 kx.toNat)).length + (List.map c3 [(1 : Int)]).length) * (8 : Nat) ≤ (140737488355328 : Nat)) ∧ (List.map c3 (A_10 kx.toNat) ++ List.map c3 [(1 : Int)] = List.map c3 (A_10 kx.toNat ++ [(1 : Int)])) ∧ ((0 : Int) ≤ kx) ∧ (kx < (↑(16 : Nat) : Int))) cx (fun kx => [(5, { rows := some (List.map c3 (A_10 kx.toNat ++ [(1 : Int)])) })]) [0, 2, 3, 4, 5, 6] ([2, 3, 4] ++ List.range' 100300 16 ++ List.range' 100400 16) (j_9) (by (with_reducible assumption)) (by omega) (by kernel_rfl) (by kernel_rfl) ⟨(by show _ = _; kernel_rfl), (by show _ = _; kernel_rfl), (by show _ = _; kernel_rfl), (by show _ = _; kernel_rfl), (by show _ = _; kernel_rfl), (by show _ = _; kernel_rfl), (by show _ = _; kernel_rfl), (by show _ = _; kernel_rfl), (by show _ = _; kernel_rfl), (by show _ = _; kernel_rfl), (by show _ = _; kernel_rfl), (by show _ = _; kernel_rfl), (by show _ = _; kernel_rfl), (by show _ = _; kernel_rfl), (by show _ = _; kernel_rfl), (by show _ = _; kernel_rfl)⟩ ⟨(by (with_reducible assumption)), (by omega), (by kernel_rfl), (by kernel_rfl), (by kernel_rfl), (by (with_reducible refine len_map (fun _ => ?_) _; kernel_rfl)), ?g2, ?g3, (by (with_reducible refine app_map ?_; kernel_rfl)), (by (with_reducible assumption)), (by omega)⟩ ?_; rotate_left 2
  refine sn ?_
  refine st_any16 (F := fun kx => ⟨[(0, .sl (List.map c25 ps)), (2, .ptr (2) (0) (0) (0)), (3, .ptr (3) (0) (0) (0)), (4, .ptr (4) (0) (0) (0)), (5, .i .i64 (i_0)), (6, .i .i64 (kx))], [(2, ⟨0, 58, .var [.nl, .nl, .nl, .nl, .nl, .nl, .nl, .nl, .nl, .nl, .nl, .nl, .nl, .nl, .nl, .nl]⟩), (3, ⟨0, 56, .var (ownsC 100300 16)⟩), (4, ⟨0, 56, .var (ownsC 100400 16)⟩)] ++ tabRows 100300 3 1 16 (c3) (updF A_10 kx.toNat (A_10 kx.toNat ++ [(1 : Int)])) ++ tabRows 100400 3 1 16 (c3) (B_11)⟩) (G := fun kx => ⟨[(0, .sl (List.map c25 ps)), (2, .ptr (2) (0) (0) (0)), (3, .ptr (3) (0) (0) (0)), (4, .ptr (4) (0) (0) (0)), (5, .i .i64 (i_0)), (6, .i .i64 (kx))], [(2, ⟨0, 58, .var [.nl, .nl, .nl, .nl, .nl, .nl, .nl, .nl, .nl, .nl, .nl, .nl, .nl, .nl, .nl, .nl]⟩), (3, ⟨0, 56, .var (ownsC 100300 16)⟩), (4, ⟨0, 56, .var (ownsC 100400 16)⟩)] ++ tabRows 100300 3 1 16 (c3) (updF A_10 kx.toNat (A_10 kx.toNat ++ [(1 : Int)])) ++ tabRows 100400 3 1 16 (c3) (updF B_11 kx.toNat (B_11 kx.toNat ++ [ps[i_0.toNat]!.vec[kx.toNat]!]))⟩) (A := fun kx => ((0 : Int) ≤ kx) ∧ (kx < (↑(16 : Nat) : Int)) ∧ ((0 : Int) ≤ i_0) ∧ ((List.map c25 ps)[i_0.toNat]? = some (c25 ps[i_0.toNat]!)) ∧ ((c25 ps[i_0.toNat]!).length = (2 : Nat)) ∧ ((0 : Int) ≤ kx) ∧ ((List.map c3 ps[i_0.toNat]!.vec)[kx.toNat]? = some (c3 ps[i_0.toNat]!.vec[kx.toNat]!)) ∧ ((c3 ps[i_0.toNat]!.vec[kx.toNat]!).length = (1 : Nat)) ∧ (3 = (3 : Nat)) ∧ ((1 : Nat) = 1) ∧ ([AV.i IntKind.i64 (0 : Int)].length = (1 : Nat)) ∧ (∀ (r : List AV), r ∈ List.map c3 [ps[i_0.toNat]!.vec[kx.toNat]!] → r.length = 1) ∧ ((List.map c3 (B_11 kx.toNat)).length + (List.map c3 [ps[i_0.toNat]!.vec[kx.toNat]!]).length ≤ maxLen) ∧ (((List.map c3 (B_11 kx.toNat)).length + (List.map c3 [ps[i_0.toNat]!.vec[kx.toNat]!]).length) * (8 : Nat) ≤ (140737488355328 : Nat)) ∧ (List.map c3 (B_11 kx.toNat) ++ List.map c3 [ps[i_0.toNat]!.vec[kx.toNat]!] = List.map c3 (B_11 kx.toNat ++ [ps[i_0.toNat]!.vec[kx.toNat]!])) ∧ ((0 : Int) ≤ kx) ∧ (kx < (↑(16 : Nat) : Int))) cx (fun kx => [(6, { row := (c25 ps[i_0.toNat]!) }), (10, { row := (c3 ps[i_0.toNat]!.vec[kx.toNat]!) }), (13, { rows := some (List.map c3 (B_11 kx.toNat ++ [ps[i_0.toNat]!.vec[kx.toNat]!])) })]) [0, 2, 3, 4, 5, 6] ([2, 3, 4] ++ List.range' 100300 16 ++ List.range' 100400 16) (j_9) (by (with_reducible assumption)) (by omega) (by kernel_rfl) (by kernel_rfl) ⟨(by show _ = _; kernel_rfl), (by show _ = _; kernel_rfl), (by show _ = _; kernel_rfl), (by show _ = _; kernel_rfl), (by show _ = _; kernel_rfl), (by show _ = _; kernel_rfl), (by show _ = _; kernel_rfl), (by show _ = _; kernel_rfl), (by show _ = _; kernel_rfl), (by show _ = _; kernel_rfl), (by show _ = _; kernel_rfl), (by show _ = _; kernel_rfl), (by show _ = _; kernel_rfl), (by show _ = _; kernel_rfl), (by show _ = _; kernel_rfl), (by show _ = _; kernel_rfl)⟩ ⟨(by (with_reducible assumption)), (by omega), (by (with_reducible assumption)), (by (with_reducible refine get_map ?_; omega)), (by kernel_rfl), (by (with_reducible assumption)), (by (with_reducible refine get_map ?_; omega)), (by kernel_rfl), (by kernel_rfl), (by kernel_rfl), (by kernel_rfl), (by (with_reducible refine len_map (fun _ => ?_) _; kernel_rfl)), ?g4, ?g5, (by (with_reducible refine app_map ?_; kernel_rfl)), (by (with_reducible assumption)), (by omega)⟩ ?_; rotate_left 2
  refine q_blk_normal ?_
  refine sn ?_
  refine rg (A := (AV.i IntKind.i64 (IntKind.i64.wrap (j_9 + (1 : Int))) = AV.i IntKind.i64 (j_9 + (1 : Int)))) cx [(1, { tell := some (.i .i64 (j_9 + (1 : Int))) })] [0, 2, 3, 4, 5, 6] ([2, 3, 4] ++ List.range' 100300 16 ++ List.range' 100400 16) (told_i64 (by omega) (by omega)) ?_
  refine sn ?_
  refine loop_next ((j_9 + (1 : Int), updF A_10 j_9.toNat (A_10 j_9.toNat ++ [(1 : Int)]), updF B_11 j_9.toNat (B_11 j_9.toNat ++ [ps[i_0.toNat]!.vec[j_9.toNat]!]))) (by kernel_rfl) (show ((↑ps[i_0.toNat]!.vec.length : Int) - (j_9 + (1 : Int))).toNat < ((↑ps[i_0.toNat]!.vec.length : Int) - j_9).toNat from (by omega)) (show invMb ps i_0 (j_9 + (1 : Int)) (updF A_10 j_9.toNat (A_10 j_9.toNat ++ [(1 : Int)])) (updF B_11 j_9.toNat (B_11 j_9.toNat ++ [ps[i_0.toNat]!.vec[j_9.toNat]!])) from ?g6); rotate_left 1
  refine st_exit 2 (by kernel_rfl) ?_
  refine q_seq_exit ?_
  refine q_seq_exit ?_
  refine q_blk_hit ?_
  refine sn ?_
  refine sq ?_
  refine rg (A := True) cx [] [0, 2, 3, 4, 5, 7] ([2, 3, 4] ++ List.range' 100300 16 ++ List.range' 100400 16) trivial ?_
  refine sn ?_
  refine st_block 4 (by kernel_rfl) ?_
  refine st_loop (X := Int × (Nat → List Int) × (Nat → List Int)) (fun x => ⟨[(0, .sl (List.map c25 ps)), (2, .ptr (2) (0) (0) (0)), (3, .ptr (3) (0) (0) (0)), (4, .ptr (4) (0) (0) (0)), (5, .i .i64 (i_0)), (7, .i .i64 (x.fst))], [(2, ⟨0, 58, .var [.nl, .nl, .nl, .nl, .nl, .nl, .nl, .nl, .nl, .nl, .nl, .nl, .nl, .nl, .nl, .nl]⟩), (3, ⟨0, 56, .var (ownsC 100300 16)⟩), (4, ⟨0, 56, .var (ownsC 100400 16)⟩)] ++ tabRows 100300 3 1 16 (c3) (x.snd.fst) ++ tabRows 100400 3 1 16 (c3) (x.snd.snd)⟩) (fun x ↦ decMc ps i_0 x.fst x.snd.fst x.snd.snd) (fun x ↦ invMc ps i_0 x.fst x.snd.fst x.snd.snd) [0, 2, 3, 4, 5, 7] ([2, 3, 4] ++ List.range' 100300 16 ++ List.range' 100400 16) (((0 : Int), A_10, B_11)) (by kernel_rfl) (by kernel_rfl) (show invMc ps i_0 (0 : Int) A_10 B_11 from ?g7) ?_; rotate_left 1
  rintro ⟨j_21, A_22, B_23⟩ h_24
  obtain ⟨h_25, h_26, h_27, h_28⟩ : (0 : Int) ≤ j_21 ∧ j_21 ≤ (↑ps[i_0.toNat]!.cloud.length : Int) ∧ isLen A_22 B_23 ∧ isOpenC ps i_0 j_21 (zT A_22 B_23) := h_24
  refine sq ?_
  refine sq ?_
  refine rg (A := ((0 : Int) ≤ i_0) ∧ ((List.map c25 ps)[i_0.toNat]? = some (c25 ps[i_0.toNat]!)) ∧ ((c25 ps[i_0.toNat]!).length = (2 : Nat)) ∧ _ ∧ (AV.b (decide (j_21 < (↑ps[i_0.toNat]!.cloud.length : Int))) = AV.b (decide (j_21 < (↑ps[i_0.toNat]!.cloud.length : Int))))) cx [(3, { row := (c25 ps[i_0.toNat]!) }), (6, { tell := some (.i .i64 ((↑ps[i_0.toNat]!.cloud.length : Int))) }), (7, { tell := some (.b (decide (j_21 < (↑ps[i_0.toNat]!.cloud.length : Int)))) })] [0, 2, 3, 4, 5, 7, 60] ([2, 3, 4] ++ List.range' 100300 16 ++ List.range' 100400 16) ⟨(by (with_reducible assumption)), (by (with_reducible refine get_map ?_; omega)), (by kernel_rfl), (told_len c50 ps[i_0.toNat]!.cloud), (by kernel_rfl)⟩ ?_
  refine sn ?_
  refine st_dec (j_21 < (↑ps[i_0.toNat]!.cloud.length : Int)) (by kernel_rfl) (by kernel_rfl) (fun h_29 => ?_) (fun h_29 => ?_)
  refine st_skip (by kernel_rfl) ?_
  refine sn ?_
  refine sq ?_
  refine st_block 5 (by kernel_rfl) ?_
  refine sq ?_
  refine rg (A := ((0 : Int) ≤ i_0) ∧ ((List.map c25 ps)[i_0.toNat]? = some (c25 ps[i_0.toNat]!)) ∧ ((c25 ps[i_0.toNat]!).length = (2 : Nat)) ∧ ((0 : Int) ≤ j_21) ∧ ((List.map c50 ps[i_0.toNat]!.cloud)[j_21.toNat]? = some (c50 ps[i_0.toNat]!.cloud[j_21.toNat]!)) ∧ ((c50 ps[i_0.toNat]!.cloud[j_21.toNat]!).length = (3 : Nat)) ∧ ((3 : Nat) ≤ [AV.i IntKind.i64 ps[i_0.toNat]!.cloud[j_21.toNat]!.rep, AV.i IntKind.i64 ps[i_0.toNat]!.cloud[j_21.toNat]!.lo, AV.i IntKind.i64 ps[i_0.toNat]!.cloud[j_21.toNat]!.hi].length)) cx [(2, { row := (c25 ps[i_0.toNat]!) }), (6, { row := (c50 ps[i_0.toNat]!.cloud[j_21.toNat]!) })] [0, 2, 3, 4, 5, 7, 8] ([2, 3, 4] ++ List.range' 100300 16 ++ List.range' 100400 16 ++ [8]) ⟨(by (with_reducible assumption)), (by (with_reducible refine get_map ?_; omega)), (by kernel_rfl), (by (with_reducible assumption)), (by (with_reducible refine get_map ?_; omega)), (by kernel_rfl), (by (simp only [List.length_append, List.length_cons, List.length_nil]; omega))⟩ ?_
  refine sn ?_
  refine sq ?_
  refine st_join (σ' := ⟨[(0, .sl (List.map c25 ps)), (2, .ptr (2) (0) (0) (0)), (3, .ptr (3) (0) (0) (0)), (4, .ptr (4) (0) (0) (0)), (5, .i .i64 (i_0)), (7, .i .i64 (j_21)), (8, .ptr (8) (0) (0) (0)), (78, .b (decide ((0 : Int) ≤ ps[i_0.toNat]!.cloud[j_21.toNat]!.rep ∧ ps[i_0.toNat]!.cloud[j_21.toNat]!.rep < (16 : Int))))], [(2, ⟨0, 58, .var [.nl, .nl, .nl, .nl, .nl, .nl, .nl, .nl, .nl, .nl, .nl, .nl, .nl, .nl, .nl, .nl]⟩), (3, ⟨0, 56, .var (ownsC 100300 16)⟩), (4, ⟨0, 56, .var (ownsC 100400 16)⟩)] ++ tabRows 100300 3 1 16 (c3) (A_22) ++ tabRows 100400 3 1 16 (c3) (B_23) ++ [(8, ⟨0, 50, .var [.i .i64 (ps[i_0.toNat]!.cloud[j_21.toNat]!.rep), .i .i64 (ps[i_0.toNat]!.cloud[j_21.toNat]!.lo), .i .i64 (ps[i_0.toNat]!.cloud[j_21.toNat]!.hi)]⟩)]⟩) ?_ ?_
  refine st_split ((0 : Int) ≤ ps[i_0.toNat]!.cloud[j_21.toNat]!.rep) (fun h_31 => ?_) (fun h_31 => ?_)
  refine rg (A := _ ∧ (AV.b (decide (ps[i_0.toNat]!.cloud[j_21.toNat]!.rep < (16 : Int))) = AV.b (decide (ps[i_0.toNat]!.cloud[j_21.toNat]!.rep < (16 : Int)))) ∧ (AV.b (decide (ps[i_0.toNat]!.cloud[j_21.toNat]!.rep < (16 : Int))) = AV.b (decide ((0 : Int) ≤ ps[i_0.toNat]!.cloud[j_21.toNat]!.rep ∧ ps[i_0.toNat]!.cloud[j_21.toNat]!.rep < (16 : Int))))) cx [(2, { tell := some (.b (true)) }), (6, { tell := some (.b (decide (ps[i_0.toNat]!.cloud[j_21.toNat]!.rep < (16 : Int)))) }), (7, { tell := some (.b (decide ((0 : Int) ≤ ps[i_0.toNat]!.cloud[j_21.toNat]!.rep ∧ ps[i_0.toNat]!.cloud[j_21.toNat]!.rep < (16 : Int)))) })] [0, 2, 3, 4, 5, 7, 8, 78] ([2, 3, 4] ++ List.range' 100300 16 ++ List.range' 100400 16 ++ [8]) ⟨(told_true h_31), (by kernel_rfl), (by simp only [eq_true h_31, told_simp1, told_simp2, and_true, true_and, and_false, false_and, or_true, true_or, or_false, false_or, not_true_eq_false, not_false_eq_true, decide_true, decide_false, Bool.decide_eq_true])⟩ ?_
  exact ⟨rfl, by kernel_rfl⟩
  refine rg (A := _ ∧ (AV.b false = AV.b (decide ((0 : Int) ≤ ps[i_0.toNat]!.cloud[j_21.toNat]!.rep ∧ ps[i_0.toNat]!.cloud[j_21.toNat]!.rep < (16 : Int))))) cx [(2, { tell := some (.b (false)) }), (7, { tell := some (.b (decide ((0 : Int) ≤ ps[i_0.toNat]!.cloud[j_21.toNat]!.rep ∧ ps[i_0.toNat]!.cloud[j_21.toNat]!.rep < (16 : Int)))) })] [0, 2, 3, 4, 5, 7, 8, 78] ([2, 3, 4] ++ List.range' 100300 16 ++ List.range' 100400 16 ++ [8]) ⟨(told_false h_31), (by simp only [eq_false h_31, told_simp1, told_simp2, and_true, true_and, and_false, false_and, or_true, true_or, or_false, false_or, not_true_eq_false, not_false_eq_true, decide_true, decide_false, Bool.decide_eq_true])⟩ ?_
  exact ⟨rfl, by kernel_rfl⟩
  refine sn ?_
  refine st_dec ((0 : Int) ≤ ps[i_0.toNat]!.cloud[j_21.toNat]!.rep ∧ ps[i_0.toNat]!.cloud[j_21.toNat]!.rep < (16 : Int)) (by kernel_rfl) (by kernel_rfl) (fun h_32 => ?_) (fun h_32 => ?_)
  refine sq ?_
  refine st_any16 (F := fun kx => ⟨[(0, .sl (List.map c25 ps)), (2, .ptr (2) (0) (0) (0)), (3, .ptr (3) (0) (0) (0)), (4, .ptr (4) (0) (0) (0)), (5, .i .i64 (i_0)), (7, .i .i64 (j_21)), (8, .ptr (8) (0) (0) (0)), (78, .b (decide ((0 : Int) ≤ kx ∧ kx < (16 : Int))))], [(2, ⟨0, 58, .var [.nl, .nl, .nl, .nl, .nl, .nl, .nl, .nl, .nl, .nl, .nl, .nl, .nl, .nl, .nl, .nl]⟩), (3, ⟨0, 56, .var (ownsC 100300 16)⟩), (4, ⟨0, 56, .var (ownsC 100400 16)⟩)] ++ tabRows 100300 3 1 16 (c3) (A_22) ++ tabRows 100400 3 1 16 (c3) (B_23) ++ [(8, ⟨0, 50, .var [.i .i64 (kx), .i .i64 (ps[i_0.toNat]!.cloud[j_21.toNat]!.lo), .i .i64 (ps[i_0.toNat]!.cloud[j_21.toNat]!.hi)]⟩)]⟩) (G := fun kx => ⟨[(0, .sl (List.map c25 ps)), (2, .ptr (2) (0) (0) (0)), (3, .ptr (3) (0) (0) (0)), (4, .ptr (4) (0) (0) (0)), (5, .i .i64 (i_0)), (7, .i .i64 (j_21)), (8, .ptr (8) (0) (0) (0))], [(2, ⟨0, 58, .var [.nl, .nl, .nl, .nl, .nl, .nl, .nl, .nl, .nl, .nl, .nl, .nl, .nl, .nl, .nl, .nl]⟩), (3, ⟨0, 56, .var (ownsC 100300 16)⟩), (4, ⟨0, 56, .var (ownsC 100400 16)⟩)] ++ tabRows 100300 3 1 16 (c3) (updF A_22 kx.toNat (A_22 kx.toNat ++ [ps[i_0.toNat]!.cloud[j_21.toNat]!.lo])) ++ tabRows 100400 3 1 16 (c3) (B_23) ++ [(8, ⟨0, 50, .var [.i .i64 (kx), .i .i64 (ps[i_0.toNat]!.cloud[j_21.toNat]!.lo), .i .i64 (ps[i_0.toNat]!.cloud[j_21.toNat]!.hi)]⟩)]⟩) (A := fun kx => ((0 : Int) ≤ kx) ∧ (kx < (↑(16 : Nat) : Int)) ∧ (3 = (3 : Nat)) ∧ ((1 : Nat) = 1) ∧ ([AV.i IntKind.i64 (0 : Int)].length = (1 : Nat)) ∧ (∀ (r : List AV), r ∈ List.map c3 [ps[i_0.toNat]!.cloud[j_21.toNat]!.lo] → r.length = 1) ∧ ((List.map c3 (A_22 kx.toNat)).length + (List.map c3 [ps[i_0.toNat]!.cloud[j_21.toNat]!.lo]).length ≤ maxLen) ∧ (((List.map c3 (A_22 kx.toNat)).length + (List.map c3 [ps[i_0.toNat]!.cloud[j_21.toNat]!.lo]).length) * (8 : Nat) ≤ (140737488355328 : Nat)) ∧ (List.map c3 (A_22 kx.toNat) ++ List.map c3 [ps[i_0.toNat]!.cloud[j_21.toNat]!.lo] = List.map c3 (A_22 kx.toNat ++ [ps[i_0.toNat]!.cloud[j_21.toNat]!.lo])) ∧ ((0 : Int) ≤ kx) ∧ (kx < (↑(16 : Nat) : Int))) cx (fun kx => [(9, { rows := some (List.map c3 (A_22 kx.toNat ++ [ps[i_0.toNat]!.cloud[j_21.toNat]!.lo])) })]) [0, 2, 3, 4, 5, 7, 8] ([2, 3, 4] ++ List.range' 100300 16 ++ List.range' 100400 16 ++ [8]) (ps[i_0.toNat]!.cloud[j_21.toNat]!.rep) (by omega) (by omega) (by kernel_rfl) (by kernel_rfl) ⟨(by show _ = _; kernel_rfl), (by show _ = _; kernel_rfl), (by show _ = _; kernel_rfl), (by show _ = _; kernel_rfl), (by show _ = _; kernel_rfl), (by show _ = _; kernel_rfl), (by show _ = _; kernel_rfl), (by show _ = _; kernel_rfl), (by show _ = _; kernel_rfl), (by show _ = _; kernel_rfl), (by show _ = _; kernel_rfl), (by show _ = _; kernel_rfl), (by show _ = _; kernel_rfl), (by show _ = _; kernel_rfl), (by show _ = _; kernel_rfl), (by show _ = _; kernel_rfl)⟩ ⟨(by omega), (by omega), (by kernel_rfl), (by kernel_rfl), (by kernel_rfl), (by (with_reducible refine len_map (fun _ => ?_) _; kernel_rfl)), ?g8, ?g9, (by (with_reducible refine app_map ?_; kernel_rfl)), (by omega), (by omega)⟩ ?_; rotate_left 2
  refine sn ?_
  refine st_any16 (F := fun kx => ⟨[(0, .sl (List.map c25 ps)), (2, .ptr (2) (0) (0) (0)), (3, .ptr (3) (0) (0) (0)), (4, .ptr (4) (0) (0) (0)), (5, .i .i64 (i_0)), (7, .i .i64 (j_21)), (8, .ptr (8) (0) (0) (0))], [(2, ⟨0, 58, .var [.nl, .nl, .nl, .nl, .nl, .nl, .nl, .nl, .nl, .nl, .nl, .nl, .nl, .nl, .nl, .nl]⟩), (3, ⟨0, 56, .var (ownsC 100300 16)⟩), (4, ⟨0, 56, .var (ownsC 100400 16)⟩)] ++ tabRows 100300 3 1 16 (c3) (updF A_22 kx.toNat (A_22 kx.toNat ++ [ps[i_0.toNat]!.cloud[j_21.toNat]!.lo])) ++ tabRows 100400 3 1 16 (c3) (B_23) ++ [(8, ⟨0, 50, .var [.i .i64 (kx), .i .i64 (ps[i_0.toNat]!.cloud[j_21.toNat]!.lo), .i .i64 (ps[i_0.toNat]!.cloud[j_21.toNat]!.hi)]⟩)]⟩) (G := fun kx => ⟨[(0, .sl (List.map c25 ps)), (2, .ptr (2) (0) (0) (0)), (3, .ptr (3) (0) (0) (0)), (4, .ptr (4) (0) (0) (0)), (5, .i .i64 (i_0)), (7, .i .i64 (j_21))], [(2, ⟨0, 58, .var [.nl, .nl, .nl, .nl, .nl, .nl, .nl, .nl, .nl, .nl, .nl, .nl, .nl, .nl, .nl, .nl]⟩), (3, ⟨0, 56, .var (ownsC 100300 16)⟩), (4, ⟨0, 56, .var (ownsC 100400 16)⟩)] ++ tabRows 100300 3 1 16 (c3) (updF A_22 kx.toNat (A_22 kx.toNat ++ [ps[i_0.toNat]!.cloud[j_21.toNat]!.lo])) ++ tabRows 100400 3 1 16 (c3) (updF B_23 kx.toNat (B_23 kx.toNat ++ [ps[i_0.toNat]!.cloud[j_21.toNat]!.hi]))⟩) (A := fun kx => ((0 : Int) ≤ kx) ∧ (kx < (↑(16 : Nat) : Int)) ∧ (3 = (3 : Nat)) ∧ ((1 : Nat) = 1) ∧ ([AV.i IntKind.i64 (0 : Int)].length = (1 : Nat)) ∧ (∀ (r : List AV), r ∈ List.map c3 [ps[i_0.toNat]!.cloud[j_21.toNat]!.hi] → r.length = 1) ∧ ((List.map c3 (B_23 kx.toNat)).length + (List.map c3 [ps[i_0.toNat]!.cloud[j_21.toNat]!.hi]).length ≤ maxLen) ∧ (((List.map c3 (B_23 kx.toNat)).length + (List.map c3 [ps[i_0.toNat]!.cloud[j_21.toNat]!.hi]).length) * (8 : Nat) ≤ (140737488355328 : Nat)) ∧ (List.map c3 (B_23 kx.toNat) ++ List.map c3 [ps[i_0.toNat]!.cloud[j_21.toNat]!.hi] = List.map c3 (B_23 kx.toNat ++ [ps[i_0.toNat]!.cloud[j_21.toNat]!.hi])) ∧ ((0 : Int) ≤ kx) ∧ (kx < (↑(16 : Nat) : Int))) cx (fun kx => [(9, { rows := some (List.map c3 (B_23 kx.toNat ++ [ps[i_0.toNat]!.cloud[j_21.toNat]!.hi])) })]) [0, 2, 3, 4, 5, 7] ([2, 3, 4] ++ List.range' 100300 16 ++ List.range' 100400 16) (ps[i_0.toNat]!.cloud[j_21.toNat]!.rep) (by omega) (by omega) (by kernel_rfl) (by kernel_rfl) ⟨(by show _ = _; kernel_rfl), (by show _ = _; kernel_rfl), (by show _ = _; kernel_rfl), (by show _ = _; kernel_rfl), (by show _ = _; kernel_rfl), (by show _ = _; kernel_rfl), (by show _ = _; kernel_rfl), (by show _ = _; kernel_rfl), (by show _ = _; kernel_rfl), (by show _ = _; kernel_rfl), (by show _ = _; kernel_rfl), (by show _ = _; kernel_rfl), (by show _ = _; kernel_rfl), (by show _ = _; kernel_rfl), (by show _ = _; kernel_rfl), (by show _ = _; kernel_rfl)⟩ ⟨(by omega), (by omega), (by kernel_rfl), (by kernel_rfl), (by kernel_rfl), (by (with_reducible refine len_map (fun _ => ?_) _; kernel_rfl)), ?g10, ?g11, (by (with_reducible refine app_map ?_; kernel_rfl)), (by omega), (by omega)⟩ ?_; rotate_left 2
  refine q_blk_normal ?_
  refine sn ?_
  refine rg (A := (AV.i IntKind.i64 (IntKind.i64.wrap (j_21 + (1 : Int))) = AV.i IntKind.i64 (j_21 + (1 : Int)))) cx [(1, { tell := some (.i .i64 (j_21 + (1 : Int))) })] [0, 2, 3, 4, 5, 7] ([2, 3, 4] ++ List.range' 100300 16 ++ List.range' 100400 16) (told_i64 (by omega) ?g12) ?_; rotate_left 1
  refine sn ?_
  refine loop_next ((j_21 + (1 : Int), updF A_22 ps[i_0.toNat]!.cloud[j_21.toNat]!.rep.toNat (A_22 ps[i_0.toNat]!.cloud[j_21.toNat]!.rep.toNat ++ [ps[i_0.toNat]!.cloud[j_21.toNat]!.lo]), updF B_23 ps[i_0.toNat]!.cloud[j_21.toNat]!.rep.toNat (B_23 ps[i_0.toNat]!.cloud[j_21.toNat]!.rep.toNat ++ [ps[i_0.toNat]!.cloud[j_21.toNat]!.hi]))) (by kernel_rfl) (show ((↑ps[i_0.toNat]!.cloud.length : Int) - (j_21 + (1 : Int))).toNat < ((↑ps[i_0.toNat]!.cloud.length : Int) - j_21).toNat from (by omega)) (show invMc ps i_0 (j_21 + (1 : Int)) (updF A_22 ps[i_0.toNat]!.cloud[j_21.toNat]!.rep.toNat (A_22 ps[i_0.toNat]!.cloud[j_21.toNat]!.rep.toNat ++ [ps[i_0.toNat]!.cloud[j_21.toNat]!.lo])) (updF B_23 ps[i_0.toNat]!.cloud[j_21.toNat]!.rep.toNat (B_23 ps[i_0.toNat]!.cloud[j_21.toNat]!.rep.toNat ++ [ps[i_0.toNat]!.cloud[j_21.toNat]!.hi])) from ?g13); rotate_left 1
  refine st_skip (by kernel_rfl) ?_
  refine q_blk_normal ?_
  refine sn ?_
  refine rg (A := (AV.i IntKind.i64 (IntKind.i64.wrap (j_21 + (1 : Int))) = AV.i IntKind.i64 (j_21 + (1 : Int)))) cx [(1, { tell := some (.i .i64 (j_21 + (1 : Int))) })] [0, 2, 3, 4, 5, 7] ([2, 3, 4] ++ List.range' 100300 16 ++ List.range' 100400 16) (told_i64 (by omega) ?g14) ?_; rotate_left 1
  refine sn ?_
  refine loop_next ((j_21 + (1 : Int), A_22, B_23)) (by kernel_rfl) (show ((↑ps[i_0.toNat]!.cloud.length : Int) - (j_21 + (1 : Int))).toNat < ((↑ps[i_0.toNat]!.cloud.length : Int) - j_21).toNat from (by omega)) (show invMc ps i_0 (j_21 + (1 : Int)) A_22 B_23 from ?g15); rotate_left 1
  refine st_exit 4 (by kernel_rfl) ?_
  refine q_seq_exit ?_
  refine q_seq_exit ?_
  refine q_blk_hit ?_
  refine q_blk_normal ?_
  refine sn ?_
  refine rg (A := (AV.i IntKind.i64 (IntKind.i64.wrap (i_0 + (1 : Int))) = AV.i IntKind.i64 (i_0 + (1 : Int)))) cx [(1, { tell := some (.i .i64 (i_0 + (1 : Int))) })] [0, 2, 3, 4, 5] ([2, 3, 4] ++ List.range' 100300 16 ++ List.range' 100400 16) (told_i64 (by omega) (by omega)) ?_
  refine sn ?_
  refine loop_next ((i_0 + (1 : Int), A_22, B_23)) (by kernel_rfl) (show ((↑ps.length : Int) - (i_0 + (1 : Int))).toNat < ((↑ps.length : Int) - i_0).toNat from (by omega)) (show invMa ps (i_0 + (1 : Int)) A_22 B_23 from ?g16); rotate_left 1
  refine st_exit 0 (by kernel_rfl) ?_
  refine q_seq_exit ?_
  refine q_seq_exit ?_
  refine q_blk_hit ?_
  refine sn ?_
  refine sq ?_
  refine awp_norm (List.range' 100300 16) [0, 2, 3, 4, 5, 14] ([2, 3, 4] ++ List.range' 100400 16) (σ' := ⟨[(0, .sl (List.map c25 ps)), (2, .ptr (2) (0) (0) (0)), (3, .ptr (3) (0) (0) (0)), (4, .ptr (4) (0) (0) (0)), (5, .i .i64 (i_0)), (14, .b (decide (i_0 < (↑ps.length : Int))))], [(2, ⟨0, 58, .var [.nl, .nl, .nl, .nl, .nl, .nl, .nl, .nl, .nl, .nl, .nl, .nl, .nl, .nl, .nl, .nl]⟩), (3, ⟨0, 56, .var [.sl (List.map c3 (A_1 (0))), .sl (List.map c3 (A_1 (1))), .sl (List.map c3 (A_1 (2))), .sl (List.map c3 (A_1 (3))), .sl (List.map c3 (A_1 (4))), .sl (List.map c3 (A_1 (5))), .sl (List.map c3 (A_1 (6))), .sl (List.map c3 (A_1 (7))), .sl (List.map c3 (A_1 (8))), .sl (List.map c3 (A_1 (9))), .sl (List.map c3 (A_1 (10))), .sl (List.map c3 (A_1 (11))), .sl (List.map c3 (A_1 (12))), .sl (List.map c3 (A_1 (13))), .sl (List.map c3 (A_1 (14))), .sl (List.map c3 (A_1 (15)))]⟩), (4, ⟨0, 56, .var (ownsC 100400 16)⟩)] ++ tabRows 100400 3 1 16 (c3) (B_2)⟩) (by kernel_rfl) ?_
  refine awp_varArr 3 ⟨0, 56, .var [.sl (List.map c3 (A_1 (0))), .sl (List.map c3 (A_1 (1))), .sl (List.map c3 (A_1 (2))), .sl (List.map c3 (A_1 (3))), .sl (List.map c3 (A_1 (4))), .sl (List.map c3 (A_1 (5))), .sl (List.map c3 (A_1 (6))), .sl (List.map c3 (A_1 (7))), .sl (List.map c3 (A_1 (8))), .sl (List.map c3 (A_1 (9))), .sl (List.map c3 (A_1 (10))), .sl (List.map c3 (A_1 (11))), .sl (List.map c3 (A_1 (12))), .sl (List.map c3 (A_1 (13))), .sl (List.map c3 (A_1 (14))), .sl (List.map c3 (A_1 (15)))]⟩ [.sl (List.map c3 (A_1 (0))), .sl (List.map c3 (A_1 (1))), .sl (List.map c3 (A_1 (2))), .sl (List.map c3 (A_1 (3))), .sl (List.map c3 (A_1 (4))), .sl (List.map c3 (A_1 (5))), .sl (List.map c3 (A_1 (6))), .sl (List.map c3 (A_1 (7))), .sl (List.map c3 (A_1 (8))), .sl (List.map c3 (A_1 (9))), .sl (List.map c3 (A_1 (10))), .sl (List.map c3 (A_1 (11))), .sl (List.map c3 (A_1 (12))), .sl (List.map c3 (A_1 (13))), .sl (List.map c3 (A_1 (14))), .sl (List.map c3 (A_1 (15)))] (tabC c3 (16 : Nat) A_1) (σ' := ⟨[(0, .sl (List.map c25 ps)), (2, .ptr (2) (0) (0) (0)), (3, .ptr (3) (0) (0) (0)), (4, .ptr (4) (0) (0) (0)), (5, .i .i64 (i_0)), (14, .b (decide (i_0 < (↑ps.length : Int))))], [(2, ⟨0, 58, .var [.nl, .nl, .nl, .nl, .nl, .nl, .nl, .nl, .nl, .nl, .nl, .nl, .nl, .nl, .nl, .nl]⟩), (3, ⟨0, 56, .arr (tabC c3 (16 : Nat) A_1)⟩), (4, ⟨0, 56, .var (ownsC 100400 16)⟩)] ++ tabRows 100400 3 1 16 (c3) (B_2)⟩) (by kernel_rfl) (by kernel_rfl) (by kernel_rfl) (by kernel_rfl) (ZLe.of_eq (by kernel_rfl)) (by kernel_rfl) ?_
  refine awp_norm (List.range' 100400 16) [0, 2, 3, 4, 5, 14] [2, 3, 4] (σ' := ⟨[(0, .sl (List.map c25 ps)), (2, .ptr (2) (0) (0) (0)), (3, .ptr (3) (0) (0) (0)), (4, .ptr (4) (0) (0) (0)), (5, .i .i64 (i_0)), (14, .b (decide (i_0 < (↑ps.length : Int))))], [(2, ⟨0, 58, .var [.nl, .nl, .nl, .nl, .nl, .nl, .nl, .nl, .nl, .nl, .nl, .nl, .nl, .nl, .nl, .nl]⟩), (3, ⟨0, 56, .arr (tabC c3 (16 : Nat) A_1)⟩), (4, ⟨0, 56, .var [.sl (List.map c3 (B_2 (0))), .sl (List.map c3 (B_2 (1))), .sl (List.map c3 (B_2 (2))), .sl (List.map c3 (B_2 (3))), .sl (List.map c3 (B_2 (4))), .sl (List.map c3 (B_2 (5))), .sl (List.map c3 (B_2 (6))), .sl (List.map c3 (B_2 (7))), .sl (List.map c3 (B_2 (8))), .sl (List.map c3 (B_2 (9))), .sl (List.map c3 (B_2 (10))), .sl (List.map c3 (B_2 (11))), .sl (List.map c3 (B_2 (12))), .sl (List.map c3 (B_2 (13))), .sl (List.map c3 (B_2 (14))), .sl (List.map c3 (B_2 (15)))]⟩)]⟩) (by kernel_rfl) ?_
  refine awp_varArr 4 ⟨0, 56, .var [.sl (List.map c3 (B_2 (0))), .sl (List.map c3 (B_2 (1))), .sl (List.map c3 (B_2 (2))), .sl (List.map c3 (B_2 (3))), .sl (List.map c3 (B_2 (4))), .sl (List.map c3 (B_2 (5))), .sl (List.map c3 (B_2 (6))), .sl (List.map c3 (B_2 (7))), .sl (List.map c3 (B_2 (8))), .sl (List.map c3 (B_2 (9))), .sl (List.map c3 (B_2 (10))), .sl (List.map c3 (B_2 (11))), .sl (List.map c3 (B_2 (12))), .sl (List.map c3 (B_2 (13))), .sl (List.map c3 (B_2 (14))), .sl (List.map c3 (B_2 (15)))]⟩ [.sl (List.map c3 (B_2 (0))), .sl (List.map c3 (B_2 (1))), .sl (List.map c3 (B_2 (2))), .sl (List.map c3 (B_2 (3))), .sl (List.map c3 (B_2 (4))), .sl (List.map c3 (B_2 (5))), .sl (List.map c3 (B_2 (6))), .sl (List.map c3 (B_2 (7))), .sl (List.map c3 (B_2 (8))), .sl (List.map c3 (B_2 (9))), .sl (List.map c3 (B_2 (10))), .sl (List.map c3 (B_2 (11))), .sl (List.map c3 (B_2 (12))), .sl (List.map c3 (B_2 (13))), .sl (List.map c3 (B_2 (14))), .sl (List.map c3 (B_2 (15)))] (tabC c3 (16 : Nat) B_2) (σ' := ⟨[(0, .sl (List.map c25 ps)), (2, .ptr (2) (0) (0) (0)), (3, .ptr (3) (0) (0) (0)), (4, .ptr (4) (0) (0) (0)), (5, .i .i64 (i_0)), (14, .b (decide (i_0 < (↑ps.length : Int))))], [(2, ⟨0, 58, .var [.nl, .nl, .nl, .nl, .nl, .nl, .nl, .nl, .nl, .nl, .nl, .nl, .nl, .nl, .nl, .nl]⟩), (3, ⟨0, 56, .arr (tabC c3 (16 : Nat) A_1)⟩), (4, ⟨0, 56, .arr (tabC c3 (16 : Nat) B_2)⟩)]⟩) (by kernel_rfl) (by kernel_rfl) (by kernel_rfl) (by kernel_rfl) (ZLe.of_eq (by kernel_rfl)) (by kernel_rfl) ?_
  refine rg (A := True) cx [] [2, 3, 4, 9] [2, 3, 4, 9] trivial ?_
  refine sn ?_
  refine sq ?_
  refine sq ?_
  refine rg (A := True) cx [] [2, 3, 4, 9, 10] [2, 3, 4, 9] trivial ?_
  refine sn ?_
  refine st_block 6 (by kernel_rfl) ?_
  refine awp_varArr 9 ⟨0, 58, .var [.nl, .nl, .nl, .nl, .nl, .nl, .nl, .nl, .nl, .nl, .nl, .nl, .nl, .nl, .nl, .nl]⟩ [.nl, .nl, .nl, .nl, .nl, .nl, .nl, .nl, .nl, .nl, .nl, .nl, .nl, .nl, .nl, .nl] (tabC c3 (16 : Nat) fun x ↦ []) (σ' := ⟨[(2, .ptr (2) (0) (0) (0)), (3, .ptr (3) (0) (0) (0)), (4, .ptr (4) (0) (0) (0)), (9, .ptr (9) (0) (0) (0)), (10, .i .i64 ((0 : Int)))], [(2, ⟨0, 58, .var [.nl, .nl, .nl, .nl, .nl, .nl, .nl, .nl, .nl, .nl, .nl, .nl, .nl, .nl, .nl, .nl]⟩), (3, ⟨0, 56, .arr (tabC c3 (16 : Nat) A_1)⟩), (4, ⟨0, 56, .arr (tabC c3 (16 : Nat) B_2)⟩), (9, ⟨0, 58, .arr (tabC c3 (16 : Nat) fun x ↦ [])⟩)]⟩) (by kernel_rfl) (by kernel_rfl) (by kernel_rfl) (by kernel_rfl) (zle_nls c3 16) (by kernel_rfl) ?_
  refine st_loop (X := Int × (Nat → List Int) × (Nat → List Int) × (Nat → List Int)) (fun x => ⟨[(2, .ptr (2) (0) (0) (0)), (3, .ptr (3) (0) (0) (0)), (4, .ptr (4) (0) (0) (0)), (9, .ptr (9) (0) (0) (0)), (10, .i .i64 (x.fst))], [(2, ⟨0, 58, .var [.nl, .nl, .nl, .nl, .nl, .nl, .nl, .nl, .nl, .nl, .nl, .nl, .nl, .nl, .nl, .nl]⟩), (3, ⟨0, 56, .arr (tabC c3 (16 : Nat) x.snd.fst)⟩), (4, ⟨0, 56, .arr (tabC c3 (16 : Nat) x.snd.snd.fst)⟩), (9, ⟨0, 58, .arr (tabC c3 (16 : Nat) x.snd.snd.snd)⟩)]⟩) (fun x ↦ decMd x.fst x.snd.fst x.snd.snd.fst x.snd.snd.snd) (fun x ↦ invMd A_1 B_2 x.fst x.snd.fst x.snd.snd.fst x.snd.snd.snd) [2, 3, 4, 9, 10] [2, 3, 4, 9] (((0 : Int), A_1, B_2, fun x ↦ [])) (by kernel_rfl) (by kernel_rfl) (show invMd A_1 B_2 (0 : Int) A_1 B_2 fun x ↦ [] from ?g17) ?_; rotate_left 1
  rintro ⟨r_33, A_34, B_35, S_36⟩ h_37
  obtain ⟨h_38, h_39, h_40, h_41, h_42⟩ : A_34 = A_1 ∧ B_35 = B_2 ∧ (0 : Int) ≤ r_33 ∧ r_33 ≤ (16 : Int) ∧ isMean (zT A_1 B_2) r_33 S_36 := h_37
  refine sq ?_
  refine sq ?_
  refine rg (A := (AV.b (decide (r_33 < (16 : Int))) = AV.b (decide (r_33 < (16 : Int))))) cx [(1, { tell := some (.b (decide (r_33 < (16 : Int)))) })] [2, 3, 4, 9, 10, 102] [2, 3, 4, 9] (by kernel_rfl) ?_
  refine sn ?_
  refine st_dec (r_33 < (16 : Int)) (by kernel_rfl) (by kernel_rfl) (fun h_43 => ?_) (fun h_43 => ?_)
  refine st_skip (by kernel_rfl) ?_
  refine sn ?_
  refine sq ?_
  refine st_block 7 (by kernel_rfl) ?_
  have hl_44 := (rng_nrm (zipR (A_34 r_33.toNat) (B_35 r_33.toNat)))
  refine ra (A := ((0 : Int) ≤ r_33) ∧ (r_33 < (↑(16 : Nat) : Int)) ∧ ((tabC c3 (16 : Nat) A_34)[r_33.toNat * (1 : Nat) + 0]? = some (AV.sl (List.map c3 (A_34 r_33.toNat)))) ∧ ((0 : Int) ≤ r_33) ∧ (r_33 < (↑(16 : Nat) : Int)) ∧ ((tabC c3 (16 : Nat) B_35)[r_33.toNat * (1 : Nat) + 0]? = some (AV.sl (List.map c3 (B_35 r_33.toNat)))) ∧ _ ∧ ((0 : Int) ≤ r_33) ∧ (r_33 < (↑(16 : Nat) : Int)) ∧ (r_33.toNat * (1 : Nat) + 0 < (tabC c3 (16 : Nat) S_36).length) ∧ (cellsA (AV.sl (List.map c3 (turnsR (nrm (zipR (A_34 r_33.toNat) (B_35 r_33.toNat)))))) = [(cellsA (AV.sl (List.map c3 (turnsR (nrm (zipR (A_34 r_33.toNat) (B_35 r_33.toNat))))))).headD AV.dead]) ∧ ((tabC c3 (16 : Nat) S_36).set (r_33.toNat * (1 : Nat) + 0) ((cellsA (AV.sl (List.map c3 (turnsR (nrm (zipR (A_34 r_33.toNat) (B_35 r_33.toNat))))))).headD AV.dead) = tabC c3 (16 : Nat) (updF S_36 r_33.toNat (turnsR (nrm (zipR (A_34 r_33.toNat) (B_35 r_33.toNat))))))) cx [(3, { row := [.sl (List.map c3 (A_34 r_33.toNat))] }), (6, { row := [.sl (List.map c3 (B_35 r_33.toNat))] }), (7, { val := some (.sl (List.map c3 (turnsR (nrm (zipR (A_34 r_33.toNat) (B_35 r_33.toNat)))))) }), (10, { rows := some [(tabC c3 (16 : Nat) (updF S_36 r_33.toNat (turnsR (nrm (zipR (A_34 r_33.toNat) (B_35 r_33.toNat))))))] })] [2, 3, 4, 9, 10] [2, 3, 4, 9] ⟨(by (with_reducible assumption)), (by omega), (by (simp only [Nat.mul_one, Nat.add_zero, Nat.zero_add]; with_reducible refine get_tabC ?_; omega)), (by (with_reducible assumption)), (by omega), (by (simp only [Nat.mul_one, Nat.add_zero, Nat.zero_add]; with_reducible refine get_tabC ?_; omega)), (con62 (A_34 r_33.toNat) (B_35 r_33.toNat) ?g18 ?g19), (by (with_reducible assumption)), (by omega), ?g20, (by kernel_rfl), (by (simp only [Nat.mul_one, Nat.add_zero, Nat.zero_add]; (with_reducible refine set_tabC' ?_); exact Eq.refl _))⟩ ?_; rotate_left 3
  refine q_blk_normal ?_
  refine sn ?_
  refine rg (A := (AV.i IntKind.i64 (IntKind.i64.wrap (r_33 + (1 : Int))) = AV.i IntKind.i64 (r_33 + (1 : Int)))) cx [(1, { tell := some (.i .i64 (r_33 + (1 : Int))) })] [2, 3, 4, 9, 10] [2, 3, 4, 9] (told_i64 (by omega) (by omega)) ?_
  refine sn ?_
  refine loop_next ((r_33 + (1 : Int), A_34, B_35, updF S_36 r_33.toNat (turnsR (nrm (zipR (A_34 r_33.toNat) (B_35 r_33.toNat)))))) (by kernel_rfl) (show ((16 : Int) - (r_33 + (1 : Int))).toNat < ((16 : Int) - r_33).toNat from (by omega)) (show invMd A_1 B_2 (r_33 + (1 : Int)) A_34 B_35 (updF S_36 r_33.toNat (turnsR (nrm (zipR (A_34 r_33.toNat) (B_35 r_33.toNat))))) from ?g21); rotate_left 1
  refine st_exit 6 (by kernel_rfl) ?_
  refine q_seq_exit ?_
  refine q_seq_exit ?_
  refine q_blk_hit ?_
  refine sn ?_
  refine sq ?_
  refine rg (A := ((tabC c3 (16 : Nat) S_36).length = (16 : Nat))) cx [] [2] [2] (by kernel_rfl) ?_
  refine sn ?_
  refine st_ret (by kernel_rfl) ?_
  refine q_ret (r := .agg [.sl (List.map c3 (S_36 (0))), .sl (List.map c3 (S_36 (1))), .sl (List.map c3 (S_36 (2))), .sl (List.map c3 (S_36 (3))), .sl (List.map c3 (S_36 (4))), .sl (List.map c3 (S_36 (5))), .sl (List.map c3 (S_36 (6))), .sl (List.map c3 (S_36 (7))), .sl (List.map c3 (S_36 (8))), .sl (List.map c3 (S_36 (9))), .sl (List.map c3 (S_36 (10))), .sl (List.map c3 (S_36 (11))), .sl (List.map c3 (S_36 (12))), .sl (List.map c3 (S_36 (13))), .sl (List.map c3 (S_36 (14))), .sl (List.map c3 (S_36 (15)))]) (obl := []) (by kernel_rfl) trivial (AVle.eq (show AV.agg [AV.sl (List.map c3 (S_36 (0))), AV.sl (List.map c3 (S_36 (1))), AV.sl (List.map c3 (S_36 (2))), AV.sl (List.map c3 (S_36 (3))), AV.sl (List.map c3 (S_36 (4))), AV.sl (List.map c3 (S_36 (5))), AV.sl (List.map c3 (S_36 (6))), AV.sl (List.map c3 (S_36 (7))), AV.sl (List.map c3 (S_36 (8))), AV.sl (List.map c3 (S_36 (9))), AV.sl (List.map c3 (S_36 (10))), AV.sl (List.map c3 (S_36 (11))), AV.sl (List.map c3 (S_36 (12))), AV.sl (List.map c3 (S_36 (13))), AV.sl (List.map c3 (S_36 (14))), AV.sl (List.map c3 (S_36 (15)))] = AV.agg (c58 (tnS (nrmT (openT ps)))) from ?g22)); rotate_left 1
  rotate_left
  revert i_0 A_1 B_2 h_4 h_5 h_6 h_7 h_8; rotate_left
  revert i_0 A_1 B_2 h_4 h_5 h_6 h_7 h_8 j_9 A_10 B_11 h_13 h_14 h_15 h_16 h_17 h_20; rotate_left
  revert i_0 A_1 B_2 h_4 h_5 h_6 h_7 h_8 j_9 A_10 B_11 h_13 h_14 h_15 h_16 h_17 h_20; rotate_left
  revert i_0 A_1 B_2 h_4 h_5 h_6 h_7 h_8 j_9 A_10 B_11 h_13 h_14 h_15 h_16 h_17 h_20; rotate_left
  revert i_0 A_1 B_2 h_4 h_5 h_6 h_7 h_8 j_9 A_10 B_11 h_13 h_14 h_15 h_16 h_17 h_20; rotate_left
  revert i_0 A_1 B_2 h_4 h_5 h_6 h_7 h_8 j_9 A_10 B_11 h_13 h_14 h_15 h_16 h_17 h_20; rotate_left
  revert i_0 A_1 B_2 h_4 h_5 h_6 h_7 h_8 j_9 A_10 B_11 h_13 h_14 h_15 h_16 h_17 h_20; rotate_left
  revert i_0 A_1 B_2 h_4 h_5 h_6 h_7 h_8 j_9 A_10 B_11 h_13 h_14 h_15 h_16 h_17 h_20 j_21 A_22 B_23 h_25 h_26 h_27 h_28 h_29 h_32; rotate_left
  revert i_0 A_1 B_2 h_4 h_5 h_6 h_7 h_8 j_9 A_10 B_11 h_13 h_14 h_15 h_16 h_17 h_20 j_21 A_22 B_23 h_25 h_26 h_27 h_28 h_29 h_32; rotate_left
  revert i_0 A_1 B_2 h_4 h_5 h_6 h_7 h_8 j_9 A_10 B_11 h_13 h_14 h_15 h_16 h_17 h_20 j_21 A_22 B_23 h_25 h_26 h_27 h_28 h_29 h_32; rotate_left
  revert i_0 A_1 B_2 h_4 h_5 h_6 h_7 h_8 j_9 A_10 B_11 h_13 h_14 h_15 h_16 h_17 h_20 j_21 A_22 B_23 h_25 h_26 h_27 h_28 h_29 h_32; rotate_left
  revert i_0 A_1 B_2 h_4 h_5 h_6 h_7 h_8 j_9 A_10 B_11 h_13 h_14 h_15 h_16 h_17 h_20 j_21 A_22 B_23 h_25 h_26 h_27 h_28 h_29 h_32; rotate_left
  revert i_0 A_1 B_2 h_4 h_5 h_6 h_7 h_8 j_9 A_10 B_11 h_13 h_14 h_15 h_16 h_17 h_20 j_21 A_22 B_23 h_25 h_26 h_27 h_28 h_29 h_32; rotate_left
  revert i_0 A_1 B_2 h_4 h_5 h_6 h_7 h_8 j_9 A_10 B_11 h_13 h_14 h_15 h_16 h_17 h_20 j_21 A_22 B_23 h_25 h_26 h_27 h_28 h_29 h_32; rotate_left
  revert i_0 A_1 B_2 h_4 h_5 h_6 h_7 h_8 j_9 A_10 B_11 h_13 h_14 h_15 h_16 h_17 h_20 j_21 A_22 B_23 h_25 h_26 h_27 h_28 h_29 h_32; rotate_left
  revert i_0 A_1 B_2 h_4 h_5 h_6 h_7 h_8 j_9 A_10 B_11 h_13 h_14 h_15 h_16 h_17 h_20 j_21 A_22 B_23 h_25 h_26 h_27 h_28 h_29; rotate_left
  revert i_0 A_1 B_2 h_4 h_5 h_6 h_7 h_8; rotate_left
  clear hl_44; revert i_0 A_1 B_2 h_4 h_5 h_6 h_7 h_8 r_33 A_34 B_35 S_36 h_38 h_39 h_40 h_41 h_42 h_43; rotate_left
  clear hl_44; revert i_0 A_1 B_2 h_4 h_5 h_6 h_7 h_8 r_33 A_34 B_35 S_36 h_38 h_39 h_40 h_41 h_42 h_43; rotate_left
  clear hl_44; revert i_0 A_1 B_2 h_4 h_5 h_6 h_7 h_8 r_33 A_34 B_35 S_36 h_38 h_39 h_40 h_41 h_42 h_43; rotate_left
  clear hl_44; revert i_0 A_1 B_2 h_4 h_5 h_6 h_7 h_8 r_33 A_34 B_35 S_36 h_38 h_39 h_40 h_41 h_42 h_43; rotate_left
  revert i_0 A_1 B_2 h_4 h_5 h_6 h_7 h_8 r_33 A_34 B_35 S_36 h_38 h_39 h_40 h_41 h_42 h_43; rotate_left
  case g0 => exact ⟨by omega, by omega, fun r _ => rfl, fun r _ => rfl⟩
  case g1 => intro i A B h0 h1 h3 h4 h5; exact ⟨by omega, by omega, by omega, h3, openV_start h4⟩
  case g6 =>
    intro i A B h0 h1 h3 h4 h5 j X Y k0 k1 k2 k4 k5 k6
    exact ⟨by omega, by omega, by omega, isLen_upd k4, fun r hr => by rw [zT_upd (k4 _ (by omega))]; exact openV_next k0 k6.1 k5 r hr⟩
  case g7 => intro i A B h0 h1 h3 h4 h5 j X Y k0 k1 k2 k4 k5 k6; exact ⟨by omega, by omega, k4, openC_start (by omega) (by omega) k5⟩
  case g13 =>
    intro i A B h0 h1 h3 h4 h5 j X Y k0 k1 k2 k4 k5 k6 l V W m0 m1 m3 m4 m5 m6
    exact ⟨by omega, by omega, isLen_upd m3, fun r hr => by rw [zT_upd (m3 _ (by omega))]; exact openC_in m0 m5 m6 m4 r hr⟩
  case g15 => intro i A B h0 h1 h3 h4 h5 j X Y k0 k1 k2 k4 k5 k6 l V W m0 m1 m3 m4 m5 m6; exact ⟨by omega, by omega, m3, openC_out m0 m5 m6 m4⟩
  case g16 => intro i A B h0 h1 h3 h4 h5 j X Y k0 k1 k2 k4 k5 k6 l V W m0 m1 m3 m4 m5; exact ⟨by omega, by omega, m3, open_next h0 h5 m5 m4⟩
  case g17 => intro i A B h0 h1 h3 h4 h5; exact ⟨rfl, rfl, by omega, by omega, fun k hk => by omega⟩
  case g18 => intro i A B h0 h1 h3 h4 h5 r X Y S k0 k1 k2 k3 k4 k5; subst k0 k1; exact h3 _ (by omega)
  case g19 =>
    intro i A B h0 h1 h3 h4 h5 r X Y S k0 k1 k2 k3 k4 k5
    subst k0 k1
    have := zT_len h3 (r := r.toNat) (by omega)
    have := openT_len r.toNat (ps.take i.toNat)
    rw [h4 _ (by omega)] at *
    rw [List.take_of_length_le (by omega)] at *
    omega
  case g20 => intro i A B h0 h1 h3 h4 h5 r X Y S k0 k1 k2 k3 k4 k5; rw [tabC_len]; omega
  case g21 => intro i A B h0 h1 h3 h4 h5 r X Y S k0 k1 k2 k3 k4 k5; subst k0 k1; exact ⟨rfl, rfl, by omega, by omega, isMean_next k2 k4⟩
  case g22 =>
    intro i A B h0 h1 h3 h4 h5 r X Y S k0 k1 k2 k3 k4 k5
    congr 1
    show tabC c3 16 S = tabC c3 16 _
    unfold tabC
    refine List.map_congr_left fun q hq => ?_
    have hq : q < 16 := by simpa using hq
    rw [k4 q (by omega)]
    unfold tnS nrmT
    rw [h4 q hq, List.take_of_length_le (by omega)]
  all_goals
    intro i A B h0 h1 h3 h4 h5 j X Y k0 k1 k2 k4 k5 k6
    first
    | (have l1 := openV_len h0 h5 k5 (r := j.toNat) (by omega) (by omega)
       have l2 := zT_len k4 (r := j.toNat) (by omega)
       simp only [List.length_map, List.length_cons, List.length_nil, Go.maxLen]
       omega)
    | (intro l V W m0 m1 m3 m4 m5 m6
       have l0 := openC_len h0 h5 m0 m5 m4 (r := 0) (by omega)
       first
       | omega
       | (have l1 := openC_len h0 h5 m0 m5 m4 (r := ((ps[i.toNat]!).cloud[l.toNat]!).rep.toNat) (by omega)
          have l2 := zT_len m3 (r := ((ps[i.toNat]!).cloud[l.toNat]!).rep.toNat) (by omega)
          simp only [List.length_map, List.length_cons, List.length_nil, Go.maxLen]
          omega))
end Go.Proofs.Ytaiepnaokhpmcaa
namespace Go.Proofs.Ytaiepnaokhpmcaa
open Go.E
set_option maxRecDepth 100000
set_option maxHeartbeats 4000000
def invFa (U : Nat → List Run) (n r : Int) (S : Nat → List Int) (v : List Int) (c : List Span) : Prop := S = tnS U ∧ 0 ≤ r ∧ r ≤ 16 ∧ 0 ≤ n ∧ n ≤ r ∧ v.length = 16 ∧ isSz U r n ∧ isVec U r v ∧ isCloud U r c
def decFa (n r : Int) (S : Nat → List Int) (v : List Int) (c : List Span) : Nat := (16 - r).toNat
def isIn (U : Nat → List Run) (r n0 : Int) (v0 : List Int) (c0 : List Span) (k n : Int) (v : List Int) (c : List Span) : Prop :=
  n = (if 0 < (leadR ((U r.toNat).take (k / 2).toNat)).1 then r + 1 else n0) ∧ v = v0.set r.toNat (leadR ((U r.toNat).take (k / 2).toNat)).1 ∧ c = c0 ++ (leadR ((U r.toNat).take (k / 2).toNat)).2.map fun x => (⟨r, x.lo, x.hi⟩ : Span)
def invFb (U : Nat → List Run) (r n0 : Int) (v0 : List Int) (c0 : List Span) (n k : Int) (S : Nat → List Int) (v : List Int) (c : List Span) : Prop := S = tnS U ∧ 0 ≤ k ∧ k ≤ 2 * (U r.toNat).length ∧ 2 * (k / 2) = k ∧ v.length = 16 ∧ 0 ≤ n ∧ n ≤ r + 1 ∧ isIn U r n0 v0 c0 k n v c
def decFb (U : Nat → List Run) (r : Int) (n k : Int) (S : Nat → List Int) (v : List Int) (c : List Span) : Nat := (2 * (U r.toNat).length - k).toNat
theorem turns_len (l : List Run) : (turnsR l).length = 2 * l.length := by
  induction l with
  | nil => rfl
  | cons r l ih =>
    have : turnsR (r :: l) = r.lo :: (r.hi + 1) :: turnsR l := rfl
    rw [this]; simp only [List.length_cons, ih]; omega
theorem turns_at : ∀ {l : List Run} {j : Nat}, j < l.length → (turnsR l)[2 * j]! = l[j]!.lo ∧ (turnsR l)[2 * j + 1]! = l[j]!.hi + 1
  | r :: l, 0, _ => ⟨rfl, rfl⟩
  | r :: l, j + 1, h => by
    have e : turnsR (r :: l) = r.lo :: (r.hi + 1) :: turnsR l := rfl
    have ih := turns_at (l := l) (j := j) (by simpa using h)
    rw [e, show 2 * (j + 1) = 2 * j + 1 + 1 by omega]
    simpa using ih
theorem lead_one {x : Run} (h : x.lo = 1) : leadR [x] = (x.hi, []) := by
  unfold leadR
  rw [if_neg]
  · rfl
  · rintro (k | k)
    · cases k
    · exact k h
theorem lead_snoc {P : List Run} {x : Run} (h : P = [] → ¬ x.lo = 1) : leadR (P ++ [x]) = ((leadR P).1, (leadR P).2 ++ [x]) := by
  cases P with
  | nil =>
    show leadR [x] = _
    unfold leadR
    rw [if_pos (.inr (h rfl)), if_pos (.inl rfl)]
    rfl
  | cons y P =>
    unfold leadR
    by_cases hy : y.lo = 1
    · rw [if_neg, if_neg]
      · simp
      · simpa using hy
      · simpa using hy
    · rw [if_pos, if_pos]
      · simpa using hy
      · simpa using hy
theorem lead_len (P : List Run) : (leadR P).2.length ≤ P.length := by
  unfold leadR
  split
  · exact Nat.le_refl _
  · simp
theorem isIn_start {U : Nat → List Run} {r n0 : Int} {v0 : List Int} {c0 : List Span} (h0 : 0 ≤ r) (h1 : r < 16) (hv : isVec U r v0) : isIn U r n0 v0 c0 0 n0 v0 c0 := by
  unfold isIn
  refine ⟨?_, ?_, ?_⟩
  · show n0 = if (0 : Int) < (leadR []).1 then _ else _
    rw [lead_nil, if_neg (by omega)]
  · show v0 = v0.set r.toNat (leadR []).1
    rw [lead_nil]
    unfold isVec vecT at hv
    have e : 16 - r.toNat = (15 - r.toNat) + 1 := by omega
    rw [hv, List.set_append_right _ _ (by simp), List.length_map, List.length_range, Nat.sub_self, e, List.replicate_succ, List.set_cons_zero]
  · show c0 = c0 ++ List.map _ (leadR []).2
    rw [lead_nil]; simp
theorem take_at {l : List Run} {k : Int} (h0 : 0 ≤ k) (he : 2 * (k / 2) = k) (hk : k + 1 < 2 * l.length) : l.take ((k + 2) / 2).toNat = l.take (k / 2).toNat ++ [l[(k / 2).toNat]!] := by
  have := take_step (a := l) (i := k / 2) (by omega) (by omega)
  rw [show ((k + 2) / 2).toNat = (k / 2 + 1).toNat by omega, this]
theorem isIn_one {U : Nat → List Run} {r n0 n k : Int} {v0 v : List Int} {c0 c : List Span} (hU : sepR (U r.toNat)) (h0 : 0 ≤ k) (he : 2 * (k / 2) = k) (hk : k + 1 < 2 * (U r.toNat).length) (hlo : (U r.toNat)[(k / 2).toNat]!.lo = 1) (h : isIn U r n0 v0 c0 k n v c) :
    isIn U r n0 v0 c0 (k + 2) (r + 1) (v.set r.toNat (U r.toNat)[(k / 2).toNat]!.hi) c := by
  have h1 := sepR_lo hU (k / 2).toNat (by omega)
  have h2 := hU.2 _ (bang_in (l := U r.toNat) (i := (k / 2).toNat) (by omega))
  have hz : k = 0 := by omega
  subst hz
  unfold isIn at *
  rw [take_at h0 he hk]
  obtain ⟨a1, a2, a3⟩ := h
  have e : (U r.toNat).take ((0 : Int) / 2).toNat = [] := by simp
  rw [e] at a1 a2 a3 ⊢
  rw [List.nil_append, lead_one hlo]
  rw [lead_nil] at a2 a3
  refine ⟨?_, ?_, ?_⟩
  · rw [if_pos (show (0 : Int) < (U r.toNat)[((0 : Int) / 2).toNat]!.hi by omega)]
  · rw [a2, List.set_set]
  · exact a3
theorem isIn_snoc {U : Nat → List Run} {r n0 n k : Int} {v0 v : List Int} {c0 c : List Span} (h0 : 0 ≤ k) (he : 2 * (k / 2) = k) (hk : k + 1 < 2 * (U r.toNat).length) (hlo : ¬ (U r.toNat)[(k / 2).toNat]!.lo = 1) (h : isIn U r n0 v0 c0 k n v c) :
    isIn U r n0 v0 c0 (k + 2) n v (c ++ [⟨r, (U r.toNat)[(k / 2).toNat]!.lo, (U r.toNat)[(k / 2).toNat]!.hi⟩]) := by
  unfold isIn at *
  rw [take_at h0 he hk, lead_snoc (fun _ => hlo)]
  obtain ⟨a1, a2, a3⟩ := h
  refine ⟨a1, a2, ?_⟩
  rw [a3, List.map_append, List.append_assoc]
  rfl
theorem isIn_end {U : Nat → List Run} {r n0 n k : Int} {v0 v : List Int} {c0 c : List Span} (hU : sepR (U r.toNat)) (r0 : 0 ≤ r) (r1 : r < 16) (hs : isSz U r n0) (hv : isVec U r v0) (hc : isCloud U r c0) (h0 : 0 ≤ k) (he : 2 * (k / 2) = k) (hk : ¬ k + 1 < 2 * (U r.toNat).length) (hl : k ≤ 2 * (U r.toNat).length)
    (h : isIn U r n0 v0 c0 k n v c) : isSz U (r + 1) n ∧ isVec U (r + 1) v ∧ isCloud U (r + 1) c := by
  unfold isIn at h
  rw [List.take_of_length_le (by omega)] at h
  obtain ⟨a1, a2, a3⟩ := h
  have g1 := sz_next r0 hs
  have g2 := vec_next r0 r1 hv
  rw [nrm_id hU] at g1 g2
  rw [a1, a2]
  refine ⟨g1, g2, ?_⟩
  unfold isCloud at *
  rw [show (r + 1).toNat = r.toNat + 1 by omega, cloudT, restT, nrm_id hU, a3, hc, show ((r.toNat : Nat) : Int) = r by omega]
theorem tn_at {U : Nat → List Run} {r k : Int} (h0 : 0 ≤ k) (he : 2 * (k / 2) = k) (hk : k + 1 < 2 * (U r.toNat).length) : (tnS U r.toNat)[k.toNat]! = (U r.toNat)[(k / 2).toNat]!.lo ∧ (tnS U r.toNat)[(k + 1).toNat]! = (U r.toNat)[(k / 2).toNat]!.hi + 1 := by
  have := turns_at (l := U r.toNat) (j := (k / 2).toNat) (by omega)
  unfold tnS
  rw [show k.toNat = 2 * (k / 2).toNat by omega, show (k + 1).toNat = 2 * (k / 2).toNat + 1 by omega]
  exact this
theorem isIn_len {U : Nat → List Run} {r n0 n k : Int} {v0 v : List Int} {c0 c : List Span} (hU : sepR (U r.toNat)) (r0 : 0 ≤ r) (r1 : r < 16) (hc : isCloud U r c0) (h : isIn U r n0 v0 c0 k n v c) : c.length ≤ 8000000000 := by
  obtain ⟨_, _, a3⟩ := h
  have h1 := cloud_len U r.toNat
  have h2 := lead_len ((U r.toNat).take (k / 2).toNat)
  have h3 := sepR_len hU
  unfold isCloud at hc
  rw [List.length_take] at h2
  rw [a3, List.length_append, List.length_map, hc]
  omega
theorem con44 (U : Nat → List Run) (hU : ∀ r : Nat, r < 16 → sepR (U r)) : Con Try.prog 44 [.agg (c58 (tnS U))] (.agg (c25 (tabP U))) :=
  by
  refine st_con tab_ok (by kernel_rfl) [.cell 2 25] 73 Go.Proofs.Try.func44 (by kernel_rfl) (by kernel_rfl) ?_
  intro e0 cx
  refine sq ?_
  refine rg (A := True) cx [] [1, 2] [1, 2] trivial ?_
  refine sn ?_
  refine sq ?_
  refine rg (A := True) cx [] [1, 2, 3] [1, 2, 3] trivial ?_
  refine sn ?_
  refine sq ?_
  refine rg (A := ((16 : Int) = (↑(16 : Nat) : Int)) ∧ ((16 : Int) = (↑(16 : Nat) : Int)) ∧ ((8 : Nat) * (16 : Nat) ≤ (281474976710656 : Nat)) ∧ ((16 : Nat) ≤ maxLen) ∧ ([AV.i IntKind.i64 (0 : Int)].length = (1 : Nat)) ∧ (ZLe [AV.i IntKind.i64 (0 : Int)] [AV.i IntKind.i64 (0 : Int)]) ∧ (List.replicate (16 : Nat) [AV.i IntKind.i64 (0 : Int)] = List.map c3 (List.replicate (16 : Nat) (0 : Int)))) cx [(0, { row := [.i .i64 ((0 : Int))], rows := some (List.map c3 (List.replicate (16 : Nat) (0 : Int))), n := (16 : Nat) })] [1, 2, 3, 4] [1, 2, 3, 8] ⟨(by kernel_rfl), (by kernel_rfl), (by omega), (by (simp only [Go.maxLen]; omega)), (by kernel_rfl), (by (with_reducible exact ZLe.refl _)), (by (with_reducible refine rep_map ?_; kernel_rfl))⟩ ?_
  refine sn ?_
  refine sq ?_
  refine rg (A := True) cx [] [1, 2, 3, 4, 5] [1, 2, 3, 8] trivial ?_
  refine sn ?_
  refine sq ?_
  refine sq ?_
  refine rg (A := True) cx [] [1, 2, 3, 4, 5, 6] [1, 2, 3, 8] trivial ?_
  refine sn ?_
  refine st_block 0 (by kernel_rfl) ?_
  refine awp_cellIn 3 50 3 1 5301 (σ' := ⟨[(1, .ptr (1) (0) (0) (0)), (2, .ptr (2) (0) (0) (0)), (3, .ptr (3) (0) (0) (0)), (4, .own 8 0), (5, .i .i64 ((0 : Int))), (6, .i .i64 ((0 : Int)))], [(1, ⟨0, 58, .var [.sl (List.map c3 (tnS U (0))), .sl (List.map c3 (tnS U (1))), .sl (List.map c3 (tnS U (2))), .sl (List.map c3 (tnS U (3))), .sl (List.map c3 (tnS U (4))), .sl (List.map c3 (tnS U (5))), .sl (List.map c3 (tnS U (6))), .sl (List.map c3 (tnS U (7))), .sl (List.map c3 (tnS U (8))), .sl (List.map c3 (tnS U (9))), .sl (List.map c3 (tnS U (10))), .sl (List.map c3 (tnS U (11))), .sl (List.map c3 (tnS U (12))), .sl (List.map c3 (tnS U (13))), .sl (List.map c3 (tnS U (14))), .sl (List.map c3 (tnS U (15)))]⟩), (2, ⟨0, 25, .var [.nl, .nl]⟩), (3, ⟨0, 25, .var [.nl, .own 5301 0]⟩), (8, ⟨0, 3, .row 1 (List.map c3 (List.replicate (16 : Nat) (0 : Int)))⟩), (5301, ⟨0, 50, .row 3 (List.map c50 [])⟩)]⟩) (by kernel_rfl) ?_
  refine awp_varArr 1 ⟨0, 58, .var [.sl (List.map c3 (tnS U (0))), .sl (List.map c3 (tnS U (1))), .sl (List.map c3 (tnS U (2))), .sl (List.map c3 (tnS U (3))), .sl (List.map c3 (tnS U (4))), .sl (List.map c3 (tnS U (5))), .sl (List.map c3 (tnS U (6))), .sl (List.map c3 (tnS U (7))), .sl (List.map c3 (tnS U (8))), .sl (List.map c3 (tnS U (9))), .sl (List.map c3 (tnS U (10))), .sl (List.map c3 (tnS U (11))), .sl (List.map c3 (tnS U (12))), .sl (List.map c3 (tnS U (13))), .sl (List.map c3 (tnS U (14))), .sl (List.map c3 (tnS U (15)))]⟩ [.sl (List.map c3 (tnS U (0))), .sl (List.map c3 (tnS U (1))), .sl (List.map c3 (tnS U (2))), .sl (List.map c3 (tnS U (3))), .sl (List.map c3 (tnS U (4))), .sl (List.map c3 (tnS U (5))), .sl (List.map c3 (tnS U (6))), .sl (List.map c3 (tnS U (7))), .sl (List.map c3 (tnS U (8))), .sl (List.map c3 (tnS U (9))), .sl (List.map c3 (tnS U (10))), .sl (List.map c3 (tnS U (11))), .sl (List.map c3 (tnS U (12))), .sl (List.map c3 (tnS U (13))), .sl (List.map c3 (tnS U (14))), .sl (List.map c3 (tnS U (15)))] (tabC c3 (16 : Nat) (tnS U)) (σ' := ⟨[(1, .ptr (1) (0) (0) (0)), (2, .ptr (2) (0) (0) (0)), (3, .ptr (3) (0) (0) (0)), (4, .own 8 0), (5, .i .i64 ((0 : Int))), (6, .i .i64 ((0 : Int)))], [(1, ⟨0, 58, .arr (tabC c3 (16 : Nat) (tnS U))⟩), (2, ⟨0, 25, .var [.nl, .nl]⟩), (3, ⟨0, 25, .var [.nl, .own 5301 0]⟩), (8, ⟨0, 3, .row 1 (List.map c3 (List.replicate (16 : Nat) (0 : Int)))⟩), (5301, ⟨0, 50, .row 3 (List.map c50 [])⟩)]⟩) (by kernel_rfl) (by kernel_rfl) (by kernel_rfl) (by kernel_rfl) (ZLe.of_eq (by kernel_rfl)) (by kernel_rfl) ?_
  refine st_loop (X := Int × Int × (Nat → List Int) × List Int × List Span) (fun x => ⟨[(1, .ptr (1) (0) (0) (0)), (2, .ptr (2) (0) (0) (0)), (3, .ptr (3) (0) (0) (0)), (4, .own 8 0), (5, .i .i64 (x.fst)), (6, .i .i64 (x.snd.fst))], [(1, ⟨0, 58, .arr (tabC c3 (16 : Nat) x.snd.snd.fst)⟩), (2, ⟨0, 25, .var [.nl, .nl]⟩), (3, ⟨0, 25, .var [.nl, .own 5301 0]⟩), (8, ⟨0, 3, .row 1 (List.map c3 x.snd.snd.snd.fst)⟩), (5301, ⟨0, 50, .row 3 (List.map c50 x.snd.snd.snd.snd)⟩)]⟩) (fun x ↦ decFa x.fst x.snd.fst x.snd.snd.fst x.snd.snd.snd.fst x.snd.snd.snd.snd) (fun x ↦ invFa U x.fst x.snd.fst x.snd.snd.fst x.snd.snd.snd.fst x.snd.snd.snd.snd) [1, 2, 3, 4, 5, 6] [1, 2, 3, 8, 5301] (((0 : Int), (0 : Int), tnS U, List.replicate (16 : Nat) (0 : Int), [])) (by kernel_rfl) (by kernel_rfl) (show invFa U (0 : Int) (0 : Int) (tnS U) (List.replicate (16 : Nat) (0 : Int)) [] from ?g0) ?_; rotate_left 1
  rintro ⟨n_0, r_1, S_2, v_3, c_4⟩ h_5
  obtain ⟨h_6, h_7, h_8, h_9, h_10, h_11, h_12, h_13, h_14⟩ : S_2 = tnS U ∧ (0 : Int) ≤ r_1 ∧ r_1 ≤ (16 : Int) ∧ (0 : Int) ≤ n_0 ∧ n_0 ≤ r_1 ∧ v_3.length = (16 : Nat) ∧ isSz U r_1 n_0 ∧ isVec U r_1 v_3 ∧ isCloud U r_1 c_4 := h_5
  refine sq ?_
  refine sq ?_
  refine rg (A := (AV.b (decide (r_1 < (16 : Int))) = AV.b (decide (r_1 < (16 : Int))))) cx [(1, { tell := some (.b (decide (r_1 < (16 : Int)))) })] [1, 2, 3, 4, 5, 6, 10] [1, 2, 3, 8, 5301] (by kernel_rfl) ?_
  refine sn ?_
  refine st_dec (r_1 < (16 : Int)) (by kernel_rfl) (by kernel_rfl) (fun h_15 => ?_) (fun h_15 => ?_)
  refine st_skip (by kernel_rfl) ?_
  refine sn ?_
  refine sq ?_
  refine st_block 1 (by kernel_rfl) ?_
  refine sq ?_
  refine rg (A := True) cx [] [1, 2, 3, 4, 5, 6, 7] [1, 2, 3, 8, 5301] trivial ?_
  refine sn ?_
  refine st_block 2 (by kernel_rfl) ?_
  refine st_loop (X := Int × Int × (Nat → List Int) × List Int × List Span) (fun x => ⟨[(1, .ptr (1) (0) (0) (0)), (2, .ptr (2) (0) (0) (0)), (3, .ptr (3) (0) (0) (0)), (4, .own 8 0), (5, .i .i64 (x.fst)), (6, .i .i64 (r_1)), (7, .i .i64 (x.snd.fst))], [(1, ⟨0, 58, .arr (tabC c3 (16 : Nat) x.snd.snd.fst)⟩), (2, ⟨0, 25, .var [.nl, .nl]⟩), (3, ⟨0, 25, .var [.nl, .own 5301 0]⟩), (8, ⟨0, 3, .row 1 (List.map c3 x.snd.snd.snd.fst)⟩), (5301, ⟨0, 50, .row 3 (List.map c50 x.snd.snd.snd.snd)⟩)]⟩) (fun x ↦ decFb U r_1 x.fst x.snd.fst x.snd.snd.fst x.snd.snd.snd.fst x.snd.snd.snd.snd) (fun x ↦ invFb U r_1 n_0 v_3 c_4 x.fst x.snd.fst x.snd.snd.fst x.snd.snd.snd.fst x.snd.snd.snd.snd) [1, 2, 3, 4, 5, 6, 7] [1, 2, 3, 8, 5301] ((n_0, (0 : Int), S_2, v_3, c_4)) (by kernel_rfl) (by kernel_rfl) (show invFb U r_1 n_0 v_3 c_4 n_0 (0 : Int) S_2 v_3 c_4 from ?g1) ?_; rotate_left 1
  rintro ⟨n_16, k_17, S_18, v_19, c_20⟩ h_21
  obtain ⟨h_22, h_23, h_24, h_25, h_26, h_27, h_28, h_29⟩ : S_18 = tnS U ∧ (0 : Int) ≤ k_17 ∧ k_17 ≤ (2 : Int) * (↑(U r_1.toNat).length : Int) ∧ (2 : Int) * (k_17 / (2 : Int)) = k_17 ∧ v_19.length = (16 : Nat) ∧ (0 : Int) ≤ n_16 ∧ n_16 ≤ r_1 + (1 : Int) ∧ isIn U r_1 n_0 v_3 c_4 k_17 n_16 v_19 c_20 := h_21
  refine sq ?_
  refine sq ?_
  refine rg (A := (AV.i IntKind.i64 (IntKind.i64.wrap (k_17 + (1 : Int))) = AV.i IntKind.i64 (k_17 + (1 : Int))) ∧ ((0 : Int) ≤ r_1) ∧ (r_1 < (↑(16 : Nat) : Int)) ∧ ((tabC c3 (16 : Nat) S_18)[r_1.toNat * (1 : Nat) + 0]? = some (AV.sl (List.map c3 (S_18 r_1.toNat)))) ∧ _ ∧ (AV.b (decide (k_17 + (1 : Int) < (↑(S_18 r_1.toNat).length : Int))) = AV.b (decide (k_17 + (1 : Int) < (↑(S_18 r_1.toNat).length : Int))))) cx [(1, { tell := some (.i .i64 (k_17 + (1 : Int))) }), (5, { row := [.sl (List.map c3 (S_18 r_1.toNat))] }), (6, { tell := some (.i .i64 ((↑(S_18 r_1.toNat).length : Int))) }), (7, { tell := some (.b (decide (k_17 + (1 : Int) < (↑(S_18 r_1.toNat).length : Int)))) })] [1, 2, 3, 4, 5, 6, 7, 20] [1, 2, 3, 8, 5301] ⟨(told_i64 (by omega) ?g2), (by (with_reducible assumption)), (by omega), (by (simp only [Nat.mul_one, Nat.add_zero, Nat.zero_add]; with_reducible refine get_tabC ?_; omega)), (told_len c3 (S_18 r_1.toNat)), (by kernel_rfl)⟩ ?_; rotate_left 1
  refine sn ?_
  refine st_dec (k_17 + (1 : Int) < (↑(S_18 r_1.toNat).length : Int)) (by kernel_rfl) (by kernel_rfl) (fun h_30 => ?_) (fun h_30 => ?_)
  refine st_skip (by kernel_rfl) ?_
  refine sn ?_
  refine sq ?_
  refine st_block 3 (by kernel_rfl) ?_
  refine sq ?_
  refine rg (A := ((0 : Int) ≤ r_1) ∧ (r_1 < (↑(16 : Nat) : Int)) ∧ ((tabC c3 (16 : Nat) S_18)[r_1.toNat * (1 : Nat) + 0]? = some (AV.sl (List.map c3 (S_18 r_1.toNat)))) ∧ ((0 : Int) ≤ k_17) ∧ ((List.map c3 (S_18 r_1.toNat))[k_17.toNat]? = some (c3 (S_18 r_1.toNat)[k_17.toNat]!)) ∧ ((c3 (S_18 r_1.toNat)[k_17.toNat]!).length = (1 : Nat)) ∧ (AV.b ((S_18 r_1.toNat)[k_17.toNat]! == (1 : Int)) = AV.b (decide ((S_18 r_1.toNat)[k_17.toNat]! = (1 : Int))))) cx [(3, { row := [.sl (List.map c3 (S_18 r_1.toNat))] }), (5, { row := (c3 (S_18 r_1.toNat)[k_17.toNat]!) }), (7, { tell := some (.b (decide ((S_18 r_1.toNat)[k_17.toNat]! = (1 : Int)))) })] [1, 2, 3, 4, 5, 6, 7, 30] [1, 2, 3, 8, 5301] ⟨(by (with_reducible assumption)), (by omega), (by (simp only [Nat.mul_one, Nat.add_zero, Nat.zero_add]; with_reducible refine get_tabC ?_; omega)), (by (with_reducible assumption)), (by (with_reducible refine get_map ?_; omega)), (by kernel_rfl), (by kernel_rfl)⟩ ?_
  refine sn ?_
  refine st_dec ((S_18 r_1.toNat)[k_17.toNat]! = (1 : Int)) (by kernel_rfl) (by kernel_rfl) (fun h_31 => ?_) (fun h_31 => ?_)
  refine sq ?_
  refine rg (A := ((0 : Int) ≤ r_1) ∧ (r_1 < (↑(16 : Nat) : Int)) ∧ ((tabC c3 (16 : Nat) S_18)[r_1.toNat * (1 : Nat) + 0]? = some (AV.sl (List.map c3 (S_18 r_1.toNat)))) ∧ (AV.i IntKind.i64 (IntKind.i64.wrap (k_17 + (1 : Int))) = AV.i IntKind.i64 (k_17 + (1 : Int))) ∧ ((0 : Int) ≤ k_17 + (1 : Int)) ∧ ((List.map c3 (S_18 r_1.toNat))[(k_17 + (1 : Int)).toNat]? = some (c3 (S_18 r_1.toNat)[(k_17 + (1 : Int)).toNat]!)) ∧ ((c3 (S_18 r_1.toNat)[(k_17 + (1 : Int)).toNat]!).length = (1 : Nat)) ∧ (AV.i IntKind.i64 (IntKind.i64.wrap ((S_18 r_1.toNat)[(k_17 + (1 : Int)).toNat]! - (1 : Int))) = AV.i IntKind.i64 ((S_18 r_1.toNat)[(k_17 + (1 : Int)).toNat]! - (1 : Int))) ∧ ((0 : Int) ≤ r_1) ∧ (r_1.toNat < (List.map c3 v_19).length) ∧ ((1 : Nat) = 1) ∧ ((List.map c3 v_19)[r_1.toNat]? = some (c3 v_19[r_1.toNat]!)) ∧ ((cellsA (AV.i IntKind.i64 ((S_18 r_1.toNat)[(k_17 + (1 : Int)).toNat]! - (1 : Int)))).length = (1 : Nat)) ∧ (0 + (1 : Nat) ≤ 1) ∧ ((List.map c3 v_19).set r_1.toNat (List.take (0) (c3 v_19[r_1.toNat]!) ++ cellsA (AV.i IntKind.i64 ((S_18 r_1.toNat)[(k_17 + (1 : Int)).toNat]! - (1 : Int))) ++ List.drop (0 + (1 : Nat)) (c3 v_19[r_1.toNat]!)) = List.map c3 (v_19.set r_1.toNat ((S_18 r_1.toNat)[(k_17 + (1 : Int)).toNat]! - (1 : Int))))) cx [(5, { row := [.sl (List.map c3 (S_18 r_1.toNat))] }), (7, { tell := some (.i .i64 (k_17 + (1 : Int))) }), (8, { row := (c3 (S_18 r_1.toNat)[(k_17 + (1 : Int)).toNat]!) }), (10, { tell := some (.i .i64 ((S_18 r_1.toNat)[(k_17 + (1 : Int)).toNat]! - (1 : Int))) }), (12, { row := (c3 v_19[r_1.toNat]!), rows := some (List.map c3 (v_19.set r_1.toNat ((S_18 r_1.toNat)[(k_17 + (1 : Int)).toNat]! - (1 : Int)))) })] [1, 2, 3, 4, 6, 7] [1, 2, 3, 8, 5301] ⟨(by (with_reducible assumption)), (by omega), (by (simp only [Nat.mul_one, Nat.add_zero, Nat.zero_add]; with_reducible refine get_tabC ?_; omega)), (told_i64 (by omega) ?g3), (by omega), (by (with_reducible refine get_map ?_; omega)), (by kernel_rfl), (told_i64 ?g4 ?g5), (by (with_reducible assumption)), (by (first | omega | (simp only [List.length_map]; omega))), (by kernel_rfl), (by (with_reducible refine get_map ?_; omega)), (by kernel_rfl), (by (first | omega | (simp only [List.length_map]; omega))), (by (with_reducible refine set_map ?_; kernel_rfl))⟩ ?_; rotate_left 3
  refine sn ?_
  refine rg (A := (AV.i IntKind.i64 (IntKind.i64.wrap (r_1 + (1 : Int))) = AV.i IntKind.i64 (r_1 + (1 : Int)))) cx [(1, { tell := some (.i .i64 (r_1 + (1 : Int))) })] [1, 2, 3, 4, 6, 7, 5] [1, 2, 3, 8, 5301] (told_i64 (by omega) (by omega)) ?_
  refine q_blk_normal ?_
  refine sn ?_
  refine rg (A := (AV.i IntKind.i64 (IntKind.i64.wrap (k_17 + (2 : Int))) = AV.i IntKind.i64 (k_17 + (2 : Int)))) cx [(1, { tell := some (.i .i64 (k_17 + (2 : Int))) })] [1, 2, 3, 4, 6, 7, 5] [1, 2, 3, 8, 5301] (told_i64 (by omega) ?g6) ?_; rotate_left 1
  refine sn ?_
  refine loop_next ((r_1 + (1 : Int), k_17 + (2 : Int), S_18, v_19.set r_1.toNat ((S_18 r_1.toNat)[(k_17 + (1 : Int)).toNat]! - (1 : Int)), c_20)) (by kernel_rfl) (show ((2 : Int) * (↑(U r_1.toNat).length : Int) - (k_17 + (2 : Int))).toNat < ((2 : Int) * (↑(U r_1.toNat).length : Int) - k_17).toNat from ?g7) (show invFb U r_1 n_0 v_3 c_4 (r_1 + (1 : Int)) (k_17 + (2 : Int)) S_18 (v_19.set r_1.toNat ((S_18 r_1.toNat)[(k_17 + (1 : Int)).toNat]! - (1 : Int))) c_20 from ?g8); rotate_left 2
  refine ra (A := ((0 : Int) ≤ r_1) ∧ (r_1 < (↑(16 : Nat) : Int)) ∧ ((tabC c3 (16 : Nat) S_18)[r_1.toNat * (1 : Nat) + 0]? = some (AV.sl (List.map c3 (S_18 r_1.toNat)))) ∧ ((0 : Int) ≤ k_17) ∧ ((List.map c3 (S_18 r_1.toNat))[k_17.toNat]? = some (c3 (S_18 r_1.toNat)[k_17.toNat]!)) ∧ ((c3 (S_18 r_1.toNat)[k_17.toNat]!).length = (1 : Nat)) ∧ ((0 : Int) ≤ r_1) ∧ (r_1 < (↑(16 : Nat) : Int)) ∧ ((tabC c3 (16 : Nat) S_18)[r_1.toNat * (1 : Nat) + 0]? = some (AV.sl (List.map c3 (S_18 r_1.toNat)))) ∧ (AV.i IntKind.i64 (IntKind.i64.wrap (k_17 + (1 : Int))) = AV.i IntKind.i64 (k_17 + (1 : Int))) ∧ ((0 : Int) ≤ k_17 + (1 : Int)) ∧ ((List.map c3 (S_18 r_1.toNat))[(k_17 + (1 : Int)).toNat]? = some (c3 (S_18 r_1.toNat)[(k_17 + (1 : Int)).toNat]!)) ∧ ((c3 (S_18 r_1.toNat)[(k_17 + (1 : Int)).toNat]!).length = (1 : Nat)) ∧ (AV.i IntKind.i64 (IntKind.i64.wrap ((S_18 r_1.toNat)[(k_17 + (1 : Int)).toNat]! - (1 : Int))) = AV.i IntKind.i64 ((S_18 r_1.toNat)[(k_17 + (1 : Int)).toNat]! - (1 : Int))) ∧ (50 = (50 : Nat)) ∧ ((3 : Nat) = 3) ∧ ([AV.i IntKind.i64 (0 : Int), AV.i IntKind.i64 (0 : Int), AV.i IntKind.i64 (0 : Int)].length = (3 : Nat)) ∧ (∀ (r : List AV), r ∈ List.map c50 [{ rep := r_1, lo := (S_18 r_1.toNat)[k_17.toNat]!, hi := (S_18 r_1.toNat)[(k_17 + (1 : Int)).toNat]! - (1 : Int) : Span }] → r.length = 3) ∧ ((List.map c50 c_20).length + (List.map c50 [{ rep := r_1, lo := (S_18 r_1.toNat)[k_17.toNat]!, hi := (S_18 r_1.toNat)[(k_17 + (1 : Int)).toNat]! - (1 : Int) : Span }]).length ≤ maxLen) ∧ (((List.map c50 c_20).length + (List.map c50 [{ rep := r_1, lo := (S_18 r_1.toNat)[k_17.toNat]!, hi := (S_18 r_1.toNat)[(k_17 + (1 : Int)).toNat]! - (1 : Int) : Span }]).length) * (24 : Nat) ≤ (140737488355328 : Nat)) ∧ (List.map c50 c_20 ++ List.map c50 [{ rep := r_1, lo := (S_18 r_1.toNat)[k_17.toNat]!, hi := (S_18 r_1.toNat)[(k_17 + (1 : Int)).toNat]! - (1 : Int) : Span }] = List.map c50 (c_20 ++ [{ rep := r_1, lo := (S_18 r_1.toNat)[k_17.toNat]!, hi := (S_18 r_1.toNat)[(k_17 + (1 : Int)).toNat]! - (1 : Int) : Span }]))) cx [(6, { row := [.sl (List.map c3 (S_18 r_1.toNat))] }), (8, { row := (c3 (S_18 r_1.toNat)[k_17.toNat]!) }), (13, { row := [.sl (List.map c3 (S_18 r_1.toNat))] }), (15, { tell := some (.i .i64 (k_17 + (1 : Int))) }), (16, { row := (c3 (S_18 r_1.toNat)[(k_17 + (1 : Int)).toNat]!) }), (18, { tell := some (.i .i64 ((S_18 r_1.toNat)[(k_17 + (1 : Int)).toNat]! - (1 : Int))) }), (21, { rows := some (List.map c50 (c_20 ++ [{ rep := r_1, lo := (S_18 r_1.toNat)[k_17.toNat]!, hi := (S_18 r_1.toNat)[(k_17 + (1 : Int)).toNat]! - (1 : Int) : Span }])) })] [1, 2, 3, 4, 5, 6, 7] [1, 2, 3, 8, 5301] ⟨(by (with_reducible assumption)), (by omega), (by (simp only [Nat.mul_one, Nat.add_zero, Nat.zero_add]; with_reducible refine get_tabC ?_; omega)), (by (with_reducible assumption)), (by (with_reducible refine get_map ?_; omega)), (by kernel_rfl), (by (with_reducible assumption)), (by omega), (by (simp only [Nat.mul_one, Nat.add_zero, Nat.zero_add]; with_reducible refine get_tabC ?_; omega)), (told_i64 (by omega) ?g9), (by omega), (by (with_reducible refine get_map ?_; omega)), (by kernel_rfl), (told_i64 ?g10 ?g11), (by kernel_rfl), (by kernel_rfl), (by kernel_rfl), (by (with_reducible refine len_map (fun _ => ?_) _; kernel_rfl)), ?g12, ?g13, (by (with_reducible refine app_map ?_; kernel_rfl))⟩ ?_; rotate_left 5
  refine q_blk_normal ?_
  refine sn ?_
  refine rg (A := (AV.i IntKind.i64 (IntKind.i64.wrap (k_17 + (2 : Int))) = AV.i IntKind.i64 (k_17 + (2 : Int)))) cx [(1, { tell := some (.i .i64 (k_17 + (2 : Int))) })] [1, 2, 3, 4, 5, 6, 7] [1, 2, 3, 8, 5301] (told_i64 (by omega) ?g14) ?_; rotate_left 1
  refine sn ?_
  refine loop_next ((n_16, k_17 + (2 : Int), S_18, v_19, c_20 ++ [{ rep := r_1, lo := (S_18 r_1.toNat)[k_17.toNat]!, hi := (S_18 r_1.toNat)[(k_17 + (1 : Int)).toNat]! - (1 : Int) : Span }])) (by kernel_rfl) (show ((2 : Int) * (↑(U r_1.toNat).length : Int) - (k_17 + (2 : Int))).toNat < ((2 : Int) * (↑(U r_1.toNat).length : Int) - k_17).toNat from ?g15) (show invFb U r_1 n_0 v_3 c_4 n_16 (k_17 + (2 : Int)) S_18 v_19 (c_20 ++ [{ rep := r_1, lo := (S_18 r_1.toNat)[k_17.toNat]!, hi := (S_18 r_1.toNat)[(k_17 + (1 : Int)).toNat]! - (1 : Int) : Span }]) from ?g16); rotate_left 2
  refine st_exit 2 (by kernel_rfl) ?_
  refine q_seq_exit ?_
  refine q_seq_exit ?_
  refine q_blk_hit ?_
  refine q_blk_normal ?_
  refine sn ?_
  refine rg (A := (AV.i IntKind.i64 (IntKind.i64.wrap (r_1 + (1 : Int))) = AV.i IntKind.i64 (r_1 + (1 : Int)))) cx [(1, { tell := some (.i .i64 (r_1 + (1 : Int))) })] [1, 2, 3, 4, 5, 6] [1, 2, 3, 8, 5301] (told_i64 (by omega) (by omega)) ?_
  refine sn ?_
  refine loop_next ((n_16, r_1 + (1 : Int), S_18, v_19, c_20)) (by kernel_rfl) (show ((16 : Int) - (r_1 + (1 : Int))).toNat < ((16 : Int) - r_1).toNat from (by omega)) (show invFa U n_16 (r_1 + (1 : Int)) S_18 v_19 c_20 from ?g17); rotate_left 1
  refine st_exit 0 (by kernel_rfl) ?_
  refine q_seq_exit ?_
  refine q_seq_exit ?_
  refine q_blk_hit ?_
  refine sn ?_
  refine sq ?_
  refine rg (A := ((0 : Int) ≤ (0 : Int)) ∧ ((0 : Int) ≤ n_0) ∧ (n_0 ≤ (↑(List.map c3 v_3).length : Int)) ∧ ((0 : Int) < (↑(List.map c3 v_3).length : Int)) ∧ (Option.map TI.size (E.look tab (3 : Nat)) = some (1))) cx [] [2, 3] [2, 3, 8, 5301] ⟨(by omega), (by (with_reducible assumption)), (by (first | omega | (simp only [List.length_map]; omega))), (by (first | omega | (simp only [List.length_map]; omega))), (by kernel_rfl)⟩ ?_
  refine sn ?_
  refine sq ?_
  refine awp_norm [8, 5301] [2, 3] [2, 3] (σ' := ⟨[(2, .ptr (2) (0) (0) (0)), (3, .ptr (3) (0) (0) (0))], [(2, ⟨0, 25, .var [.nl, .nl]⟩), (3, ⟨0, 25, .var [.sl (List.take (n_0 - (0 : Int)).toNat (List.drop (0) (List.map c3 v_3))), .sl (List.map c50 c_4)]⟩)]⟩) (by kernel_rfl) ?_
  refine rg (A := True) cx [] [2] [2] trivial ?_
  refine sn ?_
  refine st_ret (by kernel_rfl) ?_
  refine q_ret (r := .agg [.sl (List.take (n_0 - (0 : Int)).toNat (List.drop (0) (List.map c3 v_3))), .sl (List.map c50 c_4)]) (obl := []) (by kernel_rfl) trivial (AVle.eq (show AV.agg [AV.sl (List.take (n_0 - (0 : Int)).toNat (List.drop (0) (List.map c3 v_3))), AV.sl (List.map c50 c_4)] = AV.agg (c25 (tabP U)) from ?g18)); rotate_left 1
  rotate_left
  revert n_0 r_1 S_2 v_3 c_4 h_6 h_7 h_8 h_9 h_10 h_11 h_12 h_13 h_14 h_15; rotate_left
  revert n_0 r_1 S_2 v_3 c_4 h_6 h_7 h_8 h_9 h_10 h_11 h_12 h_13 h_14 h_15 n_16 k_17 S_18 v_19 c_20 h_22 h_23 h_24 h_25 h_26 h_27 h_28 h_29; rotate_left
  revert n_0 r_1 S_2 v_3 c_4 h_6 h_7 h_8 h_9 h_10 h_11 h_12 h_13 h_14 h_15 n_16 k_17 S_18 v_19 c_20 h_22 h_23 h_24 h_25 h_26 h_27 h_28 h_29 h_30 h_31; rotate_left
  revert n_0 r_1 S_2 v_3 c_4 h_6 h_7 h_8 h_9 h_10 h_11 h_12 h_13 h_14 h_15 n_16 k_17 S_18 v_19 c_20 h_22 h_23 h_24 h_25 h_26 h_27 h_28 h_29 h_30 h_31; rotate_left
  revert n_0 r_1 S_2 v_3 c_4 h_6 h_7 h_8 h_9 h_10 h_11 h_12 h_13 h_14 h_15 n_16 k_17 S_18 v_19 c_20 h_22 h_23 h_24 h_25 h_26 h_27 h_28 h_29 h_30 h_31; rotate_left
  revert n_0 r_1 S_2 v_3 c_4 h_6 h_7 h_8 h_9 h_10 h_11 h_12 h_13 h_14 h_15 n_16 k_17 S_18 v_19 c_20 h_22 h_23 h_24 h_25 h_26 h_27 h_28 h_29 h_30 h_31; rotate_left
  revert n_0 r_1 S_2 v_3 c_4 h_6 h_7 h_8 h_9 h_10 h_11 h_12 h_13 h_14 h_15 n_16 k_17 S_18 v_19 c_20 h_22 h_23 h_24 h_25 h_26 h_27 h_28 h_29 h_30 h_31; rotate_left
  revert n_0 r_1 S_2 v_3 c_4 h_6 h_7 h_8 h_9 h_10 h_11 h_12 h_13 h_14 h_15 n_16 k_17 S_18 v_19 c_20 h_22 h_23 h_24 h_25 h_26 h_27 h_28 h_29 h_30 h_31; rotate_left
  revert n_0 r_1 S_2 v_3 c_4 h_6 h_7 h_8 h_9 h_10 h_11 h_12 h_13 h_14 h_15 n_16 k_17 S_18 v_19 c_20 h_22 h_23 h_24 h_25 h_26 h_27 h_28 h_29 h_30 h_31; rotate_left
  revert n_0 r_1 S_2 v_3 c_4 h_6 h_7 h_8 h_9 h_10 h_11 h_12 h_13 h_14 h_15 n_16 k_17 S_18 v_19 c_20 h_22 h_23 h_24 h_25 h_26 h_27 h_28 h_29 h_30 h_31; rotate_left
  revert n_0 r_1 S_2 v_3 c_4 h_6 h_7 h_8 h_9 h_10 h_11 h_12 h_13 h_14 h_15 n_16 k_17 S_18 v_19 c_20 h_22 h_23 h_24 h_25 h_26 h_27 h_28 h_29 h_30 h_31; rotate_left
  revert n_0 r_1 S_2 v_3 c_4 h_6 h_7 h_8 h_9 h_10 h_11 h_12 h_13 h_14 h_15 n_16 k_17 S_18 v_19 c_20 h_22 h_23 h_24 h_25 h_26 h_27 h_28 h_29 h_30 h_31; rotate_left
  revert n_0 r_1 S_2 v_3 c_4 h_6 h_7 h_8 h_9 h_10 h_11 h_12 h_13 h_14 h_15 n_16 k_17 S_18 v_19 c_20 h_22 h_23 h_24 h_25 h_26 h_27 h_28 h_29 h_30 h_31; rotate_left
  revert n_0 r_1 S_2 v_3 c_4 h_6 h_7 h_8 h_9 h_10 h_11 h_12 h_13 h_14 h_15 n_16 k_17 S_18 v_19 c_20 h_22 h_23 h_24 h_25 h_26 h_27 h_28 h_29 h_30 h_31; rotate_left
  revert n_0 r_1 S_2 v_3 c_4 h_6 h_7 h_8 h_9 h_10 h_11 h_12 h_13 h_14 h_15 n_16 k_17 S_18 v_19 c_20 h_22 h_23 h_24 h_25 h_26 h_27 h_28 h_29 h_30 h_31; rotate_left
  revert n_0 r_1 S_2 v_3 c_4 h_6 h_7 h_8 h_9 h_10 h_11 h_12 h_13 h_14 h_15 n_16 k_17 S_18 v_19 c_20 h_22 h_23 h_24 h_25 h_26 h_27 h_28 h_29 h_30 h_31; rotate_left
  revert n_0 r_1 S_2 v_3 c_4 h_6 h_7 h_8 h_9 h_10 h_11 h_12 h_13 h_14 h_15 n_16 k_17 S_18 v_19 c_20 h_22 h_23 h_24 h_25 h_26 h_27 h_28 h_29 h_30; rotate_left
  revert n_0 r_1 S_2 v_3 c_4 h_6 h_7 h_8 h_9 h_10 h_11 h_12 h_13 h_14 h_15; rotate_left
  case g0 => exact ⟨rfl, by omega, by omega, by omega, by omega, by simp, rfl, by simp [isVec, vecT], rfl⟩
  case g1 => intro n r S v c h0 h1 h2 h3 h4 h5 h6 h7 h8 h9; exact ⟨h0, by omega, by omega, by omega, by omega, by omega, by omega, isIn_start h1 h9 h7⟩
  case g18 =>
    intro n r S v c h0 h1 h2 h3 h4 h5 h6 h7 h8 h9
    rw [tab_end h2 h9 h6 h7 h8]
    show AV.agg [AV.sl (List.take (n - 0).toNat (List.drop 0 (List.map c3 v))), AV.sl (List.map c50 c)] = _
    rw [List.drop_zero, Int.sub_zero, ← List.map_take]
    rfl
  all_goals
    intro n r S v c h0 h1 h2 h3 h4 h5 h6 h7 h8 h9 m k X w d k0 k1 k2 k3 k4 k5 k6 k7
    have hs := hU r.toNat (by omega)
    have hl := sepR_len hs
    have hd := isIn_len hs h1 h9 h8 k7
    have ht : (tnS U r.toNat).length = 2 * (U r.toNat).length := turns_len _
    subst k0
  case g17 =>
    intro k8
    rw [ht] at k8
    obtain ⟨a, b, e⟩ := isIn_end hs h1 h9 h6 h7 h8 k1 k3 (by omega) k2 k7
    exact ⟨rfl, by omega, by omega, by omega, by omega, k4, a, b, e⟩
  case g8 =>
    intro k8 k9
    rw [ht] at k8
    obtain ⟨e1, e2⟩ := tn_at (U := U) (r := r) k1 k3 (by omega)
    rw [e1] at k9
    rw [e2, Int.add_sub_cancel]
    exact ⟨rfl, by omega, by omega, by omega, by rw [List.length_set]; exact k4, by omega, by omega, isIn_one hs k1 k3 (by omega) k9 k7⟩
  case g16 =>
    intro k8 k9
    rw [ht] at k8
    obtain ⟨e1, e2⟩ := tn_at (U := U) (r := r) k1 k3 (by omega)
    rw [e1] at k9
    rw [e1, e2, Int.add_sub_cancel]
    exact ⟨rfl, by omega, by omega, by omega, k4, by omega, by omega, isIn_snoc k1 k3 (by omega) k9 k7⟩
  all_goals
    first
    | omega
    | (intro k8 k9
       rw [ht] at k8
       obtain ⟨e1, e2⟩ := tn_at (U := U) (r := r) k1 k3 (by omega)
       have hb := hs.2 _ (bang_in (l := U r.toNat) (i := (k / 2).toNat) (by omega))
       simp only [e2, List.length_map, List.length_cons, List.length_nil, Go.maxLen]
       omega)
end Go.Proofs.Ytaiepnaokhpmcaa
namespace Go.Proofs.Ytaiepnaokhpmcaa
open Go.E
set_option maxRecDepth 100000
set_option maxHeartbeats 4000000
def spansOf (ds : List Dot) : List Span := ds.map fun d => ⟨d.rep, d.num, d.num⟩
def isSpans (ds : List Dot) (i : Int) (c : List Span) : Prop := c = spansOf (ds.take i.toNat)
def invOf (ds : List Dot) (i : Int) (c : List Span) : Prop := 0 ≤ i ∧ i ≤ ds.length ∧ (c.length : Int) = i ∧ isSpans ds i c
def decOf (ds : List Dot) (i : Int) (c : List Span) : Nat := (ds.length - i).toNat
theorem isSpans_step {ds : List Dot} {i : Int} {c : List Span} (h0 : 0 ≤ i) (h : i < ds.length) (hs : isSpans ds i c) : isSpans ds (i + 1) (c ++ [⟨ds[i.toNat]!.rep, ds[i.toNat]!.num, ds[i.toNat]!.num⟩]) := by
  unfold isSpans spansOf at *
  rw [← take_step h0 h, List.map_append, ← hs]
  rfl
theorem hi_max {l : List Run} (h : ∀ r ∈ l, r.lo = r.hi) : ∀ x, inR l x ↔ ∃ r ∈ l, r.lo = x := fun x => by
  constructor
  · rintro ⟨r, hr, h1, h2⟩; exact ⟨r, hr, by have := h r hr; omega⟩
  · rintro ⟨r, hr, rfl⟩; exact ⟨r, hr, by omega, by have := h r hr; omega⟩
/-- Numbers that are no dots are left out by the form. -/
theorem of_spans (ds : List Dot) : tabP (openT [⟨[], spansOf ds⟩]) = tabP (ofT ds) := by
  rw [← tabP_nrm, ← tabP_nrm (ofT ds)]
  refine tabP_congr fun r hr => ?_
  refine sep_unique (nrm_sep _) (nrm_sep _) fun n => ?_
  show inR (nrm _) n ↔ inR (nrm _) n
  rw [nrm_in, nrm_in]
  refine and_congr_right fun n0 => and_congr_right fun n1 => ?_
  have e : openT [⟨[], spansOf ds⟩] r = cloudR (spansOf ds) r := by simp [openT, vecR]
  rw [e]
  unfold inR cloudR spansOf ofT
  constructor
  · rintro ⟨x, hx, h1, h2⟩
    obtain ⟨s, hs, rfl⟩ := List.mem_map.1 hx
    obtain ⟨hs, hq⟩ := List.mem_filter.1 hs
    obtain ⟨d, hd, rfl⟩ := List.mem_map.1 hs
    simp only [decide_eq_true_eq] at hq h1 h2
    refine ⟨⟨d.num, d.num⟩, List.mem_map.2 ⟨d, List.mem_filter.2 ⟨hd, ?_⟩, rfl⟩, h1, h2⟩
    rw [Bool.and_eq_true, decide_eq_true_eq]
    exact ⟨by unfold dotB; rw [decide_eq_true_eq]; omega, hq⟩
  · rintro ⟨x, hx, h1, h2⟩
    obtain ⟨d, hd, rfl⟩ := List.mem_map.1 hx
    obtain ⟨hd, hq⟩ := List.mem_filter.1 hd
    rw [Bool.and_eq_true, decide_eq_true_eq] at hq
    exact ⟨⟨d.num, d.num⟩, List.mem_map.2 ⟨⟨d.rep, d.num, d.num⟩, List.mem_filter.2 ⟨List.mem_map.2 ⟨d, hd, rfl⟩, by simpa using hq.2⟩, rfl⟩, h1, h2⟩
theorem con31 (p : Past) (hb : p.cloud.length * 16 ≤ 140737488350000) : Con Try.prog 31 [.agg (c25 p)] (.agg (c58 (tnS (nrmT (openT [p]))))) :=
  by
  refine st_con tab_ok (by kernel_rfl) [.cell 2 58] 6 Go.Proofs.Try.func31 (by kernel_rfl) (by kernel_rfl) ?_
  intro e0 cx
  refine sq ?_
  refine rg (A := True) cx [] [1, 2] [1, 2] trivial ?_
  refine sn ?_
  refine sq ?_
  refine rg (A := _) cx [(2, { val := some (.agg (tabC c3 (16 : Nat) (tnS (nrmT (openT [p]))))) })] [2] [2] (con46 ([p]) ?g0) ?_; rotate_left 1
  refine sn ?_
  refine st_ret (by kernel_rfl) ?_
  refine q_ret (r := .agg [.sl (List.map c3 (tnS (nrmT (openT [p])) (0))), .sl (List.map c3 (tnS (nrmT (openT [p])) (1))), .sl (List.map c3 (tnS (nrmT (openT [p])) (2))), .sl (List.map c3 (tnS (nrmT (openT [p])) (3))), .sl (List.map c3 (tnS (nrmT (openT [p])) (4))), .sl (List.map c3 (tnS (nrmT (openT [p])) (5))), .sl (List.map c3 (tnS (nrmT (openT [p])) (6))), .sl (List.map c3 (tnS (nrmT (openT [p])) (7))), .sl (List.map c3 (tnS (nrmT (openT [p])) (8))), .sl (List.map c3 (tnS (nrmT (openT [p])) (9))), .sl (List.map c3 (tnS (nrmT (openT [p])) (10))), .sl (List.map c3 (tnS (nrmT (openT [p])) (11))), .sl (List.map c3 (tnS (nrmT (openT [p])) (12))), .sl (List.map c3 (tnS (nrmT (openT [p])) (13))), .sl (List.map c3 (tnS (nrmT (openT [p])) (14))), .sl (List.map c3 (tnS (nrmT (openT [p])) (15)))]) (obl := []) (by kernel_rfl) trivial (AVle.eq (show AV.agg [AV.sl (List.map c3 (tnS (nrmT (openT [p])) (0))), AV.sl (List.map c3 (tnS (nrmT (openT [p])) (1))), AV.sl (List.map c3 (tnS (nrmT (openT [p])) (2))), AV.sl (List.map c3 (tnS (nrmT (openT [p])) (3))), AV.sl (List.map c3 (tnS (nrmT (openT [p])) (4))), AV.sl (List.map c3 (tnS (nrmT (openT [p])) (5))), AV.sl (List.map c3 (tnS (nrmT (openT [p])) (6))), AV.sl (List.map c3 (tnS (nrmT (openT [p])) (7))), AV.sl (List.map c3 (tnS (nrmT (openT [p])) (8))), AV.sl (List.map c3 (tnS (nrmT (openT [p])) (9))), AV.sl (List.map c3 (tnS (nrmT (openT [p])) (10))), AV.sl (List.map c3 (tnS (nrmT (openT [p])) (11))), AV.sl (List.map c3 (tnS (nrmT (openT [p])) (12))), AV.sl (List.map c3 (tnS (nrmT (openT [p])) (13))), AV.sl (List.map c3 (tnS (nrmT (openT [p])) (14))), AV.sl (List.map c3 (tnS (nrmT (openT [p])) (15)))] = AV.agg (c58 (tnS (nrmT (openT [p])))) from ?g1)); rotate_left 1
  case g0 => exact (by rw [tot_one]; omega)
  case g1 => exact rfl
theorem con29 (p : Past) (hb : p.cloud.length * 16 ≤ 140737488350000) : Con Try.prog 29 [.agg (c25 p)] (.agg (c25 (normP p))) :=
  by
  refine st_con tab_ok (by kernel_rfl) [.cell 2 25] 6 Go.Proofs.Try.func29 (by kernel_rfl) (by kernel_rfl) ?_
  intro e0 cx
  refine sq ?_
  refine rg (A := True) cx [] [1, 2] [1, 2] trivial ?_
  refine sn ?_
  refine sq ?_
  refine rg (A := _ ∧ _) cx [(1, { val := some (.agg (tabC c3 (16 : Nat) (tnS (nrmT (openT [p]))))) }), (2, { val := some (.agg [.sl (List.map c3 (tabP (nrmT (openT [p]))).vec), .sl (List.map c50 (tabP (nrmT (openT [p]))).cloud)]) })] [2] [2] ⟨(con31 (p) (by (with_reducible assumption))), (con44 (nrmT (openT [p])) ?g0)⟩ ?_; rotate_left 1
  refine sn ?_
  refine st_ret (by kernel_rfl) ?_
  refine q_ret (r := .agg [.sl (List.map c3 (tabP (nrmT (openT [p]))).vec), .sl (List.map c50 (tabP (nrmT (openT [p]))).cloud)]) (obl := []) (by kernel_rfl) trivial (AVle.eq (show AV.agg [AV.sl (List.map c3 (tabP (nrmT (openT [p]))).vec), AV.sl (List.map c50 (tabP (nrmT (openT [p]))).cloud)] = AV.agg (c25 (normP p)) from ?g1)); rotate_left 1
  case g0 => exact (nrmT_sep _)
  case g1 => exact (by rw [tabP_nrm]; rfl)
theorem con16 (p : Past) (hb : p.cloud.length * 16 ≤ 140737488350000) (hv : p.vec.length ≤ 9223372036854775807) : Con Try.prog 16 [.agg (c25 p)] (.b (decide (p = normP p))) :=
  by
  refine st_con tab_ok (by kernel_rfl) [.tmp 2] 7 Go.Proofs.Try.func16 (by kernel_rfl) (by kernel_rfl) ?_
  intro e0 cx
  refine sq ?_
  refine rg (A := True) cx [] [1] [1] trivial ?_
  refine sn ?_
  refine sq ?_
  refine ra (A := _ ∧ _) cx [(2, { val := some (.agg [.sl (List.map c3 (normP p).vec), .sl (List.map c50 (normP p).cloud)]) }), (3, { val := some (.b (decide (p = normP p))) })] [2] [] ⟨(con29 (p) (by (with_reducible assumption))), (con28 (p) (normP p) (by (with_reducible assumption)) (by omega))⟩ ?_
  refine sn ?_
  refine st_ret (by kernel_rfl) ?_
  exact q_ret (r := .b (decide (p = normP p))) (obl := []) (by kernel_rfl) trivial (AVle.refl _)
end Go.Proofs.Ytaiepnaokhpmcaa
namespace Go.Proofs.Ytaiepnaokhpmcaa
open Go.E
set_option maxRecDepth 100000
set_option maxHeartbeats 4000000
def isMe (x y : List Run) (i j : Int) (o : List Run) : Prop := o ++ meetL (x.drop i.toNat) (y.drop j.toNat) = meetL x y
def invMe (x y : List Run) (i j : Int) (o : List Run) : Prop := 0 ≤ i ∧ i ≤ x.length ∧ 0 ≤ j ∧ j ≤ y.length ∧ (o.length : Int) ≤ i + j ∧ isMe x y i j o
def decMe (x y : List Run) (i j : Int) (o : List Run) : Nat := (x.length - i + (y.length - j)).toNat
theorem dropR {a : List Run} {i : Int} (h0 : 0 ≤ i) (h : i < a.length) : a.drop i.toNat = a[i.toNat]! :: a.drop (i + 1).toNat := by
  rw [show (i + 1).toNat = i.toNat + 1 by omega, getElem!_pos a i.toNat (by omega)]
  exact List.drop_eq_getElem_cons (by omega)
theorem dropRn {a : List Run} {i : Int} (h : ¬ i < a.length) : a.drop i.toNat = [] := List.drop_of_length_le (by omega)
theorem me_step {x y o : List Run} {i j : Int} (h0 : 0 ≤ i) (hi : i < x.length) (j0 : 0 ≤ j) (hj : j < y.length) (h : isMe x y i j o) :
    (o ++ if max x[i.toNat]!.lo y[j.toNat]!.lo ≤ min x[i.toNat]!.hi y[j.toNat]!.hi then [⟨max x[i.toNat]!.lo y[j.toNat]!.lo, min x[i.toNat]!.hi y[j.toNat]!.hi⟩] else []) ++
      (if x[i.toNat]!.hi < y[j.toNat]!.hi then meetL (x.drop (i + 1).toNat) (y.drop j.toNat) else meetL (x.drop i.toNat) (y.drop (j + 1).toNat)) = meetL x y := by
  unfold isMe at h
  rw [← h, dropR h0 hi, dropR j0 hj, meetL_cons, List.append_assoc]
theorem me_in1 {x y o : List Run} {i j : Int} (h0 : 0 ≤ i) (hi : i < x.length) (j0 : 0 ≤ j) (hj : j < y.length) (h : isMe x y i j o) (c : max x[i.toNat]!.lo y[j.toNat]!.lo ≤ min x[i.toNat]!.hi y[j.toNat]!.hi) (d : x[i.toNat]!.hi < y[j.toNat]!.hi) :
    isMe x y (i + 1) j (o ++ [⟨max x[i.toNat]!.lo y[j.toNat]!.lo, min x[i.toNat]!.hi y[j.toNat]!.hi⟩]) := by
  have := me_step h0 hi j0 hj h
  rw [if_pos c, if_pos d] at this
  exact this
theorem me_in2 {x y o : List Run} {i j : Int} (h0 : 0 ≤ i) (hi : i < x.length) (j0 : 0 ≤ j) (hj : j < y.length) (h : isMe x y i j o) (c : max x[i.toNat]!.lo y[j.toNat]!.lo ≤ min x[i.toNat]!.hi y[j.toNat]!.hi) (d : ¬ x[i.toNat]!.hi < y[j.toNat]!.hi) :
    isMe x y i (j + 1) (o ++ [⟨max x[i.toNat]!.lo y[j.toNat]!.lo, min x[i.toNat]!.hi y[j.toNat]!.hi⟩]) := by
  have := me_step h0 hi j0 hj h
  rw [if_pos c, if_neg d] at this
  exact this
theorem me_out1 {x y o : List Run} {i j : Int} (h0 : 0 ≤ i) (hi : i < x.length) (j0 : 0 ≤ j) (hj : j < y.length) (h : isMe x y i j o) (c : ¬ max x[i.toNat]!.lo y[j.toNat]!.lo ≤ min x[i.toNat]!.hi y[j.toNat]!.hi) (d : x[i.toNat]!.hi < y[j.toNat]!.hi) : isMe x y (i + 1) j o := by
  have := me_step h0 hi j0 hj h
  rw [if_neg c, if_pos d, List.append_nil] at this
  exact this
theorem me_out2 {x y o : List Run} {i j : Int} (h0 : 0 ≤ i) (hi : i < x.length) (j0 : 0 ≤ j) (hj : j < y.length) (h : isMe x y i j o) (c : ¬ max x[i.toNat]!.lo y[j.toNat]!.lo ≤ min x[i.toNat]!.hi y[j.toNat]!.hi) (d : ¬ x[i.toNat]!.hi < y[j.toNat]!.hi) : isMe x y i (j + 1) o := by
  have := me_step h0 hi j0 hj h
  rw [if_neg c, if_neg d, List.append_nil] at this
  exact this
theorem me_end {x y o : List Run} {i j : Int} (hn : ¬ (i < x.length ∧ j < y.length)) (h : isMe x y i j o) : o = meetL x y := by
  unfold isMe at h
  by_cases hi : i < x.length
  · rw [dropRn (a := y) (i := j) (fun k => hn ⟨hi, k⟩), meetL_nil2, List.append_nil] at h
    exact h
  · rw [dropRn hi, meetL_nil, List.append_nil] at h
    exact h
theorem me_start (x y : List Run) : isMe x y 0 0 [] := rfl
def isOt (n : List Run) (x i : Int) (o : List Run) : Prop := o ++ othL x (n.drop i.toNat) = othL 1 n
def invOt (n : List Run) (x i : Int) (o : List Run) : Prop := 0 ≤ i ∧ i ≤ n.length ∧ (o.length : Int) ≤ i ∧ 1 ≤ x ∧ x ≤ 1000000001 ∧ isOt n x i o
def decOt (n : List Run) (x i : Int) (o : List Run) : Nat := (n.length - i).toNat
theorem ot_in {n o : List Run} {x i : Int} (h0 : 0 ≤ i) (hi : i < n.length) (h : isOt n x i o) (c : x < n[i.toNat]!.lo) : isOt n (n[i.toNat]!.hi + 1) (i + 1) (o ++ [⟨x, n[i.toNat]!.lo - 1⟩]) := by
  unfold isOt at *
  rw [dropR h0 hi, othL, if_pos c, ← List.append_assoc] at h
  exact h
theorem ot_out {n o : List Run} {x i : Int} (h0 : 0 ≤ i) (hi : i < n.length) (h : isOt n x i o) (c : ¬ x < n[i.toNat]!.lo) : isOt n (n[i.toNat]!.hi + 1) (i + 1) o := by
  unfold isOt at *
  rw [dropR h0 hi, othL, if_neg c, List.nil_append] at h
  exact h
theorem ot_end1 {n o : List Run} {x i : Int} (hi : ¬ i < n.length) (h : isOt n x i o) (c : x ≤ 1000000000) : o ++ [⟨x, 1000000000⟩] = othL 1 n := by
  unfold isOt at h
  rw [dropRn hi, othL, if_pos c] at h
  exact h
theorem ot_end2 {n o : List Run} {x i : Int} (hi : ¬ i < n.length) (h : isOt n x i o) (c : ¬ x ≤ 1000000000) : o = othL 1 n := by
  unfold isOt at h
  rw [dropRn hi, othL, if_neg c, List.append_nil] at h
  exact h
def isEa (A B : Nat → List Run) (r : Int) (T : Nat → List Run) : Prop := ∀ k : Nat, k < 16 → T k = if (k : Int) < r then minR (A k) (B k) else A k
def invEa (A B : Nat → List Run) (r : Int) (T U : Nat → List Run) : Prop := U = B ∧ 0 ≤ r ∧ r ≤ 16 ∧ isEa A B r T
def decEa (r : Int) (T U : Nat → List Run) : Nat := (16 - r).toNat
theorem ea_start (A B : Nat → List Run) : isEa A B 0 A := fun k _ => by rw [if_neg (by omega)]
theorem ea_at {A B T : Nat → List Run} {r : Int} (h0 : 0 ≤ r) (h1 : r < 16) (h : isEa A B r T) : T r.toNat = A r.toNat := by
  rw [h r.toNat (by omega), if_neg (by omega)]
theorem ea_next {A B T : Nat → List Run} {r : Int} (h0 : 0 ≤ r) (h1 : r < 16) (h : isEa A B r T) : isEa A B (r + 1) (updF T r.toNat (minR (T r.toNat) (B r.toNat))) := by
  intro k hk
  unfold updF
  by_cases e : k = r.toNat
  · subst e
    rw [if_pos rfl, if_pos (by omega), ea_at h0 h1 h]
  · rw [if_neg e, h k hk]
    by_cases c : (k : Int) < r
    · rw [if_pos c, if_pos (by omega)]
    · rw [if_neg c, if_neg (by omega)]
theorem ea_end {A B T : Nat → List Run} {r : Int} (hr : r ≤ 16) (h1 : ¬ r < 16) (h : isEa A B r T) : tabP T = tabP fun k => minR (A k) (B k) := tabP_congr fun k hk => by
  rw [h k hk, if_pos (by omega)]
end Go.Proofs.Ytaiepnaokhpmcaa
namespace Go.Proofs.Ytaiepnaokhpmcaa
open Go.E
set_option maxRecDepth 100000
set_option maxHeartbeats 4000000
def minU (U V : Nat → List Run) (r : Nat) : List Run := minR (U r) (V r)
def sepU (U : Nat → List Run) : Prop := ∀ r : Nat, r < 16 → sepR (U r)
def invCb (a b : List Int) (f : Bool → Bool → Bool) (i j : Int) (w : Bool) (t : List Int) : Prop := 0 ≤ i ∧ i ≤ a.length ∧ 0 ≤ j ∧ j ≤ b.length ∧ (t.length : Int) ≤ i + j ∧ isComb f a b i j w t
def decCb (a b : List Int) (i j : Int) (w : Bool) (t : List Int) : Nat := (a.length - i + (b.length - j)).toNat
def isCo (U V : Nat → List Run) (r : Int) (S : Nat → List Int) : Prop := ∀ k : Nat, (k : Int) < r → S k = tnS (minU U V) k
def invCo (U V : Nat → List Run) (r : Int) (A B S : Nat → List Int) : Prop := A = tnS U ∧ B = tnS V ∧ 0 ≤ r ∧ r ≤ 16 ∧ isCo U V r S
def decCo (r : Int) (A B S : Nat → List Int) : Nat := (16 - r).toNat
theorem rule2 (x y : Bool) : ruleB 2 x y = (x && !y) := by unfold ruleB; simp
theorem min_turns {A B : List Run} (hA : sepR A) (hB : sepR B) : combL (ruleB 2) (turnsR A) (turnsR B) false false false = turnsR (minR A B) := by
  refine comb_turns _ rfl hA hB (minR_sep A B) fun n => ?_
  rw [minR_in, nrm_id hA, nrm_id hB, rule2, Bool.and_eq_true, Bool.not_eq_true', hasL_iff, ← Bool.not_eq_true, hasL_iff]
theorem tnS_len {U : Nat → List Run} (h : sepU U) {r : Nat} (hr : r < 16) : (tnS U r).length ≤ 1000000000 := by
  unfold tnS
  rw [turns_len]
  have := sepR_len (h r hr)
  omega
theorem isCo_next {U V : Nat → List Run} {r : Int} {S : Nat → List Int} (hU : sepU U) (hV : sepU V) (h0 : 0 ≤ r) (h1 : r < 16) (h : isCo U V r S) :
    isCo U V (r + 1) (updF S r.toNat (combL (ruleB 2) (tnS U r.toNat) (tnS V r.toNat) false false false)) := by
  intro k hk
  unfold updF
  by_cases e : k = r.toNat
  · subst e
    rw [if_pos rfl]
    exact min_turns (hU _ (by omega)) (hV _ (by omega))
  · rw [if_neg e]
    exact h k (by omega)
theorem minR_nrm (a b : List Run) : minR (nrm a) (nrm b) = minR a b := by unfold minR; rw [nrm_nrm, nrm_nrm]
theorem min_tab (a b : Past) : tabP (minU (nrmT (openT [a])) (nrmT (openT [b]))) = minusP a b := tabP_congr fun r _ => minR_nrm _ _
def invRs (U : Nat → List Run) (n r : Int) (S : Nat → List Int) : Prop := S = tnS U ∧ 0 ≤ r ∧ r ≤ 16 ∧ n = sizeT U r.toNat
def decRs (n r : Int) (S : Nat → List Int) : Nat := (16 - r).toNat
def invRt (U : Nat → List Run) (r n0 n k : Int) (S : Nat → List Int) : Prop := S = tnS U ∧ 0 ≤ k ∧ k ≤ 2 * (U r.toNat).length ∧ 2 * (k / 2) = k ∧ n = n0 + sizeR ((U r.toNat).take (k / 2).toNat)
def decRt (U : Nat → List Run) (r n k : Int) (S : Nat → List Int) : Nat := (2 * (U r.toNat).length - k).toNat
theorem nrmT_U {T : Nat → List Run} (r : Nat) : nrm (nrmT T r) = nrmT T r := nrm_nrm _
theorem sizeT_nrm (T : Nat → List Run) : ∀ n : Nat, sizeT (nrmT T) n = sizeT T n
  | 0 => rfl
  | n + 1 => by rw [sizeT, sizeT, sizeT_nrm T n, nrmT_U]; rfl
theorem ruleB_eq {rule i j : Int} (h0 : 0 ≤ i) (j0 : 0 ≤ j) : decide (rule = 1 ∧ i.tmod 2 = 1 ∧ j.tmod 2 = 1 ∨ ¬rule = 1 ∧ rule = 2 ∧ i.tmod 2 = 1 ∧ ¬j.tmod 2 = 1) = ruleB rule (oddI i) (oddI j) := by
  rw [Int.tmod_eq_emod_of_nonneg h0, Int.tmod_eq_emod_of_nonneg j0]
  unfold ruleB oddI
  by_cases a : rule = 1 <;> by_cases b : rule = 2 <;> by_cases c : i % 2 = 1 <;> by_cases d : j % 2 = 1 <;> simp [a, b, c, d] <;> omega
theorem sizeR_two {l : List Run} {k : Int} (h0 : 0 ≤ k) (he : 2 * (k / 2) = k) (h : k + 1 < 2 * l.length) : sizeR (l.take ((k + 2) / 2).toNat) = sizeR (l.take (k / 2).toNat) + (l[(k / 2).toNat]!.hi - l[(k / 2).toNat]!.lo + 1) := by
  rw [show (k + 2) / 2 = k / 2 + 1 by omega]
  exact sizeR_next (by omega) (by omega)
theorem con39 (p : Past) (hb : p.cloud.length * 16 ≤ 140737488350000) : Con Try.prog 39 [.agg (c25 p)] (.i .i64 (sizeP p)) :=
  by
  have hl : ∀ r, (nrmT (openT [p]) r).length ≤ 500000000 := fun r => sepR_len (nrm_sep _)
  have hz : ∀ n, 0 ≤ sizeT (nrmT (openT [p])) n ∧ sizeT (nrmT (openT [p])) n ≤ n * 1000000000 := sizeT_rng _
  have hk : ∀ r n, 0 ≤ sizeR ((nrmT (openT [p]) r).take n) ∧ sizeR ((nrmT (openT [p]) r).take n) ≤ 1000000000 := fun r n => sizeR_rng (sepR_take (nrm_sep _) n)
  have hr : ∀ (r : Nat) (k : Int), 0 ≤ k → k + 1 < 2 * (nrmT (openT [p]) r).length → 1 ≤ (nrmT (openT [p]) r)[(k / 2).toNat]!.lo ∧ (nrmT (openT [p]) r)[(k / 2).toNat]!.lo ≤ (nrmT (openT [p]) r)[(k / 2).toNat]!.hi ∧ (nrmT (openT [p]) r)[(k / 2).toNat]!.hi ≤ 1000000000 :=
    fun r k h0 h1 => (nrm_sep _).2 _ (bang_in (by have h2 : k + 1 < 2 * (nrm (openT [p] r)).length := h1; omega))
  have ht : ∀ r, (tnS (nrmT (openT [p])) r).length = 2 * (nrmT (openT [p]) r).length := fun r => turns_len _
  have hs := sizeT_nrm (openT [p])
  have hU : ∀ r, nrm (nrmT (openT [p]) r) = nrmT (openT [p]) r := nrmT_U
  have hP : sizeP p = sizeT (nrmT (openT [p])) 16 := (hs 16).symm
  clear hs
  refine st_con tab_ok (by kernel_rfl) [.tmp 2] 42 Go.Proofs.Try.func39 (by kernel_rfl) (by kernel_rfl) ?_
  intro e0 cx
  refine sq ?_
  refine rg (A := True) cx [] [1] [1] trivial ?_
  refine sn ?_
  refine sq ?_
  refine rg (A := _) cx [(1, { val := some (.agg (tabC c3 (16 : Nat) (tnS (nrmT (openT [p]))))) })] [3] [3] (con31 (p) (by (with_reducible assumption))) ?_
  refine sn ?_
  refine sq ?_
  refine rg (A := True) cx [] [3, 4] [3] trivial ?_
  refine sn ?_
  refine sq ?_
  refine sq ?_
  refine rg (A := True) cx [] [3, 4, 5] [3] trivial ?_
  refine sn ?_
  refine st_block 0 (by kernel_rfl) ?_
  refine awp_varArr 3 ⟨0, 58, .var [.sl (List.map c3 (tnS (nrmT (openT [p])) (0))), .sl (List.map c3 (tnS (nrmT (openT [p])) (1))), .sl (List.map c3 (tnS (nrmT (openT [p])) (2))), .sl (List.map c3 (tnS (nrmT (openT [p])) (3))), .sl (List.map c3 (tnS (nrmT (openT [p])) (4))), .sl (List.map c3 (tnS (nrmT (openT [p])) (5))), .sl (List.map c3 (tnS (nrmT (openT [p])) (6))), .sl (List.map c3 (tnS (nrmT (openT [p])) (7))), .sl (List.map c3 (tnS (nrmT (openT [p])) (8))), .sl (List.map c3 (tnS (nrmT (openT [p])) (9))), .sl (List.map c3 (tnS (nrmT (openT [p])) (10))), .sl (List.map c3 (tnS (nrmT (openT [p])) (11))), .sl (List.map c3 (tnS (nrmT (openT [p])) (12))), .sl (List.map c3 (tnS (nrmT (openT [p])) (13))), .sl (List.map c3 (tnS (nrmT (openT [p])) (14))), .sl (List.map c3 (tnS (nrmT (openT [p])) (15)))]⟩ [.sl (List.map c3 (tnS (nrmT (openT [p])) (0))), .sl (List.map c3 (tnS (nrmT (openT [p])) (1))), .sl (List.map c3 (tnS (nrmT (openT [p])) (2))), .sl (List.map c3 (tnS (nrmT (openT [p])) (3))), .sl (List.map c3 (tnS (nrmT (openT [p])) (4))), .sl (List.map c3 (tnS (nrmT (openT [p])) (5))), .sl (List.map c3 (tnS (nrmT (openT [p])) (6))), .sl (List.map c3 (tnS (nrmT (openT [p])) (7))), .sl (List.map c3 (tnS (nrmT (openT [p])) (8))), .sl (List.map c3 (tnS (nrmT (openT [p])) (9))), .sl (List.map c3 (tnS (nrmT (openT [p])) (10))), .sl (List.map c3 (tnS (nrmT (openT [p])) (11))), .sl (List.map c3 (tnS (nrmT (openT [p])) (12))), .sl (List.map c3 (tnS (nrmT (openT [p])) (13))), .sl (List.map c3 (tnS (nrmT (openT [p])) (14))), .sl (List.map c3 (tnS (nrmT (openT [p])) (15)))] (tabC c3 (16 : Nat) (tnS (nrmT (openT [p])))) (σ' := ⟨[(3, .ptr (3) (0) (0) (0)), (4, .i .i64 ((0 : Int))), (5, .i .i64 ((0 : Int)))], [(3, ⟨0, 58, .arr (tabC c3 (16 : Nat) (tnS (nrmT (openT [p]))))⟩)]⟩) (by kernel_rfl) (by kernel_rfl) (by kernel_rfl) (by kernel_rfl) (ZLe.of_eq (by kernel_rfl)) (by kernel_rfl) ?_
  refine st_loop (X := Int × Int × (Nat → List Int)) (fun x => ⟨[(3, .ptr (3) (0) (0) (0)), (4, .i .i64 (x.fst)), (5, .i .i64 (x.snd.fst))], [(3, ⟨0, 58, .arr (tabC c3 (16 : Nat) x.snd.snd)⟩)]⟩) (fun x ↦ decRs x.fst x.snd.fst x.snd.snd) (fun x ↦ invRs (nrmT (openT [p])) x.fst x.snd.fst x.snd.snd) [3, 4, 5] [3] (((0 : Int), (0 : Int), tnS (nrmT (openT [p])))) (by kernel_rfl) (by kernel_rfl) (show invRs (nrmT (openT [p])) (0 : Int) (0 : Int) (tnS (nrmT (openT [p]))) from ?g0) ?_; rotate_left 1
  rintro ⟨n_0, r_1, S_2⟩ h_3
  obtain ⟨h_4, h_5, h_6, h_7⟩ : S_2 = tnS (nrmT (openT [p])) ∧ (0 : Int) ≤ r_1 ∧ r_1 ≤ (16 : Int) ∧ n_0 = sizeT (nrmT (openT [p])) r_1.toNat := h_3
  refine sq ?_
  refine sq ?_
  refine rg (A := (AV.b (decide (r_1 < (16 : Int))) = AV.b (decide (r_1 < (16 : Int))))) cx [(1, { tell := some (.b (decide (r_1 < (16 : Int)))) })] [3, 4, 5, 10] [3] (by kernel_rfl) ?_
  refine sn ?_
  refine st_dec (r_1 < (16 : Int)) (by kernel_rfl) (by kernel_rfl) (fun h_8 => ?_) (fun h_8 => ?_)
  refine st_skip (by kernel_rfl) ?_
  refine sn ?_
  refine sq ?_
  refine st_block 1 (by kernel_rfl) ?_
  refine sq ?_
  refine rg (A := True) cx [] [3, 4, 5, 6] [3] trivial ?_
  refine sn ?_
  refine st_block 2 (by kernel_rfl) ?_
  refine st_loop (X := Int × Int × (Nat → List Int)) (fun x => ⟨[(3, .ptr (3) (0) (0) (0)), (4, .i .i64 (x.fst)), (5, .i .i64 (r_1)), (6, .i .i64 (x.snd.fst))], [(3, ⟨0, 58, .arr (tabC c3 (16 : Nat) x.snd.snd)⟩)]⟩) (fun x ↦ decRt (nrmT (openT [p])) r_1 x.fst x.snd.fst x.snd.snd) (fun x ↦ invRt (nrmT (openT [p])) r_1 n_0 x.fst x.snd.fst x.snd.snd) [3, 4, 5, 6] [3] ((n_0, (0 : Int), S_2)) (by kernel_rfl) (by kernel_rfl) (show invRt (nrmT (openT [p])) r_1 n_0 n_0 (0 : Int) S_2 from ?g1) ?_; rotate_left 1
  rintro ⟨n_9, k_10, S_11⟩ h_12
  obtain ⟨h_13, h_14, h_15, h_16, h_17⟩ : S_11 = tnS (nrmT (openT [p])) ∧ (0 : Int) ≤ k_10 ∧ k_10 ≤ (2 : Int) * (↑(nrmT (openT [p]) r_1.toNat).length : Int) ∧ (2 : Int) * (k_10 / (2 : Int)) = k_10 ∧ n_9 = n_0 + sizeR (List.take (k_10 / (2 : Int)).toNat (nrmT (openT [p]) r_1.toNat)) := h_12
  refine sq ?_
  refine sq ?_
  refine rg (A := (AV.i IntKind.i64 (IntKind.i64.wrap (k_10 + (1 : Int))) = AV.i IntKind.i64 (k_10 + (1 : Int))) ∧ ((0 : Int) ≤ r_1) ∧ (r_1 < (↑(16 : Nat) : Int)) ∧ ((tabC c3 (16 : Nat) S_11)[r_1.toNat * (1 : Nat) + 0]? = some (AV.sl (List.map c3 (S_11 r_1.toNat)))) ∧ _ ∧ (AV.b (decide (k_10 + (1 : Int) < (↑(S_11 r_1.toNat).length : Int))) = AV.b (decide (k_10 + (1 : Int) < (↑(S_11 r_1.toNat).length : Int))))) cx [(1, { tell := some (.i .i64 (k_10 + (1 : Int))) }), (5, { row := [.sl (List.map c3 (S_11 r_1.toNat))] }), (6, { tell := some (.i .i64 ((↑(S_11 r_1.toNat).length : Int))) }), (7, { tell := some (.b (decide (k_10 + (1 : Int) < (↑(S_11 r_1.toNat).length : Int)))) })] [3, 4, 5, 6, 20] [3] ⟨(told_i64 (by omega) ?g2), (by (with_reducible assumption)), (by omega), (by (simp only [Nat.mul_one, Nat.add_zero, Nat.zero_add]; with_reducible refine get_tabC ?_; omega)), (told_len c3 (S_11 r_1.toNat)), (by kernel_rfl)⟩ ?_; rotate_left 1
  refine sn ?_
  refine st_dec (k_10 + (1 : Int) < (↑(S_11 r_1.toNat).length : Int)) (by kernel_rfl) (by kernel_rfl) (fun h_18 => ?_) (fun h_18 => ?_)
  refine st_skip (by kernel_rfl) ?_
  refine sn ?_
  refine sq ?_
  refine st_block 3 (by kernel_rfl) ?_
  refine ra (A := ((0 : Int) ≤ r_1) ∧ (r_1 < (↑(16 : Nat) : Int)) ∧ ((tabC c3 (16 : Nat) S_11)[r_1.toNat * (1 : Nat) + 0]? = some (AV.sl (List.map c3 (S_11 r_1.toNat)))) ∧ (AV.i IntKind.i64 (IntKind.i64.wrap (k_10 + (1 : Int))) = AV.i IntKind.i64 (k_10 + (1 : Int))) ∧ ((0 : Int) ≤ k_10 + (1 : Int)) ∧ ((List.map c3 (S_11 r_1.toNat))[(k_10 + (1 : Int)).toNat]? = some (c3 (S_11 r_1.toNat)[(k_10 + (1 : Int)).toNat]!)) ∧ ((c3 (S_11 r_1.toNat)[(k_10 + (1 : Int)).toNat]!).length = (1 : Nat)) ∧ ((0 : Int) ≤ r_1) ∧ (r_1 < (↑(16 : Nat) : Int)) ∧ ((tabC c3 (16 : Nat) S_11)[r_1.toNat * (1 : Nat) + 0]? = some (AV.sl (List.map c3 (S_11 r_1.toNat)))) ∧ ((0 : Int) ≤ k_10) ∧ ((List.map c3 (S_11 r_1.toNat))[k_10.toNat]? = some (c3 (S_11 r_1.toNat)[k_10.toNat]!)) ∧ ((c3 (S_11 r_1.toNat)[k_10.toNat]!).length = (1 : Nat)) ∧ (AV.i IntKind.i64 (IntKind.i64.wrap ((S_11 r_1.toNat)[(k_10 + (1 : Int)).toNat]! - (S_11 r_1.toNat)[k_10.toNat]!)) = AV.i IntKind.i64 ((S_11 r_1.toNat)[(k_10 + (1 : Int)).toNat]! - (S_11 r_1.toNat)[k_10.toNat]!)) ∧ (AV.i IntKind.i64 (IntKind.i64.wrap (n_9 + ((S_11 r_1.toNat)[(k_10 + (1 : Int)).toNat]! - (S_11 r_1.toNat)[k_10.toNat]!))) = AV.i IntKind.i64 (n_9 + ((S_11 r_1.toNat)[(k_10 + (1 : Int)).toNat]! - (S_11 r_1.toNat)[k_10.toNat]!)))) cx [(4, { row := [.sl (List.map c3 (S_11 r_1.toNat))] }), (6, { tell := some (.i .i64 (k_10 + (1 : Int))) }), (7, { row := (c3 (S_11 r_1.toNat)[(k_10 + (1 : Int)).toNat]!) }), (12, { row := [.sl (List.map c3 (S_11 r_1.toNat))] }), (14, { row := (c3 (S_11 r_1.toNat)[k_10.toNat]!) }), (16, { tell := some (.i .i64 ((S_11 r_1.toNat)[(k_10 + (1 : Int)).toNat]! - (S_11 r_1.toNat)[k_10.toNat]!)) }), (17, { tell := some (.i .i64 (n_9 + ((S_11 r_1.toNat)[(k_10 + (1 : Int)).toNat]! - (S_11 r_1.toNat)[k_10.toNat]!))) })] [3, 4, 5, 6] [3] ⟨(by (with_reducible assumption)), (by omega), (by (simp only [Nat.mul_one, Nat.add_zero, Nat.zero_add]; with_reducible refine get_tabC ?_; omega)), (told_i64 (by omega) ?g3), (by omega), (by (with_reducible refine get_map ?_; omega)), (by kernel_rfl), (by (with_reducible assumption)), (by omega), (by (simp only [Nat.mul_one, Nat.add_zero, Nat.zero_add]; with_reducible refine get_tabC ?_; omega)), (by (with_reducible assumption)), (by (with_reducible refine get_map ?_; omega)), (by kernel_rfl), (told_i64 ?g4 ?g5), (told_i64 ?g6 ?g7)⟩ ?_; rotate_left 5
  refine q_blk_normal ?_
  refine sn ?_
  refine rg (A := (AV.i IntKind.i64 (IntKind.i64.wrap (k_10 + (2 : Int))) = AV.i IntKind.i64 (k_10 + (2 : Int)))) cx [(1, { tell := some (.i .i64 (k_10 + (2 : Int))) })] [3, 4, 5, 6] [3] (told_i64 (by omega) ?g8) ?_; rotate_left 1
  refine sn ?_
  refine loop_next ((n_9 + ((S_11 r_1.toNat)[(k_10 + (1 : Int)).toNat]! - (S_11 r_1.toNat)[k_10.toNat]!), k_10 + (2 : Int), S_11)) (by kernel_rfl) (show ((2 : Int) * (↑(nrmT (openT [p]) r_1.toNat).length : Int) - (k_10 + (2 : Int))).toNat < ((2 : Int) * (↑(nrmT (openT [p]) r_1.toNat).length : Int) - k_10).toNat from ?g9) (show invRt (nrmT (openT [p])) r_1 n_0 (n_9 + ((S_11 r_1.toNat)[(k_10 + (1 : Int)).toNat]! - (S_11 r_1.toNat)[k_10.toNat]!)) (k_10 + (2 : Int)) S_11 from ?g10); rotate_left 2
  refine st_exit 2 (by kernel_rfl) ?_
  refine q_seq_exit ?_
  refine q_seq_exit ?_
  refine q_blk_hit ?_
  refine q_blk_normal ?_
  refine sn ?_
  refine rg (A := (AV.i IntKind.i64 (IntKind.i64.wrap (r_1 + (1 : Int))) = AV.i IntKind.i64 (r_1 + (1 : Int)))) cx [(1, { tell := some (.i .i64 (r_1 + (1 : Int))) })] [3, 4, 5] [3] (told_i64 (by omega) (by omega)) ?_
  refine sn ?_
  refine loop_next ((n_9, r_1 + (1 : Int), S_11)) (by kernel_rfl) (show ((16 : Int) - (r_1 + (1 : Int))).toNat < ((16 : Int) - r_1).toNat from (by omega)) (show invRs (nrmT (openT [p])) n_9 (r_1 + (1 : Int)) S_11 from ?g11); rotate_left 1
  refine st_exit 0 (by kernel_rfl) ?_
  refine q_seq_exit ?_
  refine q_seq_exit ?_
  refine q_blk_hit ?_
  refine sn ?_
  refine sq ?_
  refine rg (A := True) cx [] [2] [] trivial ?_
  refine sn ?_
  refine st_ret (by kernel_rfl) ?_
  refine q_ret (r := .i .i64 (n_0)) (obl := []) (by kernel_rfl) trivial (AVle.eq (show AV.i IntKind.i64 n_0 = AV.i IntKind.i64 (sizeP p) from ?g12)); rotate_left 1
  rotate_left
  revert n_0 r_1 S_2 h_4 h_5 h_6 h_7 h_8; rotate_left
  revert n_0 r_1 S_2 h_4 h_5 h_6 h_7 h_8 n_9 k_10 S_11 h_13 h_14 h_15 h_16 h_17; rotate_left
  revert n_0 r_1 S_2 h_4 h_5 h_6 h_7 h_8 n_9 k_10 S_11 h_13 h_14 h_15 h_16 h_17 h_18; rotate_left
  revert n_0 r_1 S_2 h_4 h_5 h_6 h_7 h_8 n_9 k_10 S_11 h_13 h_14 h_15 h_16 h_17 h_18; rotate_left
  revert n_0 r_1 S_2 h_4 h_5 h_6 h_7 h_8 n_9 k_10 S_11 h_13 h_14 h_15 h_16 h_17 h_18; rotate_left
  revert n_0 r_1 S_2 h_4 h_5 h_6 h_7 h_8 n_9 k_10 S_11 h_13 h_14 h_15 h_16 h_17 h_18; rotate_left
  revert n_0 r_1 S_2 h_4 h_5 h_6 h_7 h_8 n_9 k_10 S_11 h_13 h_14 h_15 h_16 h_17 h_18; rotate_left
  revert n_0 r_1 S_2 h_4 h_5 h_6 h_7 h_8 n_9 k_10 S_11 h_13 h_14 h_15 h_16 h_17 h_18; rotate_left
  revert n_0 r_1 S_2 h_4 h_5 h_6 h_7 h_8 n_9 k_10 S_11 h_13 h_14 h_15 h_16 h_17 h_18; rotate_left
  revert n_0 r_1 S_2 h_4 h_5 h_6 h_7 h_8 n_9 k_10 S_11 h_13 h_14 h_15 h_16 h_17 h_18; rotate_left
  revert n_0 r_1 S_2 h_4 h_5 h_6 h_7 h_8 n_9 k_10 S_11 h_13 h_14 h_15 h_16 h_17 h_18; rotate_left
  revert n_0 r_1 S_2 h_4 h_5 h_6 h_7 h_8; rotate_left
  all_goals generalize nrmT (openT [p]) = U at *
  case g0 => exact ⟨rfl, by omega, by omega, rfl⟩
  case g1 => intro n r S h0 h1 h2 h3 h4; exact ⟨h0, by omega, by omega, by omega, by simp [sizeR]⟩
  case g2 => intro n r S h0 h1 h2 h3 h4 m k R k0 k1 k2 k3 k4; have := hl r.toNat; omega
  case g3 => intro n r S h0 h1 h2 h3 h4 m k R k0 k1 k2 k3 k4 k5; have := hl r.toNat; omega
  case g4 =>
    intro n r S h0 h1 h2 h3 h4 m k R k0 k1 k2 k3 k4 k5
    subst k0; rw [ht] at k5
    have := tn_at (U := U) (r := r) k1 k3 (by omega); have := hr r.toNat k k1 (by omega); omega
  case g5 =>
    intro n r S h0 h1 h2 h3 h4 m k R k0 k1 k2 k3 k4 k5
    subst k0; rw [ht] at k5
    have := tn_at (U := U) (r := r) k1 k3 (by omega); have := hr r.toNat k k1 (by omega); omega
  case g6 =>
    intro n r S h0 h1 h2 h3 h4 m k R k0 k1 k2 k3 k4 k5
    subst k0; rw [ht] at k5
    have := tn_at (U := U) (r := r) k1 k3 (by omega); have := hr r.toNat k k1 (by omega)
    have := hz r.toNat; have := hk r.toNat (k / 2).toNat; omega
  case g7 =>
    intro n r S h0 h1 h2 h3 h4 m k R k0 k1 k2 k3 k4 k5
    subst k0; rw [ht] at k5
    have := tn_at (U := U) (r := r) k1 k3 (by omega); have := hr r.toNat k k1 (by omega)
    have := hz r.toNat; have := hk r.toNat (k / 2).toNat; omega
  case g8 => intro n r S h0 h1 h2 h3 h4 m k R k0 k1 k2 k3 k4 k5; have := hl r.toNat; omega
  case g9 => intro n r S h0 h1 h2 h3 h4 m k R k0 k1 k2 k3 k4 k5; subst k0; rw [ht] at k5; omega
  case g10 =>
    intro n r S h0 h1 h2 h3 h4 m k R k0 k1 k2 k3 k4 k5
    subst k0; rw [ht] at k5
    have h6 := tn_at (U := U) (r := r) k1 k3 (by omega)
    refine ⟨rfl, by omega, by omega, by omega, ?_⟩
    rw [sizeR_two k1 k3 (by omega)]
    omega
  case g11 =>
    intro n r S h0 h1 h2 h3 h4 m k R k0 k1 k2 k3 k4 k5
    subst k0; rw [ht] at k5
    refine ⟨rfl, by omega, by omega, ?_⟩
    rw [show (r + 1).toNat = r.toNat + 1 by omega, sizeT, hU, k4, h3, List.take_of_length_le (by omega)]
  case g12 => intro n r S h0 h1 h2 h3 h4; rw [h3, hP, show r.toNat = 16 by omega]
theorem con23 (p : Past) (hb : p.cloud.length * 16 ≤ 140737488350000) : Con Try.prog 23 [.agg (c25 p)] (.b (decide (sizeP p = 0))) :=
  by
  refine st_con tab_ok (by kernel_rfl) [.tmp 2] 6 Go.Proofs.Try.func23 (by kernel_rfl) (by kernel_rfl) ?_
  intro e0 cx
  refine sq ?_
  refine rg (A := True) cx [] [1] [1] trivial ?_
  refine sn ?_
  refine sq ?_
  refine rg (A := _ ∧ (AV.b (sizeP p == (0 : Int)) = AV.b (decide (sizeP p = (0 : Int))))) cx [(1, { val := some (.i .i64 (sizeP p)) }), (2, { tell := some (.b (decide (sizeP p = (0 : Int)))) })] [2] [] ⟨(con39 (p) (by (with_reducible assumption))), (by kernel_rfl)⟩ ?_
  refine sn ?_
  refine st_ret (by kernel_rfl) ?_
  exact q_ret (r := .b (decide (sizeP p = (0 : Int)))) (obl := []) (by kernel_rfl) trivial (AVle.refl _)
theorem con18 (p : Past) (rep : Int) (hb : p.cloud.length * 16 ≤ 140737488350000) : Con Try.prog 18 [.agg (c25 p), .i .i64 rep] (.i .i64 (lastP p rep)) :=
  by
  have hn : ∀ r, maxR (nrmT (openT [p]) r) = maxR (openT [p] r) := fun r => maxR_nrm _
  have hs : ∀ r, sepR (nrmT (openT [p]) r) := fun r => nrm_sep _
  have ht : (tnS (nrmT (openT [p])) rep.toNat).length = 2 * (nrmT (openT [p]) rep.toNat).length := turns_len _
  have hl := sepR_len (hs rep.toNat)
  have hx : ¬ ((tnS (nrmT (openT [p])) rep.toNat).length : Int) = 0 → (tnS (nrmT (openT [p])) rep.toNat)[(((tnS (nrmT (openT [p])) rep.toNat).length : Int) - 1).toNat]! - 1 = maxR (openT [p] rep.toNat) ∧ 0 ≤ maxR (openT [p] rep.toNat) ∧ maxR (openT [p] rep.toNat) ≤ 1000000000 := by
    intro h
    have hm := maxR_last (hs rep.toNat) (by omega)
    have hr := (hs rep.toNat).2 _ (bang_in (l := nrmT (openT [p]) rep.toNat) (i := (nrmT (openT [p]) rep.toNat).length - 1) (by omega))
    have e := (turns_at (l := nrmT (openT [p]) rep.toNat) (j := (nrmT (openT [p]) rep.toNat).length - 1) (by omega)).2
    rw [← hn, ht, hm]
    have e2 : (((2 * (nrmT (openT [p]) rep.toNat).length : Nat) : Int) - 1).toNat = 2 * ((nrmT (openT [p]) rep.toNat).length - 1) + 1 := by omega
    rw [e2]
    have e3 : (tnS (nrmT (openT [p])) rep.toNat)[2 * ((nrmT (openT [p]) rep.toNat).length - 1) + 1]! = _ := e
    rw [e3]
    omega
  refine st_con tab_ok (by kernel_rfl) [.tmp 4] 31 Go.Proofs.Try.func18 (by kernel_rfl) (by kernel_rfl) ?_
  intro e0 cx
  refine sq ?_
  refine rg (A := True) cx [] [1, 2] [2] trivial ?_
  refine sn ?_
  refine sq ?_
  refine sq ?_
  refine st_join (σ' := ⟨[(1, .i .i64 (rep)), (2, .ptr (2) (0) (0) (0)), (12, .b (decide (rep < (0 : Int) ∨ (16 : Int) ≤ rep)))], [(2, ⟨0, 25, .var [.sl (List.map c3 p.vec), .sl (List.map c50 p.cloud)]⟩)]⟩) ?_ ?_
  refine st_split (rep < (0 : Int)) (fun h_1 => ?_) (fun h_1 => ?_)
  refine rg (A := _ ∧ (AV.b true = AV.b (decide (rep < (0 : Int) ∨ (16 : Int) ≤ rep)))) cx [(1, { tell := some (.b (true)) }), (5, { tell := some (.b (decide (rep < (0 : Int) ∨ (16 : Int) ≤ rep))) })] [1, 2, 12] [2] ⟨(told_true h_1), (by simp only [eq_true h_1, told_simp1, told_simp2, and_true, true_and, and_false, false_and, or_true, true_or, or_false, false_or, not_true_eq_false, not_false_eq_true, decide_true, decide_false, Bool.decide_eq_true])⟩ ?_
  exact ⟨rfl, by kernel_rfl⟩
  refine rg (A := _ ∧ (AV.b (decide (rep ≥ (16 : Int))) = AV.b (decide ((16 : Int) ≤ rep))) ∧ (AV.b (decide ((16 : Int) ≤ rep)) = AV.b (decide (rep < (0 : Int) ∨ (16 : Int) ≤ rep)))) cx [(1, { tell := some (.b (false)) }), (4, { tell := some (.b (decide ((16 : Int) ≤ rep))) }), (5, { tell := some (.b (decide (rep < (0 : Int) ∨ (16 : Int) ≤ rep))) })] [1, 2, 12] [2] ⟨(told_false h_1), (by kernel_rfl), (by simp only [eq_false h_1, told_simp1, told_simp2, and_true, true_and, and_false, false_and, or_true, true_or, or_false, false_or, not_true_eq_false, not_false_eq_true, decide_true, decide_false, Bool.decide_eq_true])⟩ ?_
  exact ⟨rfl, by kernel_rfl⟩
  refine sn ?_
  refine st_dec (rep < (0 : Int) ∨ (16 : Int) ≤ rep) (by kernel_rfl) (by kernel_rfl) (fun h_2 => ?_) (fun h_2 => ?_)
  refine sq ?_
  refine rg (A := True) cx [] [4] [] trivial ?_
  refine sn ?_
  refine st_ret (by kernel_rfl) ?_
  refine q_seq_ret ?_
  refine q_ret (r := .i .i64 ((0 : Int))) (obl := []) (by kernel_rfl) trivial (AVle.eq (show AV.i IntKind.i64 (0 : Int) = AV.i IntKind.i64 (lastP p rep) from ?g0)); rotate_left 1
  refine st_skip (by kernel_rfl) ?_
  refine sn ?_
  refine sq ?_
  refine rg (A := _) cx [(1, { val := some (.agg (tabC c3 (16 : Nat) (tnS (nrmT (openT [p]))))) })] [1, 5] [5] (con31 (p) (by (with_reducible assumption))) ?_
  refine sn ?_
  refine sq ?_
  refine st_reg16 (F := fun kx => ⟨[(1, .i .i64 (kx)), (5, .ptr (5) (0) (0) (0))], [(5, ⟨0, 58, .var [.sl (List.map c3 (tnS (nrmT (openT [p])) (0))), .sl (List.map c3 (tnS (nrmT (openT [p])) (1))), .sl (List.map c3 (tnS (nrmT (openT [p])) (2))), .sl (List.map c3 (tnS (nrmT (openT [p])) (3))), .sl (List.map c3 (tnS (nrmT (openT [p])) (4))), .sl (List.map c3 (tnS (nrmT (openT [p])) (5))), .sl (List.map c3 (tnS (nrmT (openT [p])) (6))), .sl (List.map c3 (tnS (nrmT (openT [p])) (7))), .sl (List.map c3 (tnS (nrmT (openT [p])) (8))), .sl (List.map c3 (tnS (nrmT (openT [p])) (9))), .sl (List.map c3 (tnS (nrmT (openT [p])) (10))), .sl (List.map c3 (tnS (nrmT (openT [p])) (11))), .sl (List.map c3 (tnS (nrmT (openT [p])) (12))), .sl (List.map c3 (tnS (nrmT (openT [p])) (13))), .sl (List.map c3 (tnS (nrmT (openT [p])) (14))), .sl (List.map c3 (tnS (nrmT (openT [p])) (15)))]⟩)]⟩) (G := fun kx => ⟨[(1, .i .i64 (kx)), (5, .ptr (5) (0) (0) (0)), (6, .i .i64 ((↑(tnS (nrmT (openT [p])) kx.toNat).length : Int)))], [(5, ⟨0, 58, .var [.sl (List.map c3 (tnS (nrmT (openT [p])) (0))), .sl (List.map c3 (tnS (nrmT (openT [p])) (1))), .sl (List.map c3 (tnS (nrmT (openT [p])) (2))), .sl (List.map c3 (tnS (nrmT (openT [p])) (3))), .sl (List.map c3 (tnS (nrmT (openT [p])) (4))), .sl (List.map c3 (tnS (nrmT (openT [p])) (5))), .sl (List.map c3 (tnS (nrmT (openT [p])) (6))), .sl (List.map c3 (tnS (nrmT (openT [p])) (7))), .sl (List.map c3 (tnS (nrmT (openT [p])) (8))), .sl (List.map c3 (tnS (nrmT (openT [p])) (9))), .sl (List.map c3 (tnS (nrmT (openT [p])) (10))), .sl (List.map c3 (tnS (nrmT (openT [p])) (11))), .sl (List.map c3 (tnS (nrmT (openT [p])) (12))), .sl (List.map c3 (tnS (nrmT (openT [p])) (13))), .sl (List.map c3 (tnS (nrmT (openT [p])) (14))), .sl (List.map c3 (tnS (nrmT (openT [p])) (15)))]⟩)]⟩) (A := fun kx => ((0 : Int) ≤ kx) ∧ (kx < (↑(16 : Nat) : Int)) ∧ (AV.i IntKind.i64 (↑(List.map c3 (tnS (nrmT (openT [p])) kx.toNat)).length : Int) = AV.i IntKind.i64 (↑(tnS (nrmT (openT [p])) kx.toNat).length : Int))) cx (fun kx => [(4, { tell := some (.i .i64 ((↑(tnS (nrmT (openT [p])) kx.toNat).length : Int))) })]) [1, 5, 6] [5] (rep) (by omega) (by omega) (by kernel_rfl) (by kernel_rfl) ⟨(by show _ = _; kernel_rfl), (by show _ = _; kernel_rfl), (by show _ = _; kernel_rfl), (by show _ = _; kernel_rfl), (by show _ = _; kernel_rfl), (by show _ = _; kernel_rfl), (by show _ = _; kernel_rfl), (by show _ = _; kernel_rfl), (by show _ = _; kernel_rfl), (by show _ = _; kernel_rfl), (by show _ = _; kernel_rfl), (by show _ = _; kernel_rfl), (by show _ = _; kernel_rfl), (by show _ = _; kernel_rfl), (by show _ = _; kernel_rfl), (by show _ = _; kernel_rfl)⟩ ⟨(by omega), (by omega), ?g1⟩ ?_; rotate_left 1
  refine sn ?_
  refine sq ?_
  refine sq ?_
  refine rg (A := (AV.b ((↑(tnS (nrmT (openT [p])) rep.toNat).length : Int) == (0 : Int)) = AV.b (decide ((↑(tnS (nrmT (openT [p])) rep.toNat).length : Int) = (0 : Int))))) cx [(1, { tell := some (.b (decide ((↑(tnS (nrmT (openT [p])) rep.toNat).length : Int) = (0 : Int)))) })] [1, 5, 6, 21] [5] (by kernel_rfl) ?_
  refine sn ?_
  refine st_dec ((↑(tnS (nrmT (openT [p])) rep.toNat).length : Int) = (0 : Int)) (by kernel_rfl) (by kernel_rfl) (fun h_3 => ?_) (fun h_3 => ?_)
  refine sq ?_
  refine rg (A := True) cx [] [4] [] trivial ?_
  refine sn ?_
  refine st_ret (by kernel_rfl) ?_
  refine q_seq_ret ?_
  refine q_ret (r := .i .i64 ((0 : Int))) (obl := []) (by kernel_rfl) trivial (AVle.eq (show AV.i IntKind.i64 (0 : Int) = AV.i IntKind.i64 (lastP p rep) from ?g2)); rotate_left 1
  refine st_skip (by kernel_rfl) ?_
  refine sn ?_
  refine sq ?_
  refine st_reg16 (F := fun kx => ⟨[(1, .i .i64 (kx)), (5, .ptr (5) (0) (0) (0)), (6, .i .i64 ((↑(tnS (nrmT (openT [p])) kx.toNat).length : Int))), (21, .b (decide ((↑(tnS (nrmT (openT [p])) kx.toNat).length : Int) = (0 : Int))))], [(5, ⟨0, 58, .var [.sl (List.map c3 (tnS (nrmT (openT [p])) (0))), .sl (List.map c3 (tnS (nrmT (openT [p])) (1))), .sl (List.map c3 (tnS (nrmT (openT [p])) (2))), .sl (List.map c3 (tnS (nrmT (openT [p])) (3))), .sl (List.map c3 (tnS (nrmT (openT [p])) (4))), .sl (List.map c3 (tnS (nrmT (openT [p])) (5))), .sl (List.map c3 (tnS (nrmT (openT [p])) (6))), .sl (List.map c3 (tnS (nrmT (openT [p])) (7))), .sl (List.map c3 (tnS (nrmT (openT [p])) (8))), .sl (List.map c3 (tnS (nrmT (openT [p])) (9))), .sl (List.map c3 (tnS (nrmT (openT [p])) (10))), .sl (List.map c3 (tnS (nrmT (openT [p])) (11))), .sl (List.map c3 (tnS (nrmT (openT [p])) (12))), .sl (List.map c3 (tnS (nrmT (openT [p])) (13))), .sl (List.map c3 (tnS (nrmT (openT [p])) (14))), .sl (List.map c3 (tnS (nrmT (openT [p])) (15)))]⟩)]⟩) (G := fun kx => ⟨[(4, .i .i64 ((tnS (nrmT (openT [p])) kx.toNat)[((↑(tnS (nrmT (openT [p])) kx.toNat).length : Int) - (1 : Int)).toNat]! - (1 : Int)))], []⟩) (A := fun kx => ((0 : Int) ≤ kx) ∧ (kx < (↑(16 : Nat) : Int)) ∧ (AV.i IntKind.i64 (IntKind.i64.wrap ((↑(tnS (nrmT (openT [p])) kx.toNat).length : Int) - (1 : Int))) = AV.i IntKind.i64 ((↑(tnS (nrmT (openT [p])) kx.toNat).length : Int) - (1 : Int))) ∧ ((0 : Int) ≤ (↑(tnS (nrmT (openT [p])) kx.toNat).length : Int) - (1 : Int)) ∧ ((List.map c3 (tnS (nrmT (openT [p])) kx.toNat))[((↑(tnS (nrmT (openT [p])) kx.toNat).length : Int) - (1 : Int)).toNat]? = some (c3 (tnS (nrmT (openT [p])) kx.toNat)[((↑(tnS (nrmT (openT [p])) kx.toNat).length : Int) - (1 : Int)).toNat]!)) ∧ ((c3 (tnS (nrmT (openT [p])) kx.toNat)[((↑(tnS (nrmT (openT [p])) kx.toNat).length : Int) - (1 : Int)).toNat]!).length = (1 : Nat)) ∧ (AV.i IntKind.i64 (IntKind.i64.wrap ((tnS (nrmT (openT [p])) kx.toNat)[((↑(tnS (nrmT (openT [p])) kx.toNat).length : Int) - (1 : Int)).toNat]! - (1 : Int))) = AV.i IntKind.i64 ((tnS (nrmT (openT [p])) kx.toNat)[((↑(tnS (nrmT (openT [p])) kx.toNat).length : Int) - (1 : Int)).toNat]! - (1 : Int)))) cx (fun kx => [(5, { tell := some (.i .i64 ((↑(tnS (nrmT (openT [p])) kx.toNat).length : Int) - (1 : Int))) }), (6, { row := (c3 (tnS (nrmT (openT [p])) kx.toNat)[((↑(tnS (nrmT (openT [p])) kx.toNat).length : Int) - (1 : Int)).toNat]!) }), (8, { tell := some (.i .i64 ((tnS (nrmT (openT [p])) kx.toNat)[((↑(tnS (nrmT (openT [p])) kx.toNat).length : Int) - (1 : Int)).toNat]! - (1 : Int))) })]) [4] [] (rep) (by omega) (by omega) (by kernel_rfl) (by kernel_rfl) ⟨(by show _ = _; kernel_rfl), (by show _ = _; kernel_rfl), (by show _ = _; kernel_rfl), (by show _ = _; kernel_rfl), (by show _ = _; kernel_rfl), (by show _ = _; kernel_rfl), (by show _ = _; kernel_rfl), (by show _ = _; kernel_rfl), (by show _ = _; kernel_rfl), (by show _ = _; kernel_rfl), (by show _ = _; kernel_rfl), (by show _ = _; kernel_rfl), (by show _ = _; kernel_rfl), (by show _ = _; kernel_rfl), (by show _ = _; kernel_rfl), (by show _ = _; kernel_rfl)⟩ ⟨(by omega), (by omega), (told_i64 (by omega) ?g3), (by omega), (by (with_reducible refine get_map ?_; omega)), (by kernel_rfl), (told_i64 ?g4 ?g5)⟩ ?_; rotate_left 3
  refine sn ?_
  refine st_ret (by kernel_rfl) ?_
  refine q_ret (r := .i .i64 ((tnS (nrmT (openT [p])) rep.toNat)[((↑(tnS (nrmT (openT [p])) rep.toNat).length : Int) - (1 : Int)).toNat]! - (1 : Int))) (obl := []) (by kernel_rfl) trivial (AVle.eq (show AV.i IntKind.i64 ((tnS (nrmT (openT [p])) rep.toNat)[((↑(tnS (nrmT (openT [p])) rep.toNat).length : Int) - (1 : Int)).toNat]! - (1 : Int)) = AV.i IntKind.i64 (lastP p rep) from ?g6)); rotate_left 1
  revert h_2; rotate_left
  revert h_2; rotate_left
  revert h_2 h_3; rotate_left
  revert h_2 h_3; rotate_left
  revert h_2 h_3; rotate_left
  revert h_2 h_3; rotate_left
  revert h_2 h_3; rotate_left
  case g0 => intro h; unfold lastP; rw [if_pos h]
  case g1 => intro h; rw [List.length_map]
  case g2 =>
    intro h k
    have e : nrmT (openT [p]) rep.toNat = [] := List.eq_nil_of_length_eq_zero (by omega)
    unfold lastP
    rw [if_neg h, ← hn, e]
    rfl
  case g3 => intro h k; omega
  case g4 => intro h k; have := hx k; omega
  case g5 => intro h k; have := hx k; omega
  case g6 => intro h k; unfold lastP; rw [if_neg h, (hx k).1]
end Go.Proofs.Ytaiepnaokhpmcaa
namespace Go.Proofs.Ytaiepnaokhpmcaa
open Go.E
set_option maxRecDepth 100000
set_option maxHeartbeats 4000000
def invRc (x y : Past) (r : Int) (u : List Int) (c : List Span) (v : List Int) (d : List Span) : Prop := u = x.vec ∧ c = x.cloud ∧ v = y.vec ∧ d = y.cloud ∧ 0 ≤ r ∧ r ≤ 16 ∧ isCF x.vec y.vec r
def decRc (r : Int) (u : List Int) (c : List Span) (v : List Int) (d : List Span) : Nat := (16 - r).toNat
def invRd (x y : Past) (i : Int) (u : List Int) (c : List Span) (v : List Int) (d : List Span) : Prop := c = x.cloud ∧ d = y.cloud ∧ 0 ≤ i ∧ i ≤ x.cloud.length ∧ i ≤ y.cloud.length ∧ cmpC x.cloud y.cloud = cmpC (x.cloud.drop i.toNat) (y.cloud.drop i.toNat)
def decRd2 (x : Past) (i : Int) (u : List Int) (c : List Span) (v : List Int) (d : List Span) : Nat := (x.cloud.length - i).toNat
theorem con67 (a b : Int) : Con Try.prog 67 [.i .i64 a, .i .i64 b] (.i .i64 (cmpI a b)) :=
  by
  refine st_con tab_ok (by kernel_rfl) [.tmp 4] 11 Go.Proofs.Try.func67 (by kernel_rfl) (by kernel_rfl) ?_
  intro e0 cx
  refine sq ?_
  refine rg (A := True) cx [] [0, 1] [] trivial ?_
  refine sn ?_
  refine sq ?_
  refine sq ?_
  refine rg (A := (AV.b (decide (a < b)) = AV.b (decide (a < b)))) cx [(2, { tell := some (.b (decide (a < b))) })] [0, 1, 7] [] (by kernel_rfl) ?_
  refine sn ?_
  refine st_dec (a < b) (by kernel_rfl) (by kernel_rfl) (fun h_0 => ?_) (fun h_0 => ?_)
  refine sq ?_
  refine rg (A := True) cx [] [4] [] trivial ?_
  refine sn ?_
  refine st_ret (by kernel_rfl) ?_
  refine q_seq_ret ?_
  refine q_ret (r := .i .i64 ((-1 : Int))) (obl := []) (by kernel_rfl) trivial (AVle.eq (show AV.i IntKind.i64 (-1 : Int) = AV.i IntKind.i64 (cmpI a b) from ?g0)); rotate_left 1
  refine st_skip (by kernel_rfl) ?_
  refine sn ?_
  refine sq ?_
  refine sq ?_
  refine rg (A := (AV.b (decide (a > b)) = AV.b (decide (b < a)))) cx [(2, { tell := some (.b (decide (b < a))) })] [10] [] (by kernel_rfl) ?_
  refine sn ?_
  refine st_dec (b < a) (by kernel_rfl) (by kernel_rfl) (fun h_1 => ?_) (fun h_1 => ?_)
  refine sq ?_
  refine rg (A := True) cx [] [4] [] trivial ?_
  refine sn ?_
  refine st_ret (by kernel_rfl) ?_
  refine q_seq_ret ?_
  refine q_ret (r := .i .i64 ((1 : Int))) (obl := []) (by kernel_rfl) trivial (AVle.eq (show AV.i IntKind.i64 (1 : Int) = AV.i IntKind.i64 (cmpI a b) from ?g1)); rotate_left 1
  refine st_skip (by kernel_rfl) ?_
  refine sn ?_
  refine sq ?_
  refine rg (A := True) cx [] [4] [] trivial ?_
  refine sn ?_
  refine st_ret (by kernel_rfl) ?_
  refine q_ret (r := .i .i64 ((0 : Int))) (obl := []) (by kernel_rfl) trivial (AVle.eq (show AV.i IntKind.i64 (0 : Int) = AV.i IntKind.i64 (cmpI a b) from ?g2)); rotate_left 1
  revert h_0; rotate_left
  revert h_0 h_1; rotate_left
  revert h_0 h_1; rotate_left
  case g0 => intro h; unfold cmpI; rw [if_pos h]
  case g1 => intro h k; unfold cmpI; rw [if_neg h, if_pos k]
  case g2 => intro h k; unfold cmpI; rw [if_neg h, if_neg k]
theorem con56 (p q : Past) (hb : p.cloud.length * 16 ≤ 140737488350000) (hq : q.cloud.length * 16 ≤ 140737488350000) : Con Try.prog 56 [.agg (c25 p), .agg (c25 q)] (.i .i64 (cmpP p q)) :=
  by
  have D : ∀ {r : Int} {u v : List Int}, u = (normP p).vec → v = (normP q).vec → 0 ≤ r → r < 16 → ∀ {a b : Int}, u[r.toNat]! = a → v[r.toNat]! = b → ¬ a = b → isCF (normP p).vec (normP q).vec r → cmpI a b = cmpP p q := by
    intro r u v e1 e3 h0 h1 a b ha hb hn h
    rw [e1] at ha
    rw [e3] at hb
    have e := cf_diff h0 h1 (by rw [ha, hb]; exact hn) h
    rw [ha, hb] at e
    exact (cp_vec e (cmpI_ne hn)).symm
  have N : ∀ {r : Int} {u v : List Int} {c d : List Span}, u = (normP p).vec → c = (normP p).cloud → v = (normP q).vec → d = (normP q).cloud → 0 ≤ r → r < 16 → ∀ {a b : Int}, u[r.toNat]! = a → v[r.toNat]! = b → ¬ ¬ a = b → isCF (normP p).vec (normP q).vec r → invRc (normP p) (normP q) (r + 1) u c v d := by
    intro r u v c d e1 e2 e3 e4 h0 h1 a b ha hb hn h
    have e := cf_next h0 h1 (by rw [← e1, ← e3, ha, hb]; exact Classical.not_not.1 hn) h
    exact ⟨e1, e2, e3, e4, e.1, e.2.1, e.2.2⟩
  have S1 : ∀ {s t : Span}, ¬ s.rep = t.rep → cmpI s.rep t.rep = cmpS s t := fun {s t} h => by unfold cmpS; rw [if_pos (cmpI_ne h)]
  have S2 : ∀ {s t : Span}, s.rep = t.rep → ¬ s.lo = t.lo → cmpI s.lo t.lo = cmpS s t := fun {s t} h0 h => by unfold cmpS; rw [if_neg (fun k => k (cmpI_zero.2 h0)), if_pos (cmpI_ne h)]
  have S3 : ∀ {s t : Span}, s.rep = t.rep → s.lo = t.lo → cmpI s.hi t.hi = cmpS s t := fun {s t} h0 h => by unfold cmpS; rw [if_neg (fun k => k (cmpI_zero.2 h0)), if_neg (fun k => k (cmpI_zero.2 h))]
  have E : ∀ {i z : Int} {c d : List Span}, c = (normP p).cloud → d = (normP q).cloud → 0 ≤ i → (i < c.length ∧ i < d.length) → cmpC (normP p).cloud (normP q).cloud = cmpC ((normP p).cloud.drop i.toNat) ((normP q).cloud.drop i.toNat) → cmpF (normP p).vec (normP q).vec 0 16 = 0 → ¬ z = 0 → z = cmpS c[i.toNat]! d[i.toNat]! → z = cmpP p q := by
    intro i z c d e1 e2 h0 hl h hf hz e
    rw [e1, e2] at hl e
    rw [cp_cloud hf, cc_diff h0 hl.1 hl.2 (by rw [← e]; exact hz) h]
    exact e
  refine st_con tab_ok (by kernel_rfl) [.tmp 4] 106 Go.Proofs.Try.func56 (by kernel_rfl) (by kernel_rfl) ?_
  intro e0 cx
  refine sq ?_
  refine rg (A := True) cx [] [2, 3] [2, 3] trivial ?_
  refine sn ?_
  refine sq ?_
  refine rg (A := _) cx [(1, { val := some (.agg [.sl (List.map c3 (normP p).vec), .sl (List.map c50 (normP p).cloud)]) })] [2, 3] [2, 3] (con29 (p) (by (with_reducible assumption))) ?_
  refine sn ?_
  refine sq ?_
  refine rg (A := _) cx [(1, { val := some (.agg [.sl (List.map c3 (normP q).vec), .sl (List.map c50 (normP q).cloud)]) })] [2, 3] [2, 3] (con29 (q) (by (with_reducible assumption))) ?_
  refine sn ?_
  refine sq ?_
  refine sq ?_
  refine rg (A := True) cx [] [2, 3, 5] [2, 3] trivial ?_
  refine sn ?_
  refine st_block 0 (by kernel_rfl) ?_
  refine st_loop (X := Int × List Int × List Span × List Int × List Span) (fun x => ⟨[(2, .ptr (2) (0) (0) (0)), (3, .ptr (3) (0) (0) (0)), (5, .i .i64 (x.fst))], [(2, ⟨0, 25, .var [.sl (List.map c3 x.snd.fst), .sl (List.map c50 x.snd.snd.fst)]⟩), (3, ⟨0, 25, .var [.sl (List.map c3 x.snd.snd.snd.fst), .sl (List.map c50 x.snd.snd.snd.snd)]⟩)]⟩) (fun x ↦ decRc x.fst x.snd.fst x.snd.snd.fst x.snd.snd.snd.fst x.snd.snd.snd.snd) (fun x ↦ invRc (normP p) (normP q) x.fst x.snd.fst x.snd.snd.fst x.snd.snd.snd.fst x.snd.snd.snd.snd) [2, 3, 5] [2, 3] (((0 : Int), (normP p).vec, (normP p).cloud, (normP q).vec, (normP q).cloud)) (by kernel_rfl) (by kernel_rfl) (show invRc (normP p) (normP q) (0 : Int) (normP p).vec (normP p).cloud (normP q).vec (normP q).cloud from ?g0) ?_; rotate_left 1
  rintro ⟨r_0, u_1, c_2, v_3, d_4⟩ h_5
  obtain ⟨h_6, h_7, h_8, h_9, h_10, h_11, h_12⟩ : u_1 = (normP p).vec ∧ c_2 = (normP p).cloud ∧ v_3 = (normP q).vec ∧ d_4 = (normP q).cloud ∧ (0 : Int) ≤ r_0 ∧ r_0 ≤ (16 : Int) ∧ isCF (normP p).vec (normP q).vec r_0 := h_5
  refine sq ?_
  refine sq ?_
  refine rg (A := (AV.b (decide (r_0 < (16 : Int))) = AV.b (decide (r_0 < (16 : Int))))) cx [(1, { tell := some (.b (decide (r_0 < (16 : Int)))) })] [2, 3, 5, 16] [2, 3] (by kernel_rfl) ?_
  refine sn ?_
  refine st_dec (r_0 < (16 : Int)) (by kernel_rfl) (by kernel_rfl) (fun h_13 => ?_) (fun h_13 => ?_)
  refine st_skip (by kernel_rfl) ?_
  refine sn ?_
  refine sq ?_
  refine st_block 1 (by kernel_rfl) ?_
  refine sq ?_
  refine rg (A := True) cx [] [2, 3, 5, 6, 7] [2, 3] trivial ?_
  refine sn ?_
  refine sq ?_
  refine sq ?_
  refine rg (A := _ ∧ (AV.b (decide (r_0 < (↑u_1.length : Int))) = AV.b (decide (r_0 < (↑u_1.length : Int))))) cx [(3, { tell := some (.i .i64 ((↑u_1.length : Int))) }), (4, { tell := some (.b (decide (r_0 < (↑u_1.length : Int)))) })] [2, 3, 5, 6, 7, 23] [2, 3] ⟨(told_len c3 u_1), (by kernel_rfl)⟩ ?_
  refine sn ?_
  refine st_dec (r_0 < (↑u_1.length : Int)) (by kernel_rfl) (by kernel_rfl) (fun h_14 => ?_) (fun h_14 => ?_)
  refine rg (A := ((0 : Int) ≤ r_0) ∧ ((List.map c3 u_1)[r_0.toNat]? = some (c3 u_1[r_0.toNat]!)) ∧ ((c3 u_1[r_0.toNat]!).length = (1 : Nat))) cx [(3, { row := (c3 u_1[r_0.toNat]!) })] [2, 3, 5, 6, 7] [2, 3] ⟨(by (with_reducible assumption)), (by (with_reducible refine get_map ?_; omega)), (by kernel_rfl)⟩ ?_
  refine sn ?_
  refine sq ?_
  refine sq ?_
  refine rg (A := _ ∧ (AV.b (decide (r_0 < (↑v_3.length : Int))) = AV.b (decide (r_0 < (↑v_3.length : Int))))) cx [(3, { tell := some (.i .i64 ((↑v_3.length : Int))) }), (4, { tell := some (.b (decide (r_0 < (↑v_3.length : Int)))) })] [2, 3, 5, 6, 7, 33] [2, 3] ⟨(told_len c3 v_3), (by kernel_rfl)⟩ ?_
  refine sn ?_
  refine st_dec (r_0 < (↑v_3.length : Int)) (by kernel_rfl) (by kernel_rfl) (fun h_15 => ?_) (fun h_15 => ?_)
  refine rg (A := ((0 : Int) ≤ r_0) ∧ ((List.map c3 v_3)[r_0.toNat]? = some (c3 v_3[r_0.toNat]!)) ∧ ((c3 v_3[r_0.toNat]!).length = (1 : Nat))) cx [(3, { row := (c3 v_3[r_0.toNat]!) })] [2, 3, 5, 6, 7] [2, 3] ⟨(by (with_reducible assumption)), (by (with_reducible refine get_map ?_; omega)), (by kernel_rfl)⟩ ?_
  refine sn ?_
  refine sq ?_
  refine rg (A := (AV.b (u_1[r_0.toNat]! != v_3[r_0.toNat]!) = AV.b (decide ¬u_1[r_0.toNat]! = v_3[r_0.toNat]!))) cx [(2, { tell := some (.b (decide ¬u_1[r_0.toNat]! = v_3[r_0.toNat]!)) })] [2, 3, 5, 6, 7, 41] [2, 3] (told_neq) ?_
  refine sn ?_
  refine st_dec (¬u_1[r_0.toNat]! = v_3[r_0.toNat]!) (by kernel_rfl) (by kernel_rfl) (fun h_16 => ?_) (fun h_16 => ?_)
  refine sq ?_
  refine rg (A := _) cx [(2, { val := some (.i .i64 (cmpI u_1[r_0.toNat]! v_3[r_0.toNat]!)) })] [4] [] (con67 (u_1[r_0.toNat]!) (v_3[r_0.toNat]!)) ?_
  refine sn ?_
  refine st_ret (by kernel_rfl) ?_
  refine q_blk_ret ?_
  refine q_seq_ret ?_
  refine q_seq_ret ?_
  refine q_blk_ret ?_
  refine q_seq_ret ?_
  refine q_ret (r := .i .i64 (cmpI u_1[r_0.toNat]! v_3[r_0.toNat]!)) (obl := []) (by kernel_rfl) trivial (AVle.eq (show AV.i IntKind.i64 (cmpI u_1[r_0.toNat]! v_3[r_0.toNat]!) = AV.i IntKind.i64 (cmpP p q) from ?g1)); rotate_left 1
  refine st_skip (by kernel_rfl) ?_
  refine q_blk_normal ?_
  refine sn ?_
  refine rg (A := (AV.i IntKind.i64 (IntKind.i64.wrap (r_0 + (1 : Int))) = AV.i IntKind.i64 (r_0 + (1 : Int)))) cx [(1, { tell := some (.i .i64 (r_0 + (1 : Int))) })] [2, 3, 5] [2, 3] (told_i64 (by omega) (by omega)) ?_
  refine sn ?_
  refine loop_next ((r_0 + (1 : Int), u_1, c_2, v_3, d_4)) (by kernel_rfl) (show ((16 : Int) - (r_0 + (1 : Int))).toNat < ((16 : Int) - r_0).toNat from (by omega)) (show invRc (normP p) (normP q) (r_0 + (1 : Int)) u_1 c_2 v_3 d_4 from ?g2); rotate_left 1
  refine st_skip (by kernel_rfl) ?_
  refine sn ?_
  refine sq ?_
  refine rg (A := (AV.b (u_1[r_0.toNat]! != (0 : Int)) = AV.b (decide ¬u_1[r_0.toNat]! = (0 : Int)))) cx [(2, { tell := some (.b (decide ¬u_1[r_0.toNat]! = (0 : Int))) })] [2, 3, 5, 6, 7, 41] [2, 3] (told_neq) ?_
  refine sn ?_
  refine st_dec (¬u_1[r_0.toNat]! = (0 : Int)) (by kernel_rfl) (by kernel_rfl) (fun h_17 => ?_) (fun h_17 => ?_)
  refine sq ?_
  refine rg (A := _) cx [(2, { val := some (.i .i64 (cmpI u_1[r_0.toNat]! (0 : Int))) })] [4] [] (con67 (u_1[r_0.toNat]!) ((0 : Int))) ?_
  refine sn ?_
  refine st_ret (by kernel_rfl) ?_
  refine q_blk_ret ?_
  refine q_seq_ret ?_
  refine q_seq_ret ?_
  refine q_blk_ret ?_
  refine q_seq_ret ?_
  refine q_ret (r := .i .i64 (cmpI u_1[r_0.toNat]! (0 : Int))) (obl := []) (by kernel_rfl) trivial (AVle.eq (show AV.i IntKind.i64 (cmpI u_1[r_0.toNat]! (0 : Int)) = AV.i IntKind.i64 (cmpP p q) from ?g3)); rotate_left 1
  refine st_skip (by kernel_rfl) ?_
  refine q_blk_normal ?_
  refine sn ?_
  refine rg (A := (AV.i IntKind.i64 (IntKind.i64.wrap (r_0 + (1 : Int))) = AV.i IntKind.i64 (r_0 + (1 : Int)))) cx [(1, { tell := some (.i .i64 (r_0 + (1 : Int))) })] [2, 3, 5] [2, 3] (told_i64 (by omega) (by omega)) ?_
  refine sn ?_
  refine loop_next ((r_0 + (1 : Int), u_1, c_2, v_3, d_4)) (by kernel_rfl) (show ((16 : Int) - (r_0 + (1 : Int))).toNat < ((16 : Int) - r_0).toNat from (by omega)) (show invRc (normP p) (normP q) (r_0 + (1 : Int)) u_1 c_2 v_3 d_4 from ?g4); rotate_left 1
  refine st_skip (by kernel_rfl) ?_
  refine sn ?_
  refine sq ?_
  refine sq ?_
  refine rg (A := _ ∧ (AV.b (decide (r_0 < (↑v_3.length : Int))) = AV.b (decide (r_0 < (↑v_3.length : Int))))) cx [(3, { tell := some (.i .i64 ((↑v_3.length : Int))) }), (4, { tell := some (.b (decide (r_0 < (↑v_3.length : Int)))) })] [2, 3, 5, 6, 7, 33] [2, 3] ⟨(told_len c3 v_3), (by kernel_rfl)⟩ ?_
  refine sn ?_
  refine st_dec (r_0 < (↑v_3.length : Int)) (by kernel_rfl) (by kernel_rfl) (fun h_18 => ?_) (fun h_18 => ?_)
  refine rg (A := ((0 : Int) ≤ r_0) ∧ ((List.map c3 v_3)[r_0.toNat]? = some (c3 v_3[r_0.toNat]!)) ∧ ((c3 v_3[r_0.toNat]!).length = (1 : Nat))) cx [(3, { row := (c3 v_3[r_0.toNat]!) })] [2, 3, 5, 6, 7] [2, 3] ⟨(by (with_reducible assumption)), (by (with_reducible refine get_map ?_; omega)), (by kernel_rfl)⟩ ?_
  refine sn ?_
  refine sq ?_
  refine rg (A := (AV.b ((0 : Int) != v_3[r_0.toNat]!) = AV.b (decide ¬(0 : Int) = v_3[r_0.toNat]!))) cx [(2, { tell := some (.b (decide ¬(0 : Int) = v_3[r_0.toNat]!)) })] [2, 3, 5, 6, 7, 41] [2, 3] (told_neq) ?_
  refine sn ?_
  refine st_dec (¬(0 : Int) = v_3[r_0.toNat]!) (by kernel_rfl) (by kernel_rfl) (fun h_19 => ?_) (fun h_19 => ?_)
  refine sq ?_
  refine rg (A := _) cx [(2, { val := some (.i .i64 (cmpI (0 : Int) v_3[r_0.toNat]!)) })] [4] [] (con67 ((0 : Int)) (v_3[r_0.toNat]!)) ?_
  refine sn ?_
  refine st_ret (by kernel_rfl) ?_
  refine q_blk_ret ?_
  refine q_seq_ret ?_
  refine q_seq_ret ?_
  refine q_blk_ret ?_
  refine q_seq_ret ?_
  refine q_ret (r := .i .i64 (cmpI (0 : Int) v_3[r_0.toNat]!)) (obl := []) (by kernel_rfl) trivial (AVle.eq (show AV.i IntKind.i64 (cmpI (0 : Int) v_3[r_0.toNat]!) = AV.i IntKind.i64 (cmpP p q) from ?g5)); rotate_left 1
  refine st_skip (by kernel_rfl) ?_
  refine q_blk_normal ?_
  refine sn ?_
  refine rg (A := (AV.i IntKind.i64 (IntKind.i64.wrap (r_0 + (1 : Int))) = AV.i IntKind.i64 (r_0 + (1 : Int)))) cx [(1, { tell := some (.i .i64 (r_0 + (1 : Int))) })] [2, 3, 5] [2, 3] (told_i64 (by omega) (by omega)) ?_
  refine sn ?_
  refine loop_next ((r_0 + (1 : Int), u_1, c_2, v_3, d_4)) (by kernel_rfl) (show ((16 : Int) - (r_0 + (1 : Int))).toNat < ((16 : Int) - r_0).toNat from (by omega)) (show invRc (normP p) (normP q) (r_0 + (1 : Int)) u_1 c_2 v_3 d_4 from ?g6); rotate_left 1
  refine st_skip (by kernel_rfl) ?_
  refine sn ?_
  refine sq ?_
  refine rg (A := True) cx [] [2, 3, 5, 6, 7, 41] [2, 3] trivial ?_
  refine sn ?_
  refine st_false (by kernel_rfl) (by kernel_rfl) ?_
  refine st_skip (by kernel_rfl) ?_
  refine q_blk_normal ?_
  refine sn ?_
  refine rg (A := (AV.i IntKind.i64 (IntKind.i64.wrap (r_0 + (1 : Int))) = AV.i IntKind.i64 (r_0 + (1 : Int)))) cx [(1, { tell := some (.i .i64 (r_0 + (1 : Int))) })] [2, 3, 5] [2, 3] (told_i64 (by omega) (by omega)) ?_
  refine sn ?_
  refine loop_next ((r_0 + (1 : Int), u_1, c_2, v_3, d_4)) (by kernel_rfl) (show ((16 : Int) - (r_0 + (1 : Int))).toNat < ((16 : Int) - r_0).toNat from (by omega)) (show invRc (normP p) (normP q) (r_0 + (1 : Int)) u_1 c_2 v_3 d_4 from ?g7); rotate_left 1
  refine st_exit 0 (by kernel_rfl) ?_
  refine q_seq_exit ?_
  refine q_seq_exit ?_
  refine q_blk_hit ?_
  refine sn ?_
  refine sq ?_
  refine sq ?_
  refine rg (A := True) cx [] [2, 3, 8] [2, 3] trivial ?_
  refine sn ?_
  refine st_block 2 (by kernel_rfl) ?_
  refine st_loop (X := Int × List Int × List Span × List Int × List Span) (fun x => ⟨[(2, .ptr (2) (0) (0) (0)), (3, .ptr (3) (0) (0) (0)), (8, .i .i64 (x.fst))], [(2, ⟨0, 25, .var [.sl (List.map c3 x.snd.fst), .sl (List.map c50 x.snd.snd.fst)]⟩), (3, ⟨0, 25, .var [.sl (List.map c3 x.snd.snd.snd.fst), .sl (List.map c50 x.snd.snd.snd.snd)]⟩)]⟩) (fun x ↦ decRd2 (normP p) x.fst x.snd.fst x.snd.snd.fst x.snd.snd.snd.fst x.snd.snd.snd.snd) (fun x ↦ invRd (normP p) (normP q) x.fst x.snd.fst x.snd.snd.fst x.snd.snd.snd.fst x.snd.snd.snd.snd) [2, 3, 8] [2, 3] (((0 : Int), u_1, c_2, v_3, d_4)) (by kernel_rfl) (by kernel_rfl) (show invRd (normP p) (normP q) (0 : Int) u_1 c_2 v_3 d_4 from ?g8) ?_; rotate_left 1
  rintro ⟨i_20, u_21, c_22, v_23, d_24⟩ h_25
  obtain ⟨h_26, h_27, h_28, h_29, h_30, h_31⟩ : c_22 = (normP p).cloud ∧ d_24 = (normP q).cloud ∧ (0 : Int) ≤ i_20 ∧ i_20 ≤ (↑(normP p).cloud.length : Int) ∧ i_20 ≤ (↑(normP q).cloud.length : Int) ∧ cmpC (normP p).cloud (normP q).cloud = cmpC (List.drop i_20.toNat (normP p).cloud) (List.drop i_20.toNat (normP q).cloud) := h_25
  refine sq ?_
  refine sq ?_
  refine st_join (σ' := ⟨[(2, .ptr (2) (0) (0) (0)), (3, .ptr (3) (0) (0) (0)), (8, .i .i64 (i_20)), (56, .b (decide (i_20 < (↑c_22.length : Int) ∧ i_20 < (↑d_24.length : Int))))], [(2, ⟨0, 25, .var [.sl (List.map c3 u_21), .sl (List.map c50 c_22)]⟩), (3, ⟨0, 25, .var [.sl (List.map c3 v_23), .sl (List.map c50 d_24)]⟩)]⟩) ?_ ?_
  refine st_split (i_20 < (↑c_22.length : Int)) (fun h_33 => ?_) (fun h_33 => ?_)
  refine rg (A := _ ∧ _ ∧ _ ∧ (AV.b (decide (i_20 < (↑d_24.length : Int))) = AV.b (decide (i_20 < (↑d_24.length : Int)))) ∧ (AV.b (decide (i_20 < (↑d_24.length : Int))) = AV.b (decide (i_20 < (↑c_22.length : Int) ∧ i_20 < (↑d_24.length : Int))))) cx [(3, { tell := some (.i .i64 ((↑c_22.length : Int))) }), (4, { tell := some (.b (true)) }), (9, { tell := some (.i .i64 ((↑d_24.length : Int))) }), (10, { tell := some (.b (decide (i_20 < (↑d_24.length : Int)))) }), (11, { tell := some (.b (decide (i_20 < (↑c_22.length : Int) ∧ i_20 < (↑d_24.length : Int)))) })] [2, 3, 8, 56] [2, 3] ⟨(told_len c50 c_22), (told_true h_33), (told_len c50 d_24), (by kernel_rfl), (by simp only [eq_true h_33, told_simp1, told_simp2, and_true, true_and, and_false, false_and, or_true, true_or, or_false, false_or, not_true_eq_false, not_false_eq_true, decide_true, decide_false, Bool.decide_eq_true])⟩ ?_
  exact ⟨rfl, by kernel_rfl⟩
  refine rg (A := _ ∧ _ ∧ (AV.b false = AV.b (decide (i_20 < (↑c_22.length : Int) ∧ i_20 < (↑d_24.length : Int))))) cx [(3, { tell := some (.i .i64 ((↑c_22.length : Int))) }), (4, { tell := some (.b (false)) }), (11, { tell := some (.b (decide (i_20 < (↑c_22.length : Int) ∧ i_20 < (↑d_24.length : Int)))) })] [2, 3, 8, 56] [2, 3] ⟨(told_len c50 c_22), (told_false h_33), (by simp only [eq_false h_33, told_simp1, told_simp2, and_true, true_and, and_false, false_and, or_true, true_or, or_false, false_or, not_true_eq_false, not_false_eq_true, decide_true, decide_false, Bool.decide_eq_true])⟩ ?_
  exact ⟨rfl, by kernel_rfl⟩
  refine sn ?_
  refine st_dec (i_20 < (↑c_22.length : Int) ∧ i_20 < (↑d_24.length : Int)) (by kernel_rfl) (by kernel_rfl) (fun h_34 => ?_) (fun h_34 => ?_)
  refine st_skip (by kernel_rfl) ?_
  refine sn ?_
  refine sq ?_
  refine st_block 3 (by kernel_rfl) ?_
  refine sq ?_
  refine ra (A := ((0 : Int) ≤ i_20) ∧ ((List.map c50 c_22)[i_20.toNat]? = some (c50 c_22[i_20.toNat]!)) ∧ ((c50 c_22[i_20.toNat]!).length = (3 : Nat)) ∧ ((3 : Nat) ≤ [AV.i IntKind.i64 c_22[i_20.toNat]!.rep, AV.i IntKind.i64 c_22[i_20.toNat]!.lo, AV.i IntKind.i64 c_22[i_20.toNat]!.hi].length) ∧ ((0 : Int) ≤ i_20) ∧ ((List.map c50 d_24)[i_20.toNat]? = some (c50 d_24[i_20.toNat]!)) ∧ ((c50 d_24[i_20.toNat]!).length = (3 : Nat)) ∧ ((3 : Nat) ≤ [AV.i IntKind.i64 d_24[i_20.toNat]!.rep, AV.i IntKind.i64 d_24[i_20.toNat]!.lo, AV.i IntKind.i64 d_24[i_20.toNat]!.hi].length)) cx [(3, { row := (c50 c_22[i_20.toNat]!) }), (8, { row := (c50 d_24[i_20.toNat]!) })] [2, 3, 8, 9, 10] [2, 3, 9, 10] ⟨(by (with_reducible assumption)), (by (with_reducible refine get_map ?_; omega)), (by kernel_rfl), (by (simp only [List.length_append, List.length_cons, List.length_nil]; omega)), (by (with_reducible assumption)), (by (with_reducible refine get_map ?_; omega)), (by kernel_rfl), (by (simp only [List.length_append, List.length_cons, List.length_nil]; omega))⟩ ?_
  refine sn ?_
  refine sq ?_
  refine sq ?_
  refine rg (A := (AV.b (c_22[i_20.toNat]!.rep != d_24[i_20.toNat]!.rep) = AV.b (decide ¬c_22[i_20.toNat]!.rep = d_24[i_20.toNat]!.rep))) cx [(4, { tell := some (.b (decide ¬c_22[i_20.toNat]!.rep = d_24[i_20.toNat]!.rep)) })] [2, 3, 8, 9, 10, 73] [2, 3, 9, 10] (told_neq) ?_
  refine sn ?_
  refine st_dec (¬c_22[i_20.toNat]!.rep = d_24[i_20.toNat]!.rep) (by kernel_rfl) (by kernel_rfl) (fun h_35 => ?_) (fun h_35 => ?_)
  refine sq ?_
  refine rg (A := _) cx [(4, { val := some (.i .i64 (cmpI c_22[i_20.toNat]!.rep d_24[i_20.toNat]!.rep)) })] [4] [] (con67 (c_22[i_20.toNat]!.rep) (d_24[i_20.toNat]!.rep)) ?_
  refine sn ?_
  refine st_ret (by kernel_rfl) ?_
  refine q_seq_ret ?_
  refine q_blk_ret ?_
  refine q_seq_ret ?_
  refine q_seq_ret ?_
  refine q_blk_ret ?_
  refine q_seq_ret ?_
  refine q_ret (r := .i .i64 (cmpI c_22[i_20.toNat]!.rep d_24[i_20.toNat]!.rep)) (obl := []) (by kernel_rfl) trivial (AVle.eq (show AV.i IntKind.i64 (cmpI c_22[i_20.toNat]!.rep d_24[i_20.toNat]!.rep) = AV.i IntKind.i64 (cmpP p q) from ?g9)); rotate_left 1
  refine st_skip (by kernel_rfl) ?_
  refine sn ?_
  refine sq ?_
  refine sq ?_
  refine rg (A := (AV.b (c_22[i_20.toNat]!.lo != d_24[i_20.toNat]!.lo) = AV.b (decide ¬c_22[i_20.toNat]!.lo = d_24[i_20.toNat]!.lo))) cx [(4, { tell := some (.b (decide ¬c_22[i_20.toNat]!.lo = d_24[i_20.toNat]!.lo)) })] [2, 3, 8, 9, 10, 83] [2, 3, 9, 10] (told_neq) ?_
  refine sn ?_
  refine st_dec (¬c_22[i_20.toNat]!.lo = d_24[i_20.toNat]!.lo) (by kernel_rfl) (by kernel_rfl) (fun h_36 => ?_) (fun h_36 => ?_)
  refine sq ?_
  refine rg (A := _) cx [(4, { val := some (.i .i64 (cmpI c_22[i_20.toNat]!.lo d_24[i_20.toNat]!.lo)) })] [4] [] (con67 (c_22[i_20.toNat]!.lo) (d_24[i_20.toNat]!.lo)) ?_
  refine sn ?_
  refine st_ret (by kernel_rfl) ?_
  refine q_seq_ret ?_
  refine q_blk_ret ?_
  refine q_seq_ret ?_
  refine q_seq_ret ?_
  refine q_blk_ret ?_
  refine q_seq_ret ?_
  refine q_ret (r := .i .i64 (cmpI c_22[i_20.toNat]!.lo d_24[i_20.toNat]!.lo)) (obl := []) (by kernel_rfl) trivial (AVle.eq (show AV.i IntKind.i64 (cmpI c_22[i_20.toNat]!.lo d_24[i_20.toNat]!.lo) = AV.i IntKind.i64 (cmpP p q) from ?g10)); rotate_left 1
  refine st_skip (by kernel_rfl) ?_
  refine sn ?_
  refine sq ?_
  refine rg (A := (AV.b (c_22[i_20.toNat]!.hi != d_24[i_20.toNat]!.hi) = AV.b (decide ¬c_22[i_20.toNat]!.hi = d_24[i_20.toNat]!.hi))) cx [(4, { tell := some (.b (decide ¬c_22[i_20.toNat]!.hi = d_24[i_20.toNat]!.hi)) })] [2, 3, 8, 9, 10, 93] [2, 3, 9, 10] (told_neq) ?_
  refine sn ?_
  refine st_dec (¬c_22[i_20.toNat]!.hi = d_24[i_20.toNat]!.hi) (by kernel_rfl) (by kernel_rfl) (fun h_37 => ?_) (fun h_37 => ?_)
  refine sq ?_
  refine rg (A := _) cx [(4, { val := some (.i .i64 (cmpI c_22[i_20.toNat]!.hi d_24[i_20.toNat]!.hi)) })] [4] [] (con67 (c_22[i_20.toNat]!.hi) (d_24[i_20.toNat]!.hi)) ?_
  refine sn ?_
  refine st_ret (by kernel_rfl) ?_
  refine q_blk_ret ?_
  refine q_seq_ret ?_
  refine q_seq_ret ?_
  refine q_blk_ret ?_
  refine q_seq_ret ?_
  refine q_ret (r := .i .i64 (cmpI c_22[i_20.toNat]!.hi d_24[i_20.toNat]!.hi)) (obl := []) (by kernel_rfl) trivial (AVle.eq (show AV.i IntKind.i64 (cmpI c_22[i_20.toNat]!.hi d_24[i_20.toNat]!.hi) = AV.i IntKind.i64 (cmpP p q) from ?g11)); rotate_left 1
  refine st_skip (by kernel_rfl) ?_
  refine q_blk_normal ?_
  refine sn ?_
  refine rg (A := (AV.i IntKind.i64 (IntKind.i64.wrap (i_20 + (1 : Int))) = AV.i IntKind.i64 (i_20 + (1 : Int)))) cx [(1, { tell := some (.i .i64 (i_20 + (1 : Int))) })] [2, 3, 8] [2, 3] (told_i64 (by omega) ?g12) ?_; rotate_left 1
  refine sn ?_
  refine loop_next ((i_20 + (1 : Int), u_21, c_22, v_23, d_24)) (by kernel_rfl) (show ((↑(normP p).cloud.length : Int) - (i_20 + (1 : Int))).toNat < ((↑(normP p).cloud.length : Int) - i_20).toNat from ?g13) (show invRd (normP p) (normP q) (i_20 + (1 : Int)) u_21 c_22 v_23 d_24 from ?g14); rotate_left 2
  refine st_exit 2 (by kernel_rfl) ?_
  refine q_seq_exit ?_
  refine q_seq_exit ?_
  refine q_blk_hit ?_
  refine sn ?_
  refine sq ?_
  refine rg (A := _ ∧ _ ∧ _) cx [(2, { tell := some (.i .i64 ((↑c_22.length : Int))) }), (5, { tell := some (.i .i64 ((↑d_24.length : Int))) }), (6, { val := some (.i .i64 (cmpI (↑c_22.length : Int) (↑d_24.length : Int))) })] [4] [] ⟨(told_len c50 c_22), (told_len c50 d_24), (con67 ((↑c_22.length : Int)) ((↑d_24.length : Int)))⟩ ?_
  refine sn ?_
  refine st_ret (by kernel_rfl) ?_
  refine q_ret (r := .i .i64 (cmpI (↑c_22.length : Int) (↑d_24.length : Int))) (obl := []) (by kernel_rfl) trivial (AVle.eq (show AV.i IntKind.i64 (cmpI (↑c_22.length : Int) (↑d_24.length : Int)) = AV.i IntKind.i64 (cmpP p q) from ?g15)); rotate_left 1
  rotate_left
  revert r_0 u_1 c_2 v_3 d_4 h_6 h_7 h_8 h_9 h_10 h_11 h_12 h_13 h_14 h_15 h_16; rotate_left
  revert r_0 u_1 c_2 v_3 d_4 h_6 h_7 h_8 h_9 h_10 h_11 h_12 h_13 h_14 h_15 h_16; rotate_left
  revert r_0 u_1 c_2 v_3 d_4 h_6 h_7 h_8 h_9 h_10 h_11 h_12 h_13 h_14 h_15 h_17; rotate_left
  revert r_0 u_1 c_2 v_3 d_4 h_6 h_7 h_8 h_9 h_10 h_11 h_12 h_13 h_14 h_15 h_17; rotate_left
  revert r_0 u_1 c_2 v_3 d_4 h_6 h_7 h_8 h_9 h_10 h_11 h_12 h_13 h_14 h_18 h_19; rotate_left
  revert r_0 u_1 c_2 v_3 d_4 h_6 h_7 h_8 h_9 h_10 h_11 h_12 h_13 h_14 h_18 h_19; rotate_left
  revert r_0 u_1 c_2 v_3 d_4 h_6 h_7 h_8 h_9 h_10 h_11 h_12 h_13 h_14 h_18; rotate_left
  revert r_0 u_1 c_2 v_3 d_4 h_6 h_7 h_8 h_9 h_10 h_11 h_12 h_13; rotate_left
  revert r_0 u_1 c_2 v_3 d_4 h_6 h_7 h_8 h_9 h_10 h_11 h_12 h_13 i_20 u_21 c_22 v_23 d_24 h_26 h_27 h_28 h_29 h_30 h_31 h_34 h_35; rotate_left
  revert r_0 u_1 c_2 v_3 d_4 h_6 h_7 h_8 h_9 h_10 h_11 h_12 h_13 i_20 u_21 c_22 v_23 d_24 h_26 h_27 h_28 h_29 h_30 h_31 h_34 h_35 h_36; rotate_left
  revert r_0 u_1 c_2 v_3 d_4 h_6 h_7 h_8 h_9 h_10 h_11 h_12 h_13 i_20 u_21 c_22 v_23 d_24 h_26 h_27 h_28 h_29 h_30 h_31 h_34 h_35 h_36 h_37; rotate_left
  revert r_0 u_1 c_2 v_3 d_4 h_6 h_7 h_8 h_9 h_10 h_11 h_12 h_13 i_20 u_21 c_22 v_23 d_24 h_26 h_27 h_28 h_29 h_30 h_31 h_34 h_35 h_36 h_37; rotate_left
  revert r_0 u_1 c_2 v_3 d_4 h_6 h_7 h_8 h_9 h_10 h_11 h_12 h_13 i_20 u_21 c_22 v_23 d_24 h_26 h_27 h_28 h_29 h_30 h_31 h_34 h_35 h_36 h_37; rotate_left
  revert r_0 u_1 c_2 v_3 d_4 h_6 h_7 h_8 h_9 h_10 h_11 h_12 h_13 i_20 u_21 c_22 v_23 d_24 h_26 h_27 h_28 h_29 h_30 h_31 h_34 h_35 h_36 h_37; rotate_left
  revert r_0 u_1 c_2 v_3 d_4 h_6 h_7 h_8 h_9 h_10 h_11 h_12 h_13 i_20 u_21 c_22 v_23 d_24 h_26 h_27 h_28 h_29 h_30 h_31 h_34; rotate_left
  case g0 => exact ⟨Eq.refl _, Eq.refl _, Eq.refl _, Eq.refl _, by omega, by omega, Eq.refl _⟩
  case g1 => intro r u c v d e1 e2 e3 e4 h0 h1 h h2 h3 h4 h5; exact congrArg (AV.i .i64) (D e1 e3 h0 h2 (Eq.refl _) (Eq.refl _) h5 h)
  case g2 => intro r u c v d e1 e2 e3 e4 h0 h1 h h2 h3 h4 h5; exact N e1 e2 e3 e4 h0 h2 (Eq.refl _) (Eq.refl _) h5 h
  case g3 => intro r u c v d e1 e2 e3 e4 h0 h1 h h2 h3 h4 h5; exact congrArg (AV.i .i64) (D e1 e3 h0 h2 (Eq.refl _) (bang_no h0 h4) h5 h)
  case g4 => intro r u c v d e1 e2 e3 e4 h0 h1 h h2 h3 h4 h5; exact N e1 e2 e3 e4 h0 h2 (Eq.refl _) (bang_no h0 h4) h5 h
  case g5 => intro r u c v d e1 e2 e3 e4 h0 h1 h h2 h3 h4 h5; exact congrArg (AV.i .i64) (D e1 e3 h0 h2 (bang_no h0 h3) (Eq.refl _) h5 h)
  case g6 => intro r u c v d e1 e2 e3 e4 h0 h1 h h2 h3 h4 h5; exact N e1 e2 e3 e4 h0 h2 (bang_no h0 h3) (Eq.refl _) h5 h
  case g7 => intro r u c v d e1 e2 e3 e4 h0 h1 h h2 h3 h4; exact N e1 e2 e3 e4 h0 h2 (bang_no h0 h3) (bang_no h0 h4) (fun k => k (Eq.refl _)) h
  case g8 => intro r u c v d e1 e2 e3 e4 h0 h1 h h2; exact ⟨e2, e4, by omega, by omega, by omega, Eq.refl _⟩
  case g9 =>
    intro r u c v d e1 e2 e3 e4 h0 h1 h h2 i u' c' v' d' k0 k1 k2 k3 k4 k5 k6 k7
    exact congrArg (AV.i .i64) (E k0 k1 k2 k6 k5 (cf_end h1 h2 h) (cmpI_ne k7) (S1 k7))
  case g10 =>
    intro r u c v d e1 e2 e3 e4 h0 h1 h h2 i u' c' v' d' k0 k1 k2 k3 k4 k5 k6 k7 k8
    exact congrArg (AV.i .i64) (E k0 k1 k2 k6 k5 (cf_end h1 h2 h) (cmpI_ne k8) (S2 (Classical.not_not.1 k7) k8))
  case g11 =>
    intro r u c v d e1 e2 e3 e4 h0 h1 h h2 i u' c' v' d' k0 k1 k2 k3 k4 k5 k6 k7 k8 k9
    exact congrArg (AV.i .i64) (E k0 k1 k2 k6 k5 (cf_end h1 h2 h) (cmpI_ne k9) (S3 (Classical.not_not.1 k7) (Classical.not_not.1 k8)))
  case g12 => intro r u c v d e1 e2 e3 e4 h0 h1 h h2 i u' c' v' d' k0 k1 k2 k3 k4 k5 k6 k7 k8 k9; have := (tabP_len (openT [p])).1; have k3 : i ≤ ((tabP (openT [p])).cloud.length : Int) := k3; omega
  case g13 =>
    intro r u c v d e1 e2 e3 e4 h0 h1 h h2 i u' c' v' d' k0 k1 k2 k3 k4 k5 k6 k7 k8 k9
    rw [k0] at k6
    generalize (normP p).cloud.length = L at *
    omega
  case g14 =>
    intro r u c v d e1 e2 e3 e4 h0 h1 h h2 i u' c' v' d' k0 k1 k2 k3 k4 k5 k6 k7 k8 k9
    have k6' := k6
    rw [k0, k1] at k6'
    have e : cmpS c'[i.toNat]! d'[i.toNat]! = 0 := by rw [← S3 (Classical.not_not.1 k7) (Classical.not_not.1 k8)]; exact cmpI_zero.2 (Classical.not_not.1 k9)
    rw [k0, k1] at e
    have := cc_next k2 k6'.1 k6'.2 e k5
    exact ⟨k0, k1, this.1, this.2.1, this.2.2.1, this.2.2.2⟩
  case g15 =>
    intro r u c v d e1 e2 e3 e4 h0 h1 h h2 i u' c' v' d' k0 k1 k2 k3 k4 k5 k6
    rw [k0, k1] at k6 ⊢
    refine congrArg (AV.i .i64) ?_
    rw [cp_cloud (cf_end h1 h2 h)]
    by_cases a : i < ((normP p).cloud.length : Int)
    · have b : ¬ i < ((normP q).cloud.length : Int) := fun b => k6 ⟨a, b⟩
      rw [cc_more k2 a b k5]
      unfold cmpI
      rw [if_neg (by omega), if_pos (by omega)]
    · by_cases b : i < ((normP q).cloud.length : Int)
      · rw [cc_less k2 a b k5]
        unfold cmpI
        rw [if_pos (by omega)]
      · rw [cc_same a b k5]
        unfold cmpI
        rw [if_neg (by omega), if_neg (by omega)]
end Go.Proofs.Ytaiepnaokhpmcaa
namespace Go.Proofs.Ytaiepnaokhpmcaa
open Go.E
set_option maxRecDepth 100000
set_option maxHeartbeats 4000000
def dLt (a b : Dot) : Bool := decide (a.rep < b.rep ∨ a.rep = b.rep ∧ a.num < b.num)
def entE (e : Entry) : Int := if e.dot.rep < 0 ∨ 16 ≤ e.dot.rep then 3 else if e.dot.num < 1 ∨ 1000000000 < e.dot.num then 2 else if good e.sku = false then 5 else if e.qty < 1 ∨ 1000000 < e.qty then 6 else 0
def okAt (es : List Entry) (i : Nat) : Bool := decide (entE es[i]! = 0) && (decide (i = 0) || dLt es[i - 1]!.dot es[i]!.dot)
def okL (es : List Entry) : Bool := allUp (okAt es) es.length
def lstE (es : List Entry) : Int := if okL es = true then 0 else 1
def invL (es : List Entry) (i : Int) : Prop := 0 ≤ i ∧ i ≤ es.length ∧ ∀ j : Nat, (j : Int) < i → okAt es j = true
def decL (es : List Entry) (i : Int) : Nat := (es.length - i).toNat
theorem lstE_bad {es : List Entry} {i : Nat} (hi : i < es.length) (h : okAt es i = false) : lstE es = 1 := by
  unfold lstE okL
  rw [if_neg]
  intro k
  have := (allUp_iff _ _).1 k i hi
  rw [h] at this; cases this
theorem lstE_ok {es : List Entry} (h : ∀ j : Nat, j < es.length → okAt es j = true) : lstE es = 0 := by
  unfold lstE okL
  rw [if_pos ((allUp_iff _ _).2 h)]
def inv30i {α : Type} (es : List α) (i : Int) : Prop := 0 ≤ i ∧ i ≤ es.length
def dec30i {α : Type} (es : List α) (i : Int) : Nat := (es.length - i).toNat
theorem okAt_iff (es : List Entry) (i : Nat) : okAt es i = true ↔ entE es[i]! = 0 ∧ (i = 0 ∨ dLt es[i - 1]!.dot es[i]!.dot = true) := by
  unfold okAt
  rw [Bool.and_eq_true, Bool.or_eq_true, decide_eq_true_iff, decide_eq_true_iff]
theorem invL_step {es : List Entry} {i : Int} (h0 : 0 ≤ i) (h1 : i < es.length) (h2 : ∀ j : Nat, (j : Int) < i → okAt es j = true) (h : okAt es i.toNat = true) : invL es (i + 1) :=
  ⟨by omega, by omega, fun j hj => by
    by_cases e : j = i.toNat
    · rw [e]; exact h
    · exact h2 j (by omega)⟩
theorem not_okAt {es : List Entry} {i : Nat} (h : ¬ okAt es i = true) : okAt es i = false := by simpa using h
theorem con47 (e : Entry) : Con Try.prog 47 [.agg (c40 e)] (.i .i64 (entE e)) :=
  by
  refine st_con tab_ok (by kernel_rfl) [.tmp 2] 39 Go.Proofs.Try.func47 (by kernel_rfl) (by kernel_rfl) ?_
  intro e0 cx
  refine sq ?_
  refine rg (A := True) cx [] [1] [1] trivial ?_
  refine sn ?_
  refine sq ?_
  refine st_block 0 (by kernel_rfl) ?_
  refine sq ?_
  refine st_join (σ' := ⟨[(1, .ptr (1) (0) (0) (0)), (3, .b (decide (e.dot.rep < (0 : Int) ∨ (16 : Int) ≤ e.dot.rep)))], [(1, ⟨0, 40, .var [.i .i64 (e.dot.rep), .i .i64 (e.dot.num), .s (e.sku), .i .i64 (e.qty)]⟩)]⟩) ?_ ?_
  refine st_split (e.dot.rep < (0 : Int)) (fun h_1 => ?_) (fun h_1 => ?_)
  refine rg (A := _ ∧ (AV.b true = AV.b (decide (e.dot.rep < (0 : Int) ∨ (16 : Int) ≤ e.dot.rep)))) cx [(3, { tell := some (.b (true)) }), (10, { tell := some (.b (decide (e.dot.rep < (0 : Int) ∨ (16 : Int) ≤ e.dot.rep))) })] [1, 3] [1] ⟨(told_true h_1), (by simp only [eq_true h_1, told_simp1, told_simp2, and_true, true_and, and_false, false_and, or_true, true_or, or_false, false_or, not_true_eq_false, not_false_eq_true, decide_true, decide_false, Bool.decide_eq_true])⟩ ?_
  exact ⟨rfl, by kernel_rfl⟩
  refine rg (A := _ ∧ (AV.b (decide (e.dot.rep ≥ (16 : Int))) = AV.b (decide ((16 : Int) ≤ e.dot.rep))) ∧ (AV.b (decide ((16 : Int) ≤ e.dot.rep)) = AV.b (decide (e.dot.rep < (0 : Int) ∨ (16 : Int) ≤ e.dot.rep)))) cx [(3, { tell := some (.b (false)) }), (8, { tell := some (.b (decide ((16 : Int) ≤ e.dot.rep))) }), (10, { tell := some (.b (decide (e.dot.rep < (0 : Int) ∨ (16 : Int) ≤ e.dot.rep))) })] [1, 3] [1] ⟨(told_false h_1), (by kernel_rfl), (by simp only [eq_false h_1, told_simp1, told_simp2, and_true, true_and, and_false, false_and, or_true, true_or, or_false, false_or, not_true_eq_false, not_false_eq_true, decide_true, decide_false, Bool.decide_eq_true])⟩ ?_
  exact ⟨rfl, by kernel_rfl⟩
  refine sn ?_
  refine st_dec (e.dot.rep < (0 : Int) ∨ (16 : Int) ≤ e.dot.rep) (by kernel_rfl) (by kernel_rfl) (fun h_2 => ?_) (fun h_2 => ?_)
  refine sq ?_
  refine rg (A := True) cx [] [2] [] trivial ?_
  refine sn ?_
  refine st_ret (by kernel_rfl) ?_
  refine q_blk_ret ?_
  refine q_seq_ret ?_
  refine q_ret (r := .i .i64 ((3 : Int))) (obl := []) (by kernel_rfl) trivial (AVle.eq (show AV.i IntKind.i64 (3 : Int) = AV.i IntKind.i64 (entE e) from ?g0)); rotate_left 1
  refine sq ?_
  refine st_join (σ' := ⟨[(1, .ptr (1) (0) (0) (0)), (14, .b (decide (e.dot.num < (1 : Int) ∨ (1000000000 : Int) < e.dot.num)))], [(1, ⟨0, 40, .var [.i .i64 (e.dot.rep), .i .i64 (e.dot.num), .s (e.sku), .i .i64 (e.qty)]⟩)]⟩) ?_ ?_
  refine st_split (e.dot.num < (1 : Int)) (fun h_4 => ?_) (fun h_4 => ?_)
  refine rg (A := _ ∧ (AV.b true = AV.b (decide (e.dot.num < (1 : Int) ∨ (1000000000 : Int) < e.dot.num)))) cx [(3, { tell := some (.b (true)) }), (10, { tell := some (.b (decide (e.dot.num < (1 : Int) ∨ (1000000000 : Int) < e.dot.num))) })] [1, 14] [1] ⟨(told_true h_4), (by simp only [eq_true h_4, told_simp1, told_simp2, and_true, true_and, and_false, false_and, or_true, true_or, or_false, false_or, not_true_eq_false, not_false_eq_true, decide_true, decide_false, Bool.decide_eq_true])⟩ ?_
  exact ⟨rfl, by kernel_rfl⟩
  refine rg (A := _ ∧ (AV.b (decide (e.dot.num > (1000000000 : Int))) = AV.b (decide ((1000000000 : Int) < e.dot.num))) ∧ (AV.b (decide ((1000000000 : Int) < e.dot.num)) = AV.b (decide (e.dot.num < (1 : Int) ∨ (1000000000 : Int) < e.dot.num)))) cx [(3, { tell := some (.b (false)) }), (8, { tell := some (.b (decide ((1000000000 : Int) < e.dot.num))) }), (10, { tell := some (.b (decide (e.dot.num < (1 : Int) ∨ (1000000000 : Int) < e.dot.num))) })] [1, 14] [1] ⟨(told_false h_4), (by kernel_rfl), (by simp only [eq_false h_4, told_simp1, told_simp2, and_true, true_and, and_false, false_and, or_true, true_or, or_false, false_or, not_true_eq_false, not_false_eq_true, decide_true, decide_false, Bool.decide_eq_true])⟩ ?_
  exact ⟨rfl, by kernel_rfl⟩
  refine sn ?_
  refine st_dec (e.dot.num < (1 : Int) ∨ (1000000000 : Int) < e.dot.num) (by kernel_rfl) (by kernel_rfl) (fun h_5 => ?_) (fun h_5 => ?_)
  refine sq ?_
  refine rg (A := True) cx [] [2] [] trivial ?_
  refine sn ?_
  refine st_ret (by kernel_rfl) ?_
  refine q_blk_ret ?_
  refine q_seq_ret ?_
  refine q_ret (r := .i .i64 ((2 : Int))) (obl := []) (by kernel_rfl) trivial (AVle.eq (show AV.i IntKind.i64 (2 : Int) = AV.i IntKind.i64 (entE e) from ?g1)); rotate_left 1
  refine sq ?_
  refine rg (A := _ ∧ ((AV.b !good e.sku) = AV.b (decide ¬good e.sku = true))) cx [(2, { val := some (.b (good e.sku)) }), (3, { tell := some (.b (decide ¬good e.sku = true)) })] [1, 25] [1] ⟨(con15 (e.sku)), (told_not)⟩ ?_
  refine sn ?_
  refine st_dec (¬good e.sku = true) (by kernel_rfl) (by kernel_rfl) (fun h_6 => ?_) (fun h_6 => ?_)
  refine sq ?_
  refine rg (A := True) cx [] [2] [] trivial ?_
  refine sn ?_
  refine st_ret (by kernel_rfl) ?_
  refine q_blk_ret ?_
  refine q_seq_ret ?_
  refine q_ret (r := .i .i64 ((5 : Int))) (obl := []) (by kernel_rfl) trivial (AVle.eq (show AV.i IntKind.i64 (5 : Int) = AV.i IntKind.i64 (entE e) from ?g2)); rotate_left 1
  refine sq ?_
  refine st_join (σ' := ⟨[(30, .b (decide (e.qty < (1 : Int) ∨ (1000000 : Int) < e.qty)))], []⟩) ?_ ?_
  refine st_split (e.qty < (1 : Int)) (fun h_8 => ?_) (fun h_8 => ?_)
  refine rg (A := _ ∧ (AV.b true = AV.b (decide (e.qty < (1 : Int) ∨ (1000000 : Int) < e.qty)))) cx [(2, { tell := some (.b (true)) }), (8, { tell := some (.b (decide (e.qty < (1 : Int) ∨ (1000000 : Int) < e.qty))) })] [30] [] ⟨(told_true h_8), (by simp only [eq_true h_8, told_simp1, told_simp2, and_true, true_and, and_false, false_and, or_true, true_or, or_false, false_or, not_true_eq_false, not_false_eq_true, decide_true, decide_false, Bool.decide_eq_true])⟩ ?_
  exact ⟨rfl, by kernel_rfl⟩
  refine rg (A := _ ∧ (AV.b (decide (e.qty > (1000000 : Int))) = AV.b (decide ((1000000 : Int) < e.qty))) ∧ (AV.b (decide ((1000000 : Int) < e.qty)) = AV.b (decide (e.qty < (1 : Int) ∨ (1000000 : Int) < e.qty)))) cx [(2, { tell := some (.b (false)) }), (6, { tell := some (.b (decide ((1000000 : Int) < e.qty))) }), (8, { tell := some (.b (decide (e.qty < (1 : Int) ∨ (1000000 : Int) < e.qty))) })] [30] [] ⟨(told_false h_8), (by kernel_rfl), (by simp only [eq_false h_8, told_simp1, told_simp2, and_true, true_and, and_false, false_and, or_true, true_or, or_false, false_or, not_true_eq_false, not_false_eq_true, decide_true, decide_false, Bool.decide_eq_true])⟩ ?_
  exact ⟨rfl, by kernel_rfl⟩
  refine sn ?_
  refine st_dec (e.qty < (1 : Int) ∨ (1000000 : Int) < e.qty) (by kernel_rfl) (by kernel_rfl) (fun h_9 => ?_) (fun h_9 => ?_)
  refine sq ?_
  refine rg (A := True) cx [] [2] [] trivial ?_
  refine sn ?_
  refine st_ret (by kernel_rfl) ?_
  refine q_blk_ret ?_
  refine q_seq_ret ?_
  refine q_ret (r := .i .i64 ((6 : Int))) (obl := []) (by kernel_rfl) trivial (AVle.eq (show AV.i IntKind.i64 (6 : Int) = AV.i IntKind.i64 (entE e) from ?g3)); rotate_left 1
  refine st_skip (by kernel_rfl) ?_
  refine q_blk_normal ?_
  refine sn ?_
  refine sq ?_
  refine rg (A := True) cx [] [2] [] trivial ?_
  refine sn ?_
  refine st_ret (by kernel_rfl) ?_
  refine q_ret (r := .i .i64 ((0 : Int))) (obl := []) (by kernel_rfl) trivial (AVle.eq (show AV.i IntKind.i64 (0 : Int) = AV.i IntKind.i64 (entE e) from ?g4)); rotate_left 1
  revert h_2; rotate_left
  revert h_2 h_5; rotate_left
  revert h_2 h_5 h_6; rotate_left
  revert h_2 h_5 h_6 h_9; rotate_left
  revert h_2 h_5 h_6 h_9; rotate_left
  case' g4 => refine (fun h k l m => ?_)
  case' g3 => refine (fun h k l m => ?_)
  case' g2 => refine (fun h k l => ?_)
  case' g1 => refine (fun h k => ?_)
  case' g0 => refine (fun h => ?_)
  all_goals (unfold entE)
  · rw [if_pos h]
  · rw [if_neg h, if_pos k]
  · rw [if_neg h, if_neg k, if_pos (by simpa using l)]
  · rw [if_neg h, if_neg k, if_neg (by simpa using l), if_pos m]
  · rw [if_neg h, if_neg k, if_neg (by simpa using l), if_neg m]
theorem con48 (a b : Dot) : Con Try.prog 48 [.agg (c29 a), .agg (c29 b)] (.b (dLt a b)) :=
  by
  refine st_con tab_ok (by kernel_rfl) [.tmp 4] 24 Go.Proofs.Try.func48 (by kernel_rfl) (by kernel_rfl) ?_
  intro e0 cx
  refine sq ?_
  refine rg (A := True) cx [] [2, 3] [2, 3] trivial ?_
  refine sn ?_
  refine sq ?_
  refine st_join (σ' := ⟨[(4, .b (decide (a.rep < b.rep ∨ a.rep = b.rep ∧ a.num < b.num)))], []⟩) ?_ ?_
  refine st_split (a.rep < b.rep) (fun h_1 => ?_) (fun h_1 => ?_)
  refine rg (A := _ ∧ (AV.b true = AV.b (decide (a.rep < b.rep ∨ a.rep = b.rep ∧ a.num < b.num)))) cx [(4, { tell := some (.b (true)) }), (19, { tell := some (.b (decide (a.rep < b.rep ∨ a.rep = b.rep ∧ a.num < b.num))) })] [4] [] ⟨(told_true h_1), (by simp only [eq_true h_1, told_simp1, told_simp2, and_true, true_and, and_false, false_and, or_true, true_or, or_false, false_or, not_true_eq_false, not_false_eq_true, decide_true, decide_false, Bool.decide_eq_true])⟩ ?_
  exact ⟨rfl, by kernel_rfl⟩
  refine st_split (a.rep = b.rep) (fun h_2 => ?_) (fun h_2 => ?_)
  refine rg (A := _ ∧ _ ∧ (AV.b (decide (a.num < b.num)) = AV.b (decide (a.num < b.num))) ∧ (AV.b (decide (a.num < b.num)) = AV.b (decide (a.rep < b.rep ∨ a.rep = b.rep ∧ a.num < b.num)))) cx [(4, { tell := some (.b (false)) }), (10, { tell := some (.b (true)) }), (16, { tell := some (.b (decide (a.num < b.num))) }), (19, { tell := some (.b (decide (a.rep < b.rep ∨ a.rep = b.rep ∧ a.num < b.num))) })] [4] [] ⟨(told_false h_1), (told_true h_2), (by kernel_rfl), (by simp only [eq_false h_1, eq_true h_2, told_simp1, told_simp2, and_true, true_and, and_false, false_and, or_true, true_or, or_false, false_or, not_true_eq_false, not_false_eq_true, decide_true, decide_false, Bool.decide_eq_true])⟩ ?_
  exact ⟨rfl, by kernel_rfl⟩
  refine rg (A := _ ∧ _ ∧ (AV.b false = AV.b (decide (a.rep < b.rep ∨ a.rep = b.rep ∧ a.num < b.num)))) cx [(4, { tell := some (.b (false)) }), (10, { tell := some (.b (false)) }), (19, { tell := some (.b (decide (a.rep < b.rep ∨ a.rep = b.rep ∧ a.num < b.num))) })] [4] [] ⟨(told_false h_1), (told_false h_2), (by simp only [eq_false h_1, eq_false h_2, told_simp1, told_simp2, and_true, true_and, and_false, false_and, or_true, true_or, or_false, false_or, not_true_eq_false, not_false_eq_true, decide_true, decide_false, Bool.decide_eq_true])⟩ ?_
  exact ⟨rfl, by kernel_rfl⟩
  refine sn ?_
  refine st_ret (by kernel_rfl) ?_
  refine q_ret (r := .b (decide (a.rep < b.rep ∨ a.rep = b.rep ∧ a.num < b.num))) (obl := []) (by kernel_rfl) trivial (AVle.eq (show AV.b (decide (a.rep < b.rep ∨ a.rep = b.rep ∧ a.num < b.num)) = AV.b (dLt a b) from ?g0)); rotate_left 1
  case g0 => exact rfl
theorem con32 (es : List Entry) : Con Try.prog 32 [.sl (es.map c40)] (.i .i64 (lstE es)) :=
  by
  have e : ∀ {i : Int}, 0 ≤ i → (i - 1).toNat = i.toNat - 1 := fun {i} h => by omega
  refine con_lens 0 (c40) (es) (by kernel_rfl) Go.Proofs.Try.func32 (by kernel_rfl) fun hl_0 => ?_
  refine st_con tab_ok (by kernel_rfl) [.tmp 2] 32 Go.Proofs.Try.func32 (by kernel_rfl) (by kernel_rfl) ?_
  intro e0 cx
  refine sq ?_
  refine rg (A := True) cx [] [0] [] trivial ?_
  refine sn ?_
  refine sq ?_
  refine sq ?_
  refine rg (A := _) cx [(1, { tell := some (.i .i64 ((↑es.length : Int))) })] [0, 5, 6, 7] [] (told_len c40 es) ?_
  refine sn ?_
  refine st_block 0 (by kernel_rfl) ?_
  refine st_loop (X := Int) (fun x => ⟨[(0, .sl (List.map c40 es)), (5, .sl (List.map c40 es)), (6, .i .i64 ((↑es.length : Int))), (7, .i .i64 (x))], []⟩) (fun x ↦ decL es x) (fun x ↦ invL es x) [0, 5, 6, 7] [] ((0 : Int)) (by kernel_rfl) (by kernel_rfl) (show invL es (0 : Int) from ?g0) ?_; rotate_left 1
  intro i_0 h_1
  obtain ⟨h_2, h_3, h_4⟩ : (0 : Int) ≤ i_0 ∧ i_0 ≤ (↑es.length : Int) ∧ ∀ (j : Nat), (↑j : Int) < i_0 → okAt es j = true := h_1
  refine sq ?_
  refine rg (A := (AV.b (decide (i_0 < (↑es.length : Int))) = AV.b (decide (i_0 < (↑es.length : Int))))) cx [(0, { tell := some (.b (decide (i_0 < (↑es.length : Int)))) })] [0, 5, 6, 7, 8] [] (by kernel_rfl) ?_
  refine sn ?_
  refine sq ?_
  refine st_dec (i_0 < (↑es.length : Int)) (by kernel_rfl) (by kernel_rfl) (fun h_5 => ?_) (fun h_5 => ?_)
  refine st_skip (by kernel_rfl) ?_
  refine sn ?_
  refine sq ?_
  refine st_block 1 (by kernel_rfl) ?_
  refine sq ?_
  refine rg (A := ((0 : Int) ≤ i_0) ∧ ((List.map c40 es)[i_0.toNat]? = some (c40 es[i_0.toNat]!)) ∧ ((c40 es[i_0.toNat]!).length = (4 : Nat)) ∧ ((4 : Nat) ≤ [AV.i IntKind.i64 es[i_0.toNat]!.dot.rep, AV.i IntKind.i64 es[i_0.toNat]!.dot.num, AV.s es[i_0.toNat]!.sku, AV.i IntKind.i64 es[i_0.toNat]!.qty].length)) cx [(1, { row := (c40 es[i_0.toNat]!) })] [0, 5, 6, 7, 4, 3] [4] ⟨(by (with_reducible assumption)), (by (with_reducible refine get_map ?_; omega)), (by kernel_rfl), (by (simp only [List.length_append, List.length_cons, List.length_nil]; omega))⟩ ?_
  refine sn ?_
  refine sq ?_
  refine st_join (σ' := ⟨[(0, .sl (List.map c40 es)), (5, .sl (List.map c40 es)), (6, .i .i64 ((↑es.length : Int))), (7, .i .i64 (i_0)), (30, .b (decide (¬entE es[i_0.toNat]! = (0 : Int) ∨ (0 : Int) < i_0 ∧ ¬dLt es[(i_0 - (1 : Int)).toNat]!.dot es[i_0.toNat]!.dot = true)))], []⟩) ?_ ?_
  refine st_split (¬entE es[i_0.toNat]! = (0 : Int)) (fun h_7 => ?_) (fun h_7 => ?_)
  refine ra (A := _ ∧ (AV.b (entE es[i_0.toNat]! != (0 : Int)) = AV.b true) ∧ (AV.b true = AV.b (decide (¬entE es[i_0.toNat]! = (0 : Int) ∨ (0 : Int) < i_0 ∧ ¬dLt es[(i_0 - (1 : Int)).toNat]!.dot es[i_0.toNat]!.dot = true)))) cx [(1, { val := some (.i .i64 (entE es[i_0.toNat]!)) }), (2, { tell := some (.b (true)) }), (18, { tell := some (.b (decide (¬entE es[i_0.toNat]! = (0 : Int) ∨ (0 : Int) < i_0 ∧ ¬dLt es[(i_0 - (1 : Int)).toNat]!.dot es[i_0.toNat]!.dot = true))) })] [0, 5, 6, 7, 30] [] ⟨(con47 (es[i_0.toNat]!)), (told_neqt h_7), (by simp only [eq_false h_7, told_simp1, told_simp2, and_true, true_and, and_false, false_and, or_true, true_or, or_false, false_or, not_true_eq_false, not_false_eq_true, decide_true, decide_false, Bool.decide_eq_true])⟩ ?_
  exact ⟨rfl, by kernel_rfl⟩
  refine st_split ((0 : Int) < i_0) (fun h_8 => ?_) (fun h_8 => ?_)
  refine ra (A := _ ∧ (AV.b (entE es[i_0.toNat]! != (0 : Int)) = AV.b (decide ¬entE es[i_0.toNat]! = (0 : Int))) ∧ _ ∧ _ ∧ (AV.i IntKind.i64 (IntKind.i64.wrap (i_0 - (1 : Int))) = AV.i IntKind.i64 (i_0 - (1 : Int))) ∧ ((0 : Int) ≤ i_0 - (1 : Int)) ∧ ((List.map c40 es)[(i_0 - (1 : Int)).toNat]? = some (c40 es[(i_0 - (1 : Int)).toNat]!)) ∧ ((c40 es[(i_0 - (1 : Int)).toNat]!).length = (4 : Nat)) ∧ ((2 : Nat) ≤ [AV.i IntKind.i64 es[(i_0 - (1 : Int)).toNat]!.dot.rep, AV.i IntKind.i64 es[(i_0 - (1 : Int)).toNat]!.dot.num, AV.s es[(i_0 - (1 : Int)).toNat]!.sku, AV.i IntKind.i64 es[(i_0 - (1 : Int)).toNat]!.qty].length) ∧ _ ∧ ((AV.b !dLt es[(i_0 - (1 : Int)).toNat]!.dot es[i_0.toNat]!.dot) = AV.b (decide ¬dLt es[(i_0 - (1 : Int)).toNat]!.dot es[i_0.toNat]!.dot = true)) ∧ (AV.b (decide ¬dLt es[(i_0 - (1 : Int)).toNat]!.dot es[i_0.toNat]!.dot = true) = AV.b (decide (¬entE es[i_0.toNat]! = (0 : Int) ∨ (0 : Int) < i_0 ∧ ¬dLt es[(i_0 - (1 : Int)).toNat]!.dot es[i_0.toNat]!.dot = true)))) cx [(1, { val := some (.i .i64 (entE es[i_0.toNat]!)) }), (2, { tell := some (.b (decide ¬entE es[i_0.toNat]! = (0 : Int))) }), (3, { tell := some (.b (false)) }), (5, { tell := some (.b (true)) }), (9, { tell := some (.i .i64 (i_0 - (1 : Int))) }), (10, { row := (c40 es[(i_0 - (1 : Int)).toNat]!) }), (15, { val := some (.b (dLt es[(i_0 - (1 : Int)).toNat]!.dot es[i_0.toNat]!.dot)) }), (16, { tell := some (.b (decide ¬dLt es[(i_0 - (1 : Int)).toNat]!.dot es[i_0.toNat]!.dot = true)) }), (18, { tell := some (.b (decide (¬entE es[i_0.toNat]! = (0 : Int) ∨ (0 : Int) < i_0 ∧ ¬dLt es[(i_0 - (1 : Int)).toNat]!.dot es[i_0.toNat]!.dot = true))) })] [0, 5, 6, 7, 30] [] ⟨(con47 (es[i_0.toNat]!)), (told_neq), (told_false h_7), (told_true h_8), (told_i64 (by omega) (by omega)), (by omega), (by (with_reducible refine get_map ?_; omega)), (by kernel_rfl), (by (simp only [List.length_append, List.length_cons, List.length_nil]; omega)), (con48 (es[(i_0 - (1 : Int)).toNat]!.dot) (es[i_0.toNat]!.dot)), (told_not), (by first | (simp only [eq_false h_7, eq_true h_8, told_simp1, told_simp2, and_true, true_and, and_false, false_and, or_true, true_or, or_false, false_or, not_true_eq_false, not_false_eq_true, decide_true, decide_false, Bool.decide_eq_true]; done) | simp_all)⟩ ?_
  exact ⟨rfl, by kernel_rfl⟩
  refine ra (A := _ ∧ (AV.b (entE es[i_0.toNat]! != (0 : Int)) = AV.b (decide ¬entE es[i_0.toNat]! = (0 : Int))) ∧ _ ∧ _ ∧ (AV.b false = AV.b (decide (¬entE es[i_0.toNat]! = (0 : Int) ∨ (0 : Int) < i_0 ∧ ¬dLt es[(i_0 - (1 : Int)).toNat]!.dot es[i_0.toNat]!.dot = true)))) cx [(1, { val := some (.i .i64 (entE es[i_0.toNat]!)) }), (2, { tell := some (.b (decide ¬entE es[i_0.toNat]! = (0 : Int))) }), (3, { tell := some (.b (false)) }), (5, { tell := some (.b (false)) }), (18, { tell := some (.b (decide (¬entE es[i_0.toNat]! = (0 : Int) ∨ (0 : Int) < i_0 ∧ ¬dLt es[(i_0 - (1 : Int)).toNat]!.dot es[i_0.toNat]!.dot = true))) })] [0, 5, 6, 7, 30] [] ⟨(con47 (es[i_0.toNat]!)), (told_neq), (told_false h_7), (told_false h_8), (by first | (simp only [eq_false h_7, eq_false h_8, told_simp1, told_simp2, and_true, true_and, and_false, false_and, or_true, true_or, or_false, false_or, not_true_eq_false, not_false_eq_true, decide_true, decide_false, Bool.decide_eq_true]; done) | simp_all)⟩ ?_
  exact ⟨rfl, by kernel_rfl⟩
  refine sn ?_
  refine st_dec (¬entE es[i_0.toNat]! = (0 : Int) ∨ (0 : Int) < i_0 ∧ ¬dLt es[(i_0 - (1 : Int)).toNat]!.dot es[i_0.toNat]!.dot = true) (by kernel_rfl) (by kernel_rfl) (fun h_9 => ?_) (fun h_9 => ?_)
  refine sq ?_
  refine rg (A := True) cx [] [2] [] trivial ?_
  refine sn ?_
  refine st_ret (by kernel_rfl) ?_
  refine q_blk_ret ?_
  refine q_seq_ret ?_
  refine q_seq_ret ?_
  refine q_blk_ret ?_
  refine q_seq_ret ?_
  refine q_ret (r := .i .i64 ((1 : Int))) (obl := []) (by kernel_rfl) trivial (AVle.eq (show AV.i IntKind.i64 (1 : Int) = AV.i IntKind.i64 (lstE es) from ?g1)); rotate_left 1
  refine st_skip (by kernel_rfl) ?_
  refine q_blk_normal ?_
  refine sn ?_
  refine rg (A := (AV.i IntKind.i64 (IntKind.i64.wrap (i_0 + (1 : Int))) = AV.i IntKind.i64 (i_0 + (1 : Int)))) cx [(0, { tell := some (.i .i64 (i_0 + (1 : Int))) })] [0, 5, 6, 7] [] (told_i64 (by omega) (by omega)) ?_
  refine sn ?_
  refine loop_next (i_0 + (1 : Int)) (by kernel_rfl) (show ((↑es.length : Int) - (i_0 + (1 : Int))).toNat < ((↑es.length : Int) - i_0).toNat from (by omega)) (show invL es (i_0 + (1 : Int)) from ?g2); rotate_left 1
  refine st_exit 0 (by kernel_rfl) ?_
  refine q_seq_exit ?_
  refine q_seq_exit ?_
  refine q_blk_hit ?_
  refine sn ?_
  refine sq ?_
  refine rg (A := True) cx [] [2] [] trivial ?_
  refine sn ?_
  refine st_ret (by kernel_rfl) ?_
  refine q_ret (r := .i .i64 ((0 : Int))) (obl := []) (by kernel_rfl) trivial (AVle.eq (show AV.i IntKind.i64 (0 : Int) = AV.i IntKind.i64 (lstE es) from ?g3)); rotate_left 1
  rotate_left
  revert i_0 h_2 h_3 h_4 h_5 h_9; rotate_left
  revert i_0 h_2 h_3 h_4 h_5 h_9; rotate_left
  revert i_0 h_2 h_3 h_4 h_5; rotate_left
  case g0 => exact ⟨by omega, by omega, fun j hj => by omega⟩
  case' g3 => refine (fun i h0 h1 h2 h3 => ?_)
  case' g2 => refine (fun i h0 h1 h2 h3 h4 => ?_)
  case' g1 => refine (fun i h0 h1 h2 h3 h4 => ?_)
  · rw [lstE_bad (i := i.toNat) (by omega) (not_okAt _)]
    rw [e h0] at h4
    rw [okAt_iff]; rintro ⟨a, b⟩
    rcases h4 with h4 | ⟨h4, h5⟩
    · exact h4 a
    · rcases b with b | b
      · omega
      · exact h5 b
  · rw [e h0] at h4
    refine invL_step h0 h3 h2 ((okAt_iff _ _).2 ⟨Classical.byContradiction fun a => h4 (.inl a), ?_⟩)
    by_cases c : i.toNat = 0
    · exact .inl c
    · exact .inr (Classical.byContradiction fun a => h4 (.inr ⟨by omega, a⟩))
  · rw [lstE_ok fun j hj => h2 j (by omega)]
end Go.Proofs.Ytaiepnaokhpmcaa
namespace Go.Proofs.Ytaiepnaokhpmcaa
open Go.E
set_option maxRecDepth 100000
set_option maxHeartbeats 4000000
def szP (p : Past) : Prop := p.cloud.length * 16 ≤ 140737488350000 ∧ p.vec.length ≤ 9223372036854775807
def szQ (rs : List Record) : Prop := ∀ r ∈ rs, szP r.past
theorem szQ_s {rs : List Record} (h : szQ rs) : szRs rs := fun r hr => (h r hr).1
theorem szQ_at {rs : List Record} (h : szQ rs) {i : Int} (h0 : 0 ≤ i) (hi : i < rs.length) : szP rs[i.toNat]!.past := h _ (bang_in (by omega))
theorem szQ_at' {rs : List Record} (h : szQ rs) {i : Int} (h0 : 0 < i) (hi : i < rs.length) : szP rs[(i - 1).toNat]!.past := h _ (bang_in (by omega))
end Go.Proofs.Ytaiepnaokhpmcaa
