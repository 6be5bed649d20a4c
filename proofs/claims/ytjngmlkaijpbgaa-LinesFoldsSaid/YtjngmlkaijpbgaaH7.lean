/- R1112: LinesFolds and LinesSettles. Conditions: none. (with texts that it needs)  -/
import Derived.Test.YtjngmlkaijpbgaaH6
set_option linter.unusedVariables false
set_option linter.unusedSimpArgs false
namespace Go.Proofs.Ytjngmlkaijpbgaa
open Go.E
set_option maxRecDepth 100000
set_option maxHeartbeats 4000000
theorem first_bad {P : Nat → Prop} : ∀ n : Nat, (∀ j, j < n → P j) ∨ ∃ i, i < n ∧ ¬ P i ∧ ∀ j, j < i → P j
  | 0 => .inl fun j hj => by omega
  | n + 1 => by
    rcases first_bad (P := P) n with h | ⟨i, h1, h2, h3⟩
    · by_cases hn : P n
      · refine .inl fun j hj => ?_
        by_cases e : j = n
        · rw [e]; exact hn
        · exact h j (by omega)
      · exact .inr ⟨n, by omega, hn, h⟩
    · exact .inr ⟨i, by omega, h2, h3⟩
theorem sort_err {es : List Entry} (h : ¬ (sortR es).2 = 0) : (sortR es).1 = [] := by
  rcases first_bad (P := fun j => entE es[j]! = 0) es.length with k | ⟨i, h1, h2, h3⟩
  · rw [sortR_ok k] at h ⊢
    unfold onceR at *
    split
    · rename_i l hl
      rw [hl] at h
      exact absurd rfl h
    · rfl
  · rw [sortR_bad h1 h2 h3]
theorem all_at {es : List Entry} (h : ∀ e ∈ es, entE e = 0) : ∀ j : Nat, j < es.length → entE es[j]! = 0 := fun j hj => h _ (bang_mem hj)
theorem sort_some {es : List Entry} (h : (sortR es).2 = 0) : (∀ e ∈ es, entE e = 0) ∧ formE (sortR es).1 ∧ ∀ e, e ∈ (sortR es).1 ↔ e ∈ es := by
  rcases first_bad (P := fun j => entE es[j]! = 0) es.length with k | ⟨i, h1, h2, h3⟩
  · have ka : ∀ e ∈ es, entE e = 0 := fun e he => by
      obtain ⟨j, hj, rfl⟩ := List.mem_iff_getElem.1 he
      have := k j hj
      rwa [getElem!_pos es j hj] at this
    rw [sortR_ok k] at h ⊢
    unfold onceR at *
    cases hl : onceN (srtE es) (srtE es).length with
    | none => rw [hl] at h; cases h
    | some l =>
      obtain ⟨h1, h2⟩ := once_up (srtE_rises _) _ l (Nat.le_refl _) hl
      have h3 : ∀ e, e ∈ l ↔ e ∈ es := fun e => by rw [h2, List.take_length, srt_mem]
      exact ⟨ka, ⟨fun e he => ka e ((h3 e).1 he), h1⟩, h3⟩
  · rw [sortR_bad h1 h2 h3] at h
    exact absurd h h2
theorem sort_part {es fs : List Entry} (h : (sortR es).2 = 0) (hs : ∀ e ∈ fs, e ∈ es) : (sortR fs).2 = 0 := by
  obtain ⟨h1, h2, h3⟩ := sort_some h
  rw [sortR_ok (all_at fun e he => h1 e (hs e he))]
  obtain ⟨l, hl⟩ := once_some (s := srtE fs) (fun x hx y hy hd => formE_dot h2 ((h3 x).2 (hs x ((srt_mem fs x).1 hx))) ((h3 y).2 (hs y ((srt_mem fs y).1 hy))) hd) _ (Nat.le_refl _)
  unfold onceR
  rw [hl]
theorem sort_same {es fs : List Entry} (h : (sortR es).2 = 0) (hs : ∀ e, e ∈ fs ↔ e ∈ es) : sortR fs = ((sortR es).1, 0) := by
  have h1 := sort_part h fun e he => (hs e).1 he
  obtain ⟨_, h2, h3⟩ := sort_some h
  obtain ⟨_, h4, h5⟩ := sort_some h1
  have := upE_unique h4.2 h2.2 fun e => by rw [h5, h3, hs]
  exact Prod.ext this h1
theorem sort_halves {es : List Entry} (h : (sortR es).2 = 0) (n : Nat) : (sortR (es.take n)).2 = 0 ∧ (sortR (es.drop n)).2 = 0 ∧ unionR (sortR (es.take n)).1 (sortR (es.drop n)).1 = ((sortR es).1, 0) ∧ unionR (sortR (es.drop n)).1 (sortR (es.take n)).1 = ((sortR es).1, 0) := by
  have a := sort_part h (fs := es.take n) fun e he => List.mem_of_mem_take he
  have b := sort_part h (fs := es.drop n) fun e he => List.mem_of_mem_drop he
  obtain ⟨_, h2, h3⟩ := sort_some h
  obtain ⟨_, a2, a3⟩ := sort_some a
  obtain ⟨_, b2, b3⟩ := sort_some b
  have hm : ∀ e, e ∈ es ↔ e ∈ es.take n ∨ e ∈ es.drop n := fun e => by rw [← List.mem_append, List.take_append_drop]
  exact ⟨a, b, union_eq a2 b2 h2 fun e => by rw [h3, a3, b3, hm], union_eq b2 a2 h2 fun e => by rw [h3, a3, b3, hm]; exact Or.comm⟩
def isBack (es : List Entry) (i : Int) (l : List Entry) : Prop := l = (es.drop (i + 1).toNat).reverse
def invR (es : List Entry) (i : Int) (l : List Entry) : Prop := -1 ≤ i ∧ i < es.length ∧ (l.length : Int) = es.length - 1 - i ∧ isBack es i l
def decR (es : List Entry) (i : Int) (l : List Entry) : Nat := (i + 1).toNat
theorem back_step {es l : List Entry} {i : Int} (h0 : 0 ≤ i) (h1 : i < es.length) (h : isBack es i l) : isBack es (i - 1) (l ++ [es[i.toNat]!]) := by
  unfold isBack at *
  have e1 : (i - 1 + 1).toNat = i.toNat := by omega
  have e2 : (i + 1).toNat = i.toNat + 1 := by omega
  rw [e1, List.drop_eq_getElem_cons (by omega), List.reverse_cons, ← getElem!_pos es _ (by omega), h, e2]
theorem back_end {es l : List Entry} {i : Int} (h0 : -1 ≤ i) (h1 : ¬ 0 ≤ i) (h : isBack es i l) : l = es.reverse := by
  unfold isBack at h
  rw [h, show (i + 1).toNat = 0 by omega, List.drop_zero]
theorem back_same {es : List Entry} (h : (sortR es).2 = 0) : sortR es.reverse = ((sortR es).1, 0) := sort_same h fun e => List.mem_reverse
theorem back_more {es : List Entry} (h : (sortR es).2 = 0) {n : Int} (h0 : 0 ≤ n) (h1 : n < es.length) : sortR (es.reverse ++ [es[n.toNat]!]) = ((sortR es).1, 0) := sort_same h fun e => by
  rw [List.mem_append, List.mem_reverse]
  constructor
  · rintro (k | k)
    · exact k
    · have : e = es[n.toNat]! := by simpa using k
      rw [this]; exact bang_mem (by omega)
  · exact fun k => .inl k
theorem self_same {es : List Entry} (h : (sortR es).2 = 0) : sortR (sortR es).1 = ((sortR es).1, 0) := sort_same h fun e => (sort_some h).2.2 e
theorem con11 (es : List Entry) (n : Int) (hs : es.length * 40 ≤ 140737488351232) : Con Try.prog 11 [.sl (es.map c28), .i .i64 n] (.b true) :=
  by
  refine con_lens 0 (c28) (es) (by kernel_rfl) Go.Proofs.Try.func11 (by kernel_rfl) fun hl_0 => ?_
  refine st_con tab_ok (by kernel_rfl) [.tmp 4] 142 Go.Proofs.Try.func11 (by kernel_rfl) (by kernel_rfl) ?_
  intro e0 cx
  refine sq ?_
  refine rg (A := True) cx [] [0, 1] [] trivial ?_
  refine sn ?_
  refine sq ?_
  refine sq ?_
  refine rg (A := _) cx [(0, { val := some (.b (true)) })] [0, 1, 17] [] (con31 ) ?_
  refine sn ?_
  refine st_false (by kernel_rfl) (by kernel_rfl) ?_
  refine st_skip (by kernel_rfl) ?_
  refine sn ?_
  refine sq ?_
  have hl_0 := (rng_sortR es)
  refine rg (A := _) cx [(1, { val := some (.tup [.sl (List.map c28 (sortR es).fst), .i .i64 ((sortR es).snd)]) })] [0, 1, 5, 6] [] (con25 (es) (by omega)) ?_
  refine sn ?_
  refine sq ?_
  refine rg (A := True) cx [] [0, 1, 5, 6, 7] [] trivial ?_
  refine sn ?_
  refine sq ?_
  refine sq ?_
  refine rg (A := _ ∧ (AV.i IntKind.i64 (IntKind.i64.wrap ((↑es.length : Int) - (1 : Int))) = AV.i IntKind.i64 ((↑es.length : Int) - (1 : Int)))) cx [(1, { tell := some (.i .i64 ((↑es.length : Int))) }), (2, { tell := some (.i .i64 ((↑es.length : Int) - (1 : Int))) })] [0, 1, 5, 6, 7, 8] [] ⟨(told_len c28 es), (told_i64 (by omega) (by omega))⟩ ?_
  refine sn ?_
  refine st_block 0 (by kernel_rfl) ?_
  refine awp_adopt 7 1007 28 4 (σ' := ⟨[(0, .sl (List.map c28 es)), (1, .i .i64 (n)), (5, .sl (List.map c28 (sortR es).fst)), (6, .i .i64 ((sortR es).snd)), (7, .own 1007 0), (8, .i .i64 ((↑es.length : Int) - (1 : Int)))], [(1007, ⟨0, 28, .row 4 (List.map c28 [])⟩)]⟩) (by kernel_rfl) ?_
  refine st_loop (X := Int × List Entry) (fun x => ⟨[(0, .sl (List.map c28 es)), (1, .i .i64 (n)), (5, .sl (List.map c28 (sortR es).fst)), (6, .i .i64 ((sortR es).snd)), (7, .own 1007 0), (8, .i .i64 (x.fst))], [(1007, ⟨0, 28, .row 4 (List.map c28 x.snd)⟩)]⟩) (fun x ↦ decR es x.fst x.snd) (fun x ↦ invR es x.fst x.snd) [0, 1, 5, 6, 7, 8] [1007] (((↑es.length : Int) - (1 : Int), [])) (by kernel_rfl) (by kernel_rfl) (show invR es ((↑es.length : Int) - (1 : Int)) [] from ?g0) ?_; rotate_left 1
  rintro ⟨i_1, l_2⟩ h_3
  obtain ⟨h_4, h_5, h_6, h_7⟩ : (-1 : Int) ≤ i_1 ∧ i_1 < (↑es.length : Int) ∧ (↑l_2.length : Int) = (↑es.length : Int) - (1 : Int) - i_1 ∧ isBack es i_1 l_2 := h_3
  refine sq ?_
  refine sq ?_
  refine rg (A := (AV.b (decide (i_1 ≥ (0 : Int))) = AV.b (decide ((0 : Int) ≤ i_1)))) cx [(1, { tell := some (.b (decide ((0 : Int) ≤ i_1))) })] [0, 1, 5, 6, 7, 8, 27] [1007] (by kernel_rfl) ?_
  refine sn ?_
  refine st_dec ((0 : Int) ≤ i_1) (by kernel_rfl) (by kernel_rfl) (fun h_8 => ?_) (fun h_8 => ?_)
  refine st_skip (by kernel_rfl) ?_
  refine sn ?_
  refine sq ?_
  refine st_block 1 (by kernel_rfl) ?_
  refine rg (A := ((0 : Int) ≤ i_1) ∧ ((List.map c28 es)[i_1.toNat]? = some (c28 es[i_1.toNat]!)) ∧ ((c28 es[i_1.toNat]!).length = (4 : Nat)) ∧ ((4 : Nat) ≤ [AV.i IntKind.i64 es[i_1.toNat]!.dot.rep, AV.i IntKind.i64 es[i_1.toNat]!.dot.num, AV.s es[i_1.toNat]!.sku, AV.i IntKind.i64 es[i_1.toNat]!.qty].length) ∧ (28 = (28 : Nat)) ∧ ((4 : Nat) = 4) ∧ ([AV.i IntKind.i64 (0 : Int), AV.i IntKind.i64 (0 : Int), AV.s { data := #[] : ByteArray }, AV.i IntKind.i64 (0 : Int)].length = (4 : Nat)) ∧ (∀ (r : List AV), r ∈ List.map c28 [es[i_1.toNat]!] → r.length = 4) ∧ ((List.map c28 l_2).length + (List.map c28 [es[i_1.toNat]!]).length ≤ maxLen) ∧ (((List.map c28 l_2).length + (List.map c28 [es[i_1.toNat]!]).length) * (40 : Nat) ≤ (140737488355328 : Nat)) ∧ (List.map c28 l_2 ++ List.map c28 [es[i_1.toNat]!] = List.map c28 (l_2 ++ [es[i_1.toNat]!]))) cx [(3, { row := (c28 es[i_1.toNat]!) }), (6, { rows := some (List.map c28 (l_2 ++ [es[i_1.toNat]!])) })] [0, 1, 5, 6, 7, 8] [1007] ⟨(by (with_reducible assumption)), (by (with_reducible refine get_map ?_; omega)), (by kernel_rfl), (by (simp only [List.length_append, List.length_cons, List.length_nil]; omega)), (by kernel_rfl), (by kernel_rfl), (by kernel_rfl), (by (with_reducible refine len_map (fun _ => ?_) _; kernel_rfl)), (by (simp only [Go.maxLen, List.length_map, List.length_append, List.length_cons, List.length_nil]; omega)), (by (simp only [Go.maxLen, List.length_map, List.length_append, List.length_cons, List.length_nil]; omega)), (by (with_reducible refine app_map ?_; kernel_rfl))⟩ ?_
  refine q_blk_normal ?_
  refine sn ?_
  refine rg (A := (AV.i IntKind.i64 (IntKind.i64.wrap (i_1 - (1 : Int))) = AV.i IntKind.i64 (i_1 - (1 : Int)))) cx [(1, { tell := some (.i .i64 (i_1 - (1 : Int))) })] [0, 1, 5, 6, 7, 8] [1007] (told_i64 (by omega) (by omega)) ?_
  refine sn ?_
  refine loop_next ((i_1 - (1 : Int), l_2 ++ [es[i_1.toNat]!])) (by kernel_rfl) (show (i_1 - (1 : Int) + (1 : Int)).toNat < (i_1 + (1 : Int)).toNat from (by omega)) (show invR es (i_1 - (1 : Int)) (l_2 ++ [es[i_1.toNat]!]) from ?g1); rotate_left 1
  refine st_exit 0 (by kernel_rfl) ?_
  refine q_seq_exit ?_
  refine q_seq_exit ?_
  refine q_blk_hit ?_
  refine sn ?_
  refine sq ?_
  refine sq ?_
  refine rg (A := (AV.b ((sortR es).snd != (0 : Int)) = AV.b (decide ¬(sortR es).snd = (0 : Int)))) cx [(1, { tell := some (.b (decide ¬(sortR es).snd = (0 : Int))) })] [0, 1, 5, 7, 38] [1007] (told_neq) ?_
  refine sn ?_
  refine st_dec (¬(sortR es).snd = (0 : Int)) (by kernel_rfl) (by kernel_rfl) (fun h_9 => ?_) (fun h_9 => ?_)
  refine sq ?_
  refine rg (A := _ ∧ (AV.b ((↑(sortR es).fst.length : Int) == (0 : Int)) = AV.b (decide ((↑(sortR es).fst.length : Int) = (0 : Int))))) cx [(1, { tell := some (.i .i64 ((↑(sortR es).fst.length : Int))) }), (2, { tell := some (.b (decide ((↑(sortR es).fst.length : Int) = (0 : Int)))) })] [4] [] ⟨(told_len c28 (sortR es).fst), (by kernel_rfl)⟩ ?_
  refine sn ?_
  refine st_ret (by kernel_rfl) ?_
  refine q_seq_ret ?_
  refine q_ret (r := .b (decide ((↑(sortR es).fst.length : Int) = (0 : Int)))) (obl := []) (by kernel_rfl) trivial (AVle.eq (show AV.b (decide ((↑(sortR es).fst.length : Int) = (0 : Int))) = AV.b true from ?g2)); rotate_left 1
  refine st_skip (by kernel_rfl) ?_
  refine sn ?_
  refine sq ?_
  refine sq ?_
  refine rg (A := _ ∧ (AV.b (lstE (sortR es).fst != (0 : Int)) = AV.b (decide ¬lstE (sortR es).fst = (0 : Int)))) cx [(1, { val := some (.i .i64 (lstE (sortR es).fst)) }), (2, { tell := some (.b (decide ¬lstE (sortR es).fst = (0 : Int))) })] [0, 1, 5, 7, 44] [1007] ⟨(con16 ((sortR es).fst)), (told_neq)⟩ ?_
  refine sn ?_
  refine st_dec (¬lstE (sortR es).fst = (0 : Int)) (by kernel_rfl) (by kernel_rfl) (fun h_10 => ?_) (fun h_10 => ?_)
  refine sq ?_
  refine rg (A := True) cx [] [4] [] trivial ?_
  refine sn ?_
  refine st_ret (by kernel_rfl) ?_
  refine q_seq_ret ?_
  refine q_ret (r := .b (false)) (obl := []) (by kernel_rfl) trivial (AVle.eq (show AV.b false = AV.b true from ?g3)); rotate_left 1
  refine st_skip (by kernel_rfl) ?_
  refine sn ?_
  refine sq ?_
  have hl_11 := (rng_sortR (sortR es).fst)
  refine rg (A := _) cx [(1, { val := some (.tup [.sl (List.map c28 (sortR (sortR es).fst).fst), .i .i64 ((sortR (sortR es).fst).snd)]) })] [0, 1, 5, 7, 9, 10] [1007] (con25 ((sortR es).fst) (by omega)) ?_
  refine sn ?_
  refine sq ?_
  refine sq ?_
  refine st_join (σ' := ⟨[(0, .sl (List.map c28 es)), (1, .i .i64 (n)), (5, .sl (List.map c28 (sortR es).fst)), (7, .own 1007 0), (57, .b (decide (¬(sortR (sortR es).fst).snd = (0 : Int) ∨ ¬(sortR (sortR es).fst).fst = (sortR es).fst)))], [(1007, ⟨0, 28, .row 4 (List.map c28 l_2)⟩)]⟩) ?_ ?_
  refine st_split (¬(sortR (sortR es).fst).snd = (0 : Int)) (fun h_13 => ?_) (fun h_13 => ?_)
  refine rg (A := (AV.b ((sortR (sortR es).fst).snd != (0 : Int)) = AV.b true) ∧ (AV.b true = AV.b (decide (¬(sortR (sortR es).fst).snd = (0 : Int) ∨ ¬(sortR (sortR es).fst).fst = (sortR es).fst)))) cx [(1, { tell := some (.b (true)) }), (7, { tell := some (.b (decide (¬(sortR (sortR es).fst).snd = (0 : Int) ∨ ¬(sortR (sortR es).fst).fst = (sortR es).fst))) })] [0, 1, 5, 7, 57] [1007] ⟨(told_neqt h_13), (by simp only [eq_false h_13, told_simp1, told_simp2, and_true, true_and, and_false, false_and, or_true, true_or, or_false, false_or, not_true_eq_false, not_false_eq_true, decide_true, decide_false, Bool.decide_eq_true])⟩ ?_
  exact ⟨rfl, by kernel_rfl⟩
  refine rg (A := (AV.b ((sortR (sortR es).fst).snd != (0 : Int)) = AV.b (decide ¬(sortR (sortR es).fst).snd = (0 : Int))) ∧ _ ∧ _ ∧ ((AV.b !decide ((sortR (sortR es).fst).fst = (sortR es).fst)) = AV.b (decide ¬(sortR (sortR es).fst).fst = (sortR es).fst)) ∧ (AV.b (decide ¬(sortR (sortR es).fst).fst = (sortR es).fst) = AV.b (decide (¬(sortR (sortR es).fst).snd = (0 : Int) ∨ ¬(sortR (sortR es).fst).fst = (sortR es).fst)))) cx [(1, { tell := some (.b (decide ¬(sortR (sortR es).fst).snd = (0 : Int))) }), (2, { tell := some (.b (false)) }), (5, { val := some (.b (decide ((sortR (sortR es).fst).fst = (sortR es).fst))) }), (6, { tell := some (.b (decide ¬(sortR (sortR es).fst).fst = (sortR es).fst)) }), (7, { tell := some (.b (decide (¬(sortR (sortR es).fst).snd = (0 : Int) ∨ ¬(sortR (sortR es).fst).fst = (sortR es).fst))) })] [0, 1, 5, 7, 57] [1007] ⟨(told_neq), (told_false h_13), (con24 ((sortR (sortR es).fst).fst) ((sortR es).fst)), (told_notd), (by simp only [eq_false h_13, told_simp1, told_simp2, and_true, true_and, and_false, false_and, or_true, true_or, or_false, false_or, not_true_eq_false, not_false_eq_true, decide_true, decide_false, Bool.decide_eq_true])⟩ ?_
  exact ⟨rfl, by kernel_rfl⟩
  refine sn ?_
  refine st_dec (¬(sortR (sortR es).fst).snd = (0 : Int) ∨ ¬(sortR (sortR es).fst).fst = (sortR es).fst) (by kernel_rfl) (by kernel_rfl) (fun h_14 => ?_) (fun h_14 => ?_)
  refine sq ?_
  refine rg (A := True) cx [] [4] [] trivial ?_
  refine sn ?_
  refine st_ret (by kernel_rfl) ?_
  refine q_seq_ret ?_
  refine q_ret (r := .b (false)) (obl := []) (by kernel_rfl) trivial (AVle.eq (show AV.b false = AV.b true from ?g4)); rotate_left 1
  refine st_skip (by kernel_rfl) ?_
  refine sn ?_
  refine sq ?_
  refine sq ?_
  refine st_join (σ' := ⟨[(0, .sl (List.map c28 es)), (1, .i .i64 (n)), (5, .sl (List.map c28 (sortR es).fst)), (7, .own 1007 0), (65, .b (decide ((0 : Int) < n ∧ n < (↑es.length : Int))))], [(1007, ⟨0, 28, .row 4 (List.map c28 l_2)⟩)]⟩) ?_ ?_
  refine st_split ((0 : Int) < n) (fun h_16 => ?_) (fun h_16 => ?_)
  refine rg (A := _ ∧ _ ∧ (AV.b (decide (n < (↑es.length : Int))) = AV.b (decide (n < (↑es.length : Int)))) ∧ (AV.b (decide (n < (↑es.length : Int))) = AV.b (decide ((0 : Int) < n ∧ n < (↑es.length : Int))))) cx [(1, { tell := some (.b (true)) }), (5, { tell := some (.i .i64 ((↑es.length : Int))) }), (6, { tell := some (.b (decide (n < (↑es.length : Int)))) }), (7, { tell := some (.b (decide ((0 : Int) < n ∧ n < (↑es.length : Int)))) })] [0, 1, 5, 7, 65] [1007] ⟨(told_true h_16), (told_len c28 es), (by kernel_rfl), (by simp only [eq_true h_16, told_simp1, told_simp2, and_true, true_and, and_false, false_and, or_true, true_or, or_false, false_or, not_true_eq_false, not_false_eq_true, decide_true, decide_false, Bool.decide_eq_true])⟩ ?_
  exact ⟨rfl, by kernel_rfl⟩
  refine rg (A := _ ∧ (AV.b false = AV.b (decide ((0 : Int) < n ∧ n < (↑es.length : Int))))) cx [(1, { tell := some (.b (false)) }), (7, { tell := some (.b (decide ((0 : Int) < n ∧ n < (↑es.length : Int)))) })] [0, 1, 5, 7, 65] [1007] ⟨(told_false h_16), (by simp only [eq_false h_16, told_simp1, told_simp2, and_true, true_and, and_false, false_and, or_true, true_or, or_false, false_or, not_true_eq_false, not_false_eq_true, decide_true, decide_false, Bool.decide_eq_true])⟩ ?_
  exact ⟨rfl, by kernel_rfl⟩
  refine sn ?_
  refine st_dec ((0 : Int) < n ∧ n < (↑es.length : Int)) (by kernel_rfl) (by kernel_rfl) (fun h_17 => ?_) (fun h_17 => ?_)
  refine rg (A := ((0 : Int) ≤ n) ∧ ((List.map c28 es)[n.toNat]? = some (c28 es[n.toNat]!)) ∧ ((c28 es[n.toNat]!).length = (4 : Nat)) ∧ ((4 : Nat) ≤ [AV.i IntKind.i64 es[n.toNat]!.dot.rep, AV.i IntKind.i64 es[n.toNat]!.dot.num, AV.s es[n.toNat]!.sku, AV.i IntKind.i64 es[n.toNat]!.qty].length) ∧ (28 = (28 : Nat)) ∧ ((4 : Nat) = 4) ∧ ([AV.i IntKind.i64 (0 : Int), AV.i IntKind.i64 (0 : Int), AV.s { data := #[] : ByteArray }, AV.i IntKind.i64 (0 : Int)].length = (4 : Nat)) ∧ (∀ (r : List AV), r ∈ List.map c28 [es[n.toNat]!] → r.length = 4) ∧ ((List.map c28 l_2).length + (List.map c28 [es[n.toNat]!]).length ≤ maxLen) ∧ (((List.map c28 l_2).length + (List.map c28 [es[n.toNat]!]).length) * (40 : Nat) ≤ (140737488355328 : Nat)) ∧ (List.map c28 l_2 ++ List.map c28 [es[n.toNat]!] = List.map c28 (l_2 ++ [es[n.toNat]!]))) cx [(3, { row := (c28 es[n.toNat]!) }), (6, { rows := some (List.map c28 (l_2 ++ [es[n.toNat]!])) })] [0, 1, 5, 7] [1007] ⟨(by omega), (by (with_reducible refine get_map ?_; omega)), (by kernel_rfl), (by (simp only [List.length_append, List.length_cons, List.length_nil]; omega)), (by kernel_rfl), (by kernel_rfl), (by kernel_rfl), (by (with_reducible refine len_map (fun _ => ?_) _; kernel_rfl)), (by (simp only [Go.maxLen, List.length_map, List.length_append, List.length_cons, List.length_nil]; omega)), (by (simp only [Go.maxLen, List.length_map, List.length_append, List.length_cons, List.length_nil]; omega)), (by (with_reducible refine app_map ?_; kernel_rfl))⟩ ?_
  refine sn ?_
  refine sq ?_
  have hl_18 := (rng_sortR (l_2 ++ [es[n.toNat]!]))
  refine rg (A := _) cx [(1, { val := some (.tup [.sl (List.map c28 (sortR (l_2 ++ [es[n.toNat]!])).fst), .i .i64 ((sortR (l_2 ++ [es[n.toNat]!])).snd)]) })] [0, 1, 5, 9, 10] [] (con25 (l_2 ++ [es[n.toNat]!]) (by (simp only [List.length_append, List.length_cons, List.length_nil]; omega))) ?_
  refine sn ?_
  refine sq ?_
  refine sq ?_
  refine st_join (σ' := ⟨[(0, .sl (List.map c28 es)), (1, .i .i64 (n)), (5, .sl (List.map c28 (sortR es).fst)), (85, .b (decide (¬(sortR (l_2 ++ [es[n.toNat]!])).snd = (0 : Int) ∨ ¬(sortR (l_2 ++ [es[n.toNat]!])).fst = (sortR es).fst)))], []⟩) ?_ ?_
  refine st_split (¬(sortR (l_2 ++ [es[n.toNat]!])).snd = (0 : Int)) (fun h_20 => ?_) (fun h_20 => ?_)
  refine rg (A := (AV.b ((sortR (l_2 ++ [es[n.toNat]!])).snd != (0 : Int)) = AV.b true) ∧ (AV.b true = AV.b (decide (¬(sortR (l_2 ++ [es[n.toNat]!])).snd = (0 : Int) ∨ ¬(sortR (l_2 ++ [es[n.toNat]!])).fst = (sortR es).fst)))) cx [(1, { tell := some (.b (true)) }), (7, { tell := some (.b (decide (¬(sortR (l_2 ++ [es[n.toNat]!])).snd = (0 : Int) ∨ ¬(sortR (l_2 ++ [es[n.toNat]!])).fst = (sortR es).fst))) })] [0, 1, 5, 85] [] ⟨(told_neqt h_20), (by simp only [eq_false h_20, told_simp1, told_simp2, and_true, true_and, and_false, false_and, or_true, true_or, or_false, false_or, not_true_eq_false, not_false_eq_true, decide_true, decide_false, Bool.decide_eq_true])⟩ ?_
  exact ⟨rfl, by kernel_rfl⟩
  refine rg (A := (AV.b ((sortR (l_2 ++ [es[n.toNat]!])).snd != (0 : Int)) = AV.b (decide ¬(sortR (l_2 ++ [es[n.toNat]!])).snd = (0 : Int))) ∧ _ ∧ _ ∧ ((AV.b !decide ((sortR (l_2 ++ [es[n.toNat]!])).fst = (sortR es).fst)) = AV.b (decide ¬(sortR (l_2 ++ [es[n.toNat]!])).fst = (sortR es).fst)) ∧ (AV.b (decide ¬(sortR (l_2 ++ [es[n.toNat]!])).fst = (sortR es).fst) = AV.b (decide (¬(sortR (l_2 ++ [es[n.toNat]!])).snd = (0 : Int) ∨ ¬(sortR (l_2 ++ [es[n.toNat]!])).fst = (sortR es).fst)))) cx [(1, { tell := some (.b (decide ¬(sortR (l_2 ++ [es[n.toNat]!])).snd = (0 : Int))) }), (2, { tell := some (.b (false)) }), (5, { val := some (.b (decide ((sortR (l_2 ++ [es[n.toNat]!])).fst = (sortR es).fst))) }), (6, { tell := some (.b (decide ¬(sortR (l_2 ++ [es[n.toNat]!])).fst = (sortR es).fst)) }), (7, { tell := some (.b (decide (¬(sortR (l_2 ++ [es[n.toNat]!])).snd = (0 : Int) ∨ ¬(sortR (l_2 ++ [es[n.toNat]!])).fst = (sortR es).fst))) })] [0, 1, 5, 85] [] ⟨(told_neq), (told_false h_20), (con24 ((sortR (l_2 ++ [es[n.toNat]!])).fst) ((sortR es).fst)), (told_notd), (by simp only [eq_false h_20, told_simp1, told_simp2, and_true, true_and, and_false, false_and, or_true, true_or, or_false, false_or, not_true_eq_false, not_false_eq_true, decide_true, decide_false, Bool.decide_eq_true])⟩ ?_
  exact ⟨rfl, by kernel_rfl⟩
  refine sn ?_
  refine st_dec (¬(sortR (l_2 ++ [es[n.toNat]!])).snd = (0 : Int) ∨ ¬(sortR (l_2 ++ [es[n.toNat]!])).fst = (sortR es).fst) (by kernel_rfl) (by kernel_rfl) (fun h_21 => ?_) (fun h_21 => ?_)
  refine sq ?_
  refine rg (A := True) cx [] [4] [] trivial ?_
  refine sn ?_
  refine st_ret (by kernel_rfl) ?_
  refine q_seq_ret ?_
  refine q_ret (r := .b (false)) (obl := []) (by kernel_rfl) trivial (AVle.eq (show AV.b false = AV.b true from ?g5)); rotate_left 1
  refine st_skip (by kernel_rfl) ?_
  refine sn ?_
  refine sq ?_
  refine sq ?_
  refine st_split (n < (0 : Int)) (fun h_22 => absurd h_22 (by omega)) (fun h_22 => ?_)
  refine rg (A := _ ∧ _ ∧ (AV.b (decide (n > (↑es.length : Int))) = AV.b (decide ((↑es.length : Int) < n)))) cx [(1, { tell := some (.b (false)) }), (5, { tell := some (.i .i64 ((↑es.length : Int))) }), (6, { tell := some (.b (decide ((↑es.length : Int) < n))) })] [0, 1, 5, 93] [] ⟨(told_false h_22), (told_len c28 es), (by kernel_rfl)⟩ ?_
  refine sn ?_
  refine st_dec ((↑es.length : Int) < n) (by kernel_rfl) (by kernel_rfl) (fun h_23 => absurd h_23 (by omega)) (fun h_23 => ?_)
  refine st_skip (by kernel_rfl) ?_
  refine sn ?_
  refine sq ?_
  have hl_24 := (rng_sortR (List.take n.toNat es))
  refine rg (A := (AV.sl (List.drop (Int.toNat (0 : Int)) (List.take n.toNat (List.map c28 es))) = AV.sl (List.map c28 (List.take n.toNat es))) ∧ ((0 : Int) ≤ (0 : Int)) ∧ ((0 : Int) ≤ n) ∧ (n ≤ (↑(List.map c28 es).length : Int)) ∧ (∀ (r : List AV), r ∈ List.map c28 es → r.length = (4 : Nat)) ∧ _) cx [(2, { tell := some (.sl (List.map c28 (List.take n.toNat es))) }), (3, { val := some (.tup [.sl (List.map c28 (sortR (List.take n.toNat es)).fst), .i .i64 ((sortR (List.take n.toNat es)).snd)]) })] [0, 1, 5, 11, 10] [] ⟨(told_slT c28 es n.toNat), (by omega), (by omega), (by (first | omega | (simp only [List.length_map]; omega))), (by (with_reducible refine len_map (fun _ => ?_) _; kernel_rfl)), (con25 (List.take n.toNat es) ?g6)⟩ ?_; rotate_left 1
  refine sn ?_
  refine sq ?_
  have hl_25 := (rng_sortR (List.drop n.toNat es))
  refine rg (A := (AV.sl (List.drop n.toNat (List.take (none.getD (↑(List.map c28 es).length : Int)).toNat (List.map c28 es))) = AV.sl (List.map c28 (List.drop n.toNat es))) ∧ ((0 : Int) ≤ n) ∧ (n ≤ none.getD (↑(List.map c28 es).length : Int)) ∧ (none.getD (↑(List.map c28 es).length : Int) ≤ (↑(List.map c28 es).length : Int)) ∧ (∀ (r : List AV), r ∈ List.map c28 es → r.length = (4 : Nat)) ∧ _) cx [(2, { tell := some (.sl (List.map c28 (List.drop n.toNat es))) }), (3, { val := some (.tup [.sl (List.map c28 (sortR (List.drop n.toNat es)).fst), .i .i64 ((sortR (List.drop n.toNat es)).snd)]) })] [5, 11, 10, 12, 13] [] ⟨(told_slN c28 es n.toNat), (by omega), ?g7, ?g8, (by (with_reducible refine len_map (fun _ => ?_) _; kernel_rfl)), (con25 (List.drop n.toNat es) ?g9)⟩ ?_; rotate_left 3
  refine sn ?_
  refine sq ?_
  refine sq ?_
  refine st_join (σ' := ⟨[(5, .sl (List.map c28 (sortR es).fst)), (11, .sl (List.map c28 (sortR (List.take n.toNat es)).fst)), (12, .sl (List.map c28 (sortR (List.drop n.toNat es)).fst)), (113, .b (decide (¬(sortR (List.take n.toNat es)).snd = (0 : Int) ∨ ¬(sortR (List.drop n.toNat es)).snd = (0 : Int))))], []⟩) ?_ ?_
  refine st_split (¬(sortR (List.take n.toNat es)).snd = (0 : Int)) (fun h_27 => ?_) (fun h_27 => ?_)
  refine rg (A := (AV.b ((sortR (List.take n.toNat es)).snd != (0 : Int)) = AV.b true) ∧ (AV.b true = AV.b (decide (¬(sortR (List.take n.toNat es)).snd = (0 : Int) ∨ ¬(sortR (List.drop n.toNat es)).snd = (0 : Int))))) cx [(1, { tell := some (.b (true)) }), (5, { tell := some (.b (decide (¬(sortR (List.take n.toNat es)).snd = (0 : Int) ∨ ¬(sortR (List.drop n.toNat es)).snd = (0 : Int)))) })] [5, 11, 12, 113] [] ⟨(told_neqt h_27), (by simp only [eq_false h_27, told_simp1, told_simp2, and_true, true_and, and_false, false_and, or_true, true_or, or_false, false_or, not_true_eq_false, not_false_eq_true, decide_true, decide_false, Bool.decide_eq_true])⟩ ?_
  exact ⟨rfl, by kernel_rfl⟩
  refine rg (A := (AV.b ((sortR (List.take n.toNat es)).snd != (0 : Int)) = AV.b (decide ¬(sortR (List.take n.toNat es)).snd = (0 : Int))) ∧ _ ∧ (AV.b ((sortR (List.drop n.toNat es)).snd != (0 : Int)) = AV.b (decide ¬(sortR (List.drop n.toNat es)).snd = (0 : Int))) ∧ (AV.b (decide ¬(sortR (List.drop n.toNat es)).snd = (0 : Int)) = AV.b (decide (¬(sortR (List.take n.toNat es)).snd = (0 : Int) ∨ ¬(sortR (List.drop n.toNat es)).snd = (0 : Int))))) cx [(1, { tell := some (.b (decide ¬(sortR (List.take n.toNat es)).snd = (0 : Int))) }), (2, { tell := some (.b (false)) }), (4, { tell := some (.b (decide ¬(sortR (List.drop n.toNat es)).snd = (0 : Int))) }), (5, { tell := some (.b (decide (¬(sortR (List.take n.toNat es)).snd = (0 : Int) ∨ ¬(sortR (List.drop n.toNat es)).snd = (0 : Int)))) })] [5, 11, 12, 113] [] ⟨(told_neq), (told_false h_27), (told_neq), (by simp only [eq_false h_27, told_simp1, told_simp2, and_true, true_and, and_false, false_and, or_true, true_or, or_false, false_or, not_true_eq_false, not_false_eq_true, decide_true, decide_false, Bool.decide_eq_true])⟩ ?_
  exact ⟨rfl, by kernel_rfl⟩
  refine sn ?_
  refine st_dec (¬(sortR (List.take n.toNat es)).snd = (0 : Int) ∨ ¬(sortR (List.drop n.toNat es)).snd = (0 : Int)) (by kernel_rfl) (by kernel_rfl) (fun h_28 => ?_) (fun h_28 => ?_)
  refine sq ?_
  refine rg (A := True) cx [] [4] [] trivial ?_
  refine sn ?_
  refine st_ret (by kernel_rfl) ?_
  refine q_seq_ret ?_
  refine q_ret (r := .b (false)) (obl := []) (by kernel_rfl) trivial (AVle.eq (show AV.b false = AV.b true from ?g10)); rotate_left 1
  refine st_skip (by kernel_rfl) ?_
  refine sn ?_
  refine sq ?_
  refine rg (A := _) cx [(2, { val := some (resC (con29 ((sortR (List.take n.toNat es)).fst) ((sortR (List.drop n.toNat es)).fst))) })] [5, 11, 12, 14, 10] [] (con29 ((sortR (List.take n.toNat es)).fst) ((sortR (List.drop n.toNat es)).fst)) ?_
  refine sn ?_
  refine sq ?_
  refine rg (A := _) cx [(2, { val := some (resC (con29 ((sortR (List.drop n.toNat es)).fst) ((sortR (List.take n.toNat es)).fst))) })] [5, 14, 10, 15, 13] [] (con29 ((sortR (List.drop n.toNat es)).fst) ((sortR (List.take n.toNat es)).fst)) ?_
  refine sn ?_
  refine sq ?_
  refine st_join (σ' := ⟨[(4, .b (decide ((unionR (sortR (List.take n.toNat es)).fst (sortR (List.drop n.toNat es)).fst).snd = (0 : Int) ∧ (unionR (sortR (List.drop n.toNat es)).fst (sortR (List.take n.toNat es)).fst).snd = (0 : Int) ∧ (unionR (sortR (List.take n.toNat es)).fst (sortR (List.drop n.toNat es)).fst).fst = (sortR es).fst ∧ (unionR (sortR (List.drop n.toNat es)).fst (sortR (List.take n.toNat es)).fst).fst = (sortR es).fst)))], []⟩) ?_ ?_
  refine st_split ((unionR (sortR (List.take n.toNat es)).fst (sortR (List.drop n.toNat es)).fst).snd = (0 : Int)) (fun h_30 => ?_) (fun h_30 => ?_)
  refine st_split ((unionR (sortR (List.drop n.toNat es)).fst (sortR (List.take n.toNat es)).fst).snd = (0 : Int)) (fun h_31 => ?_) (fun h_31 => ?_)
  refine st_split ((unionR (sortR (List.take n.toNat es)).fst (sortR (List.drop n.toNat es)).fst).fst = (sortR es).fst) (fun h_32 => ?_) (fun h_32 => ?_)
  refine rg (A := _ ∧ _ ∧ _ ∧ _ ∧ _ ∧ (AV.b (decide ((unionR (sortR (List.drop n.toNat es)).fst (sortR (List.take n.toNat es)).fst).fst = (sortR es).fst)) = AV.b (decide ((unionR (sortR (List.take n.toNat es)).fst (sortR (List.drop n.toNat es)).fst).snd = (0 : Int) ∧ (unionR (sortR (List.drop n.toNat es)).fst (sortR (List.take n.toNat es)).fst).snd = (0 : Int) ∧ (unionR (sortR (List.take n.toNat es)).fst (sortR (List.drop n.toNat es)).fst).fst = (sortR es).fst ∧ (unionR (sortR (List.drop n.toNat es)).fst (sortR (List.take n.toNat es)).fst).fst = (sortR es).fst)))) cx [(1, { tell := some (.b (true)) }), (4, { tell := some (.b (true)) }), (9, { val := some (.b (decide ((unionR (sortR (List.take n.toNat es)).fst (sortR (List.drop n.toNat es)).fst).fst = (sortR es).fst))), tell := some (.b (true)) }), (14, { val := some (.b (decide ((unionR (sortR (List.drop n.toNat es)).fst (sortR (List.take n.toNat es)).fst).fst = (sortR es).fst))) }), (16, { tell := some (.b (decide ((unionR (sortR (List.take n.toNat es)).fst (sortR (List.drop n.toNat es)).fst).snd = (0 : Int) ∧ (unionR (sortR (List.drop n.toNat es)).fst (sortR (List.take n.toNat es)).fst).snd = (0 : Int) ∧ (unionR (sortR (List.take n.toNat es)).fst (sortR (List.drop n.toNat es)).fst).fst = (sortR es).fst ∧ (unionR (sortR (List.drop n.toNat es)).fst (sortR (List.take n.toNat es)).fst).fst = (sortR es).fst))) })] [4] [] ⟨(told_true h_30), (told_true h_31), (told_true h_32), (con24 ((unionR (sortR (List.take n.toNat es)).fst (sortR (List.drop n.toNat es)).fst).fst) ((sortR es).fst)), (con24 ((unionR (sortR (List.drop n.toNat es)).fst (sortR (List.take n.toNat es)).fst).fst) ((sortR es).fst)), (by simp only [eq_true h_30, eq_true h_31, eq_true h_32, told_simp1, told_simp2, and_true, true_and, and_false, false_and, or_true, true_or, or_false, false_or, not_true_eq_false, not_false_eq_true, decide_true, decide_false, Bool.decide_eq_true])⟩ ?_
  exact ⟨rfl, by kernel_rfl⟩
  refine rg (A := _ ∧ _ ∧ _ ∧ _ ∧ (AV.b false = AV.b (decide ((unionR (sortR (List.take n.toNat es)).fst (sortR (List.drop n.toNat es)).fst).snd = (0 : Int) ∧ (unionR (sortR (List.drop n.toNat es)).fst (sortR (List.take n.toNat es)).fst).snd = (0 : Int) ∧ (unionR (sortR (List.take n.toNat es)).fst (sortR (List.drop n.toNat es)).fst).fst = (sortR es).fst ∧ (unionR (sortR (List.drop n.toNat es)).fst (sortR (List.take n.toNat es)).fst).fst = (sortR es).fst)))) cx [(1, { tell := some (.b (true)) }), (4, { tell := some (.b (true)) }), (9, { val := some (.b (decide ((unionR (sortR (List.take n.toNat es)).fst (sortR (List.drop n.toNat es)).fst).fst = (sortR es).fst))), tell := some (.b (false)) }), (16, { tell := some (.b (decide ((unionR (sortR (List.take n.toNat es)).fst (sortR (List.drop n.toNat es)).fst).snd = (0 : Int) ∧ (unionR (sortR (List.drop n.toNat es)).fst (sortR (List.take n.toNat es)).fst).snd = (0 : Int) ∧ (unionR (sortR (List.take n.toNat es)).fst (sortR (List.drop n.toNat es)).fst).fst = (sortR es).fst ∧ (unionR (sortR (List.drop n.toNat es)).fst (sortR (List.take n.toNat es)).fst).fst = (sortR es).fst))) })] [4] [] ⟨(told_true h_30), (told_true h_31), (told_false h_32), (con24 ((unionR (sortR (List.take n.toNat es)).fst (sortR (List.drop n.toNat es)).fst).fst) ((sortR es).fst)), (by simp only [eq_true h_30, eq_true h_31, eq_false h_32, told_simp1, told_simp2, and_true, true_and, and_false, false_and, or_true, true_or, or_false, false_or, not_true_eq_false, not_false_eq_true, decide_true, decide_false, Bool.decide_eq_true])⟩ ?_
  exact ⟨rfl, by kernel_rfl⟩
  refine rg (A := _ ∧ _ ∧ (AV.b false = AV.b (decide ((unionR (sortR (List.take n.toNat es)).fst (sortR (List.drop n.toNat es)).fst).snd = (0 : Int) ∧ (unionR (sortR (List.drop n.toNat es)).fst (sortR (List.take n.toNat es)).fst).snd = (0 : Int) ∧ (unionR (sortR (List.take n.toNat es)).fst (sortR (List.drop n.toNat es)).fst).fst = (sortR es).fst ∧ (unionR (sortR (List.drop n.toNat es)).fst (sortR (List.take n.toNat es)).fst).fst = (sortR es).fst)))) cx [(1, { tell := some (.b (true)) }), (4, { tell := some (.b (false)) }), (16, { tell := some (.b (decide ((unionR (sortR (List.take n.toNat es)).fst (sortR (List.drop n.toNat es)).fst).snd = (0 : Int) ∧ (unionR (sortR (List.drop n.toNat es)).fst (sortR (List.take n.toNat es)).fst).snd = (0 : Int) ∧ (unionR (sortR (List.take n.toNat es)).fst (sortR (List.drop n.toNat es)).fst).fst = (sortR es).fst ∧ (unionR (sortR (List.drop n.toNat es)).fst (sortR (List.take n.toNat es)).fst).fst = (sortR es).fst))) })] [4] [] ⟨(told_true h_30), (told_false h_31), (by simp only [eq_true h_30, eq_false h_31, told_simp1, told_simp2, and_true, true_and, and_false, false_and, or_true, true_or, or_false, false_or, not_true_eq_false, not_false_eq_true, decide_true, decide_false, Bool.decide_eq_true])⟩ ?_
  exact ⟨rfl, by kernel_rfl⟩
  refine rg (A := _ ∧ (AV.b false = AV.b (decide ((unionR (sortR (List.take n.toNat es)).fst (sortR (List.drop n.toNat es)).fst).snd = (0 : Int) ∧ (unionR (sortR (List.drop n.toNat es)).fst (sortR (List.take n.toNat es)).fst).snd = (0 : Int) ∧ (unionR (sortR (List.take n.toNat es)).fst (sortR (List.drop n.toNat es)).fst).fst = (sortR es).fst ∧ (unionR (sortR (List.drop n.toNat es)).fst (sortR (List.take n.toNat es)).fst).fst = (sortR es).fst)))) cx [(1, { tell := some (.b (false)) }), (16, { tell := some (.b (decide ((unionR (sortR (List.take n.toNat es)).fst (sortR (List.drop n.toNat es)).fst).snd = (0 : Int) ∧ (unionR (sortR (List.drop n.toNat es)).fst (sortR (List.take n.toNat es)).fst).snd = (0 : Int) ∧ (unionR (sortR (List.take n.toNat es)).fst (sortR (List.drop n.toNat es)).fst).fst = (sortR es).fst ∧ (unionR (sortR (List.drop n.toNat es)).fst (sortR (List.take n.toNat es)).fst).fst = (sortR es).fst))) })] [4] [] ⟨(told_false h_30), (by simp only [eq_false h_30, told_simp1, told_simp2, and_true, true_and, and_false, false_and, or_true, true_or, or_false, false_or, not_true_eq_false, not_false_eq_true, decide_true, decide_false, Bool.decide_eq_true])⟩ ?_
  exact ⟨rfl, by kernel_rfl⟩
  refine sn ?_
  refine st_ret (by kernel_rfl) ?_
  refine q_ret (r := .b (decide ((unionR (sortR (List.take n.toNat es)).fst (sortR (List.drop n.toNat es)).fst).snd = (0 : Int) ∧ (unionR (sortR (List.drop n.toNat es)).fst (sortR (List.take n.toNat es)).fst).snd = (0 : Int) ∧ (unionR (sortR (List.take n.toNat es)).fst (sortR (List.drop n.toNat es)).fst).fst = (sortR es).fst ∧ (unionR (sortR (List.drop n.toNat es)).fst (sortR (List.take n.toNat es)).fst).fst = (sortR es).fst))) (obl := []) (by kernel_rfl) trivial (AVle.eq (show AV.b (decide ((unionR (sortR (List.take n.toNat es)).fst (sortR (List.drop n.toNat es)).fst).snd = (0 : Int) ∧ (unionR (sortR (List.drop n.toNat es)).fst (sortR (List.take n.toNat es)).fst).snd = (0 : Int) ∧ (unionR (sortR (List.take n.toNat es)).fst (sortR (List.drop n.toNat es)).fst).fst = (sortR es).fst ∧ (unionR (sortR (List.drop n.toNat es)).fst (sortR (List.take n.toNat es)).fst).fst = (sortR es).fst)) = AV.b true from ?g11)); rotate_left 1
  refine st_skip (by kernel_rfl) ?_
  refine sn ?_
  refine sq ?_
  have hl_33 := (rng_sortR l_2)
  refine rg (A := _) cx [(1, { val := some (.tup [.sl (List.map c28 (sortR l_2).fst), .i .i64 ((sortR l_2).snd)]) })] [0, 1, 5, 9, 10] [] (con25 (l_2) (by omega)) ?_
  refine sn ?_
  refine sq ?_
  refine sq ?_
  refine st_join (σ' := ⟨[(0, .sl (List.map c28 es)), (1, .i .i64 (n)), (5, .sl (List.map c28 (sortR es).fst)), (85, .b (decide (¬(sortR l_2).snd = (0 : Int) ∨ ¬(sortR l_2).fst = (sortR es).fst)))], []⟩) ?_ ?_
  refine st_split (¬(sortR l_2).snd = (0 : Int)) (fun h_35 => ?_) (fun h_35 => ?_)
  refine rg (A := (AV.b ((sortR l_2).snd != (0 : Int)) = AV.b true) ∧ (AV.b true = AV.b (decide (¬(sortR l_2).snd = (0 : Int) ∨ ¬(sortR l_2).fst = (sortR es).fst)))) cx [(1, { tell := some (.b (true)) }), (7, { tell := some (.b (decide (¬(sortR l_2).snd = (0 : Int) ∨ ¬(sortR l_2).fst = (sortR es).fst))) })] [0, 1, 5, 85] [] ⟨(told_neqt h_35), (by simp only [eq_false h_35, told_simp1, told_simp2, and_true, true_and, and_false, false_and, or_true, true_or, or_false, false_or, not_true_eq_false, not_false_eq_true, decide_true, decide_false, Bool.decide_eq_true])⟩ ?_
  exact ⟨rfl, by kernel_rfl⟩
  refine rg (A := (AV.b ((sortR l_2).snd != (0 : Int)) = AV.b (decide ¬(sortR l_2).snd = (0 : Int))) ∧ _ ∧ _ ∧ ((AV.b !decide ((sortR l_2).fst = (sortR es).fst)) = AV.b (decide ¬(sortR l_2).fst = (sortR es).fst)) ∧ (AV.b (decide ¬(sortR l_2).fst = (sortR es).fst) = AV.b (decide (¬(sortR l_2).snd = (0 : Int) ∨ ¬(sortR l_2).fst = (sortR es).fst)))) cx [(1, { tell := some (.b (decide ¬(sortR l_2).snd = (0 : Int))) }), (2, { tell := some (.b (false)) }), (5, { val := some (.b (decide ((sortR l_2).fst = (sortR es).fst))) }), (6, { tell := some (.b (decide ¬(sortR l_2).fst = (sortR es).fst)) }), (7, { tell := some (.b (decide (¬(sortR l_2).snd = (0 : Int) ∨ ¬(sortR l_2).fst = (sortR es).fst))) })] [0, 1, 5, 85] [] ⟨(told_neq), (told_false h_35), (con24 ((sortR l_2).fst) ((sortR es).fst)), (told_notd), (by simp only [eq_false h_35, told_simp1, told_simp2, and_true, true_and, and_false, false_and, or_true, true_or, or_false, false_or, not_true_eq_false, not_false_eq_true, decide_true, decide_false, Bool.decide_eq_true])⟩ ?_
  exact ⟨rfl, by kernel_rfl⟩
  refine sn ?_
  refine st_dec (¬(sortR l_2).snd = (0 : Int) ∨ ¬(sortR l_2).fst = (sortR es).fst) (by kernel_rfl) (by kernel_rfl) (fun h_36 => ?_) (fun h_36 => ?_)
  refine sq ?_
  refine rg (A := True) cx [] [4] [] trivial ?_
  refine sn ?_
  refine st_ret (by kernel_rfl) ?_
  refine q_seq_ret ?_
  refine q_ret (r := .b (false)) (obl := []) (by kernel_rfl) trivial (AVle.eq (show AV.b false = AV.b true from ?g12)); rotate_left 1
  refine st_skip (by kernel_rfl) ?_
  refine sn ?_
  refine sq ?_
  refine sq ?_
  refine st_join (σ' := ⟨[(0, .sl (List.map c28 es)), (1, .i .i64 (n)), (5, .sl (List.map c28 (sortR es).fst)), (93, .b (decide (n < (0 : Int) ∨ (↑es.length : Int) < n)))], []⟩) ?_ ?_
  refine st_split (n < (0 : Int)) (fun h_38 => ?_) (fun h_38 => ?_)
  refine rg (A := _ ∧ (AV.b true = AV.b (decide (n < (0 : Int) ∨ (↑es.length : Int) < n)))) cx [(1, { tell := some (.b (true)) }), (7, { tell := some (.b (decide (n < (0 : Int) ∨ (↑es.length : Int) < n))) })] [0, 1, 5, 93] [] ⟨(told_true h_38), (by simp only [eq_true h_38, told_simp1, told_simp2, and_true, true_and, and_false, false_and, or_true, true_or, or_false, false_or, not_true_eq_false, not_false_eq_true, decide_true, decide_false, Bool.decide_eq_true])⟩ ?_
  exact ⟨rfl, by kernel_rfl⟩
  refine rg (A := _ ∧ _ ∧ (AV.b (decide (n > (↑es.length : Int))) = AV.b (decide ((↑es.length : Int) < n))) ∧ (AV.b (decide ((↑es.length : Int) < n)) = AV.b (decide (n < (0 : Int) ∨ (↑es.length : Int) < n)))) cx [(1, { tell := some (.b (false)) }), (5, { tell := some (.i .i64 ((↑es.length : Int))) }), (6, { tell := some (.b (decide ((↑es.length : Int) < n))) }), (7, { tell := some (.b (decide (n < (0 : Int) ∨ (↑es.length : Int) < n))) })] [0, 1, 5, 93] [] ⟨(told_false h_38), (told_len c28 es), (by kernel_rfl), (by simp only [eq_false h_38, told_simp1, told_simp2, and_true, true_and, and_false, false_and, or_true, true_or, or_false, false_or, not_true_eq_false, not_false_eq_true, decide_true, decide_false, Bool.decide_eq_true])⟩ ?_
  exact ⟨rfl, by kernel_rfl⟩
  refine sn ?_
  refine st_dec (n < (0 : Int) ∨ (↑es.length : Int) < n) (by kernel_rfl) (by kernel_rfl) (fun h_39 => ?_) (fun h_39 => ?_)
  refine rg (A := True) cx [] [0, 1, 5] [] trivial ?_
  refine sn ?_
  refine sq ?_
  have hl_40 := (rng_sortR [])
  refine rg (A := ((0 : Int) ≤ (0 : Int)) ∧ ((0 : Int) ≤ (0 : Int)) ∧ ((0 : Int) ≤ (↑(List.map c28 es).length : Int)) ∧ (∀ (r : List AV), r ∈ List.map c28 es → r.length = (4 : Nat)) ∧ _) cx [(3, { val := some (.tup [.sl (List.map c28 (sortR []).fst), .i .i64 ((0 : Int))]) })] [0, 1, 5, 11, 10] [] ⟨(by omega), (by omega), (by omega), (by (with_reducible refine len_map (fun _ => ?_) _; kernel_rfl)), (con25 ([]) (by (simp only [List.length_append, List.length_cons, List.length_nil]; omega)))⟩ ?_
  refine sn ?_
  refine sq ?_
  have hl_41 := (rng_sortR (List.drop (Int.toNat (0 : Int)) es))
  refine rg (A := (AV.sl (List.drop (Int.toNat (0 : Int)) (List.take (none.getD (↑(List.map c28 es).length : Int)).toNat (List.map c28 es))) = AV.sl (List.map c28 (List.drop (Int.toNat (0 : Int)) es))) ∧ ((0 : Int) ≤ (0 : Int)) ∧ ((0 : Int) ≤ none.getD (↑(List.map c28 es).length : Int)) ∧ (none.getD (↑(List.map c28 es).length : Int) ≤ (↑(List.map c28 es).length : Int)) ∧ (∀ (r : List AV), r ∈ List.map c28 es → r.length = (4 : Nat)) ∧ _) cx [(2, { tell := some (.sl (List.map c28 (List.drop (Int.toNat (0 : Int)) es))) }), (3, { val := some (.tup [.sl (List.map c28 (sortR (List.drop (Int.toNat (0 : Int)) es)).fst), .i .i64 ((sortR (List.drop (Int.toNat (0 : Int)) es)).snd)]) })] [5, 11, 10, 12, 13] [] ⟨(told_slN c28 es (Int.toNat (0 : Int))), (by omega), ?g13, ?g14, (by (with_reducible refine len_map (fun _ => ?_) _; kernel_rfl)), (con25 (List.drop (Int.toNat (0 : Int)) es) ?g15)⟩ ?_; rotate_left 3
  refine sn ?_
  refine sq ?_
  refine sq ?_
  refine rg (A := (AV.b ((sortR (List.drop (Int.toNat (0 : Int)) es)).snd != (0 : Int)) = AV.b (decide ¬(sortR (List.drop (Int.toNat (0 : Int)) es)).snd = (0 : Int)))) cx [(4, { tell := some (.b (decide ¬(sortR (List.drop (Int.toNat (0 : Int)) es)).snd = (0 : Int))) })] [5, 11, 12, 113] [] (told_neq) ?_
  refine sn ?_
  refine st_dec (¬(sortR (List.drop (Int.toNat (0 : Int)) es)).snd = (0 : Int)) (by kernel_rfl) (by kernel_rfl) (fun h_42 => ?_) (fun h_42 => ?_)
  refine sq ?_
  refine rg (A := True) cx [] [4] [] trivial ?_
  refine sn ?_
  refine st_ret (by kernel_rfl) ?_
  refine q_seq_ret ?_
  refine q_ret (r := .b (false)) (obl := []) (by kernel_rfl) trivial (AVle.eq (show AV.b false = AV.b true from ?g16)); rotate_left 1
  refine st_skip (by kernel_rfl) ?_
  refine sn ?_
  refine sq ?_
  refine rg (A := _) cx [(2, { val := some (resC (con29 ((sortR []).fst) ((sortR (List.drop (Int.toNat (0 : Int)) es)).fst))) })] [5, 11, 12, 14, 10] [] (con29 ((sortR []).fst) ((sortR (List.drop (Int.toNat (0 : Int)) es)).fst)) ?_
  refine sn ?_
  refine sq ?_
  refine rg (A := _) cx [(2, { val := some (resC (con29 ((sortR (List.drop (Int.toNat (0 : Int)) es)).fst) ((sortR []).fst))) })] [5, 14, 10, 15, 13] [] (con29 ((sortR (List.drop (Int.toNat (0 : Int)) es)).fst) ((sortR []).fst)) ?_
  refine sn ?_
  refine sq ?_
  refine st_join (σ' := ⟨[(4, .b (decide ((unionR (sortR []).fst (sortR (List.drop (Int.toNat (0 : Int)) es)).fst).snd = (0 : Int) ∧ (unionR (sortR (List.drop (Int.toNat (0 : Int)) es)).fst (sortR []).fst).snd = (0 : Int) ∧ (unionR (sortR []).fst (sortR (List.drop (Int.toNat (0 : Int)) es)).fst).fst = (sortR es).fst ∧ (unionR (sortR (List.drop (Int.toNat (0 : Int)) es)).fst (sortR []).fst).fst = (sortR es).fst)))], []⟩) ?_ ?_
  refine st_split ((unionR (sortR []).fst (sortR (List.drop (Int.toNat (0 : Int)) es)).fst).snd = (0 : Int)) (fun h_44 => ?_) (fun h_44 => ?_)
  refine st_split ((unionR (sortR (List.drop (Int.toNat (0 : Int)) es)).fst (sortR []).fst).snd = (0 : Int)) (fun h_45 => ?_) (fun h_45 => ?_)
  refine st_split ((unionR (sortR []).fst (sortR (List.drop (Int.toNat (0 : Int)) es)).fst).fst = (sortR es).fst) (fun h_46 => ?_) (fun h_46 => ?_)
  refine rg (A := _ ∧ _ ∧ _ ∧ _ ∧ _ ∧ (AV.b (decide ((unionR (sortR (List.drop (Int.toNat (0 : Int)) es)).fst (sortR []).fst).fst = (sortR es).fst)) = AV.b (decide ((unionR (sortR []).fst (sortR (List.drop (Int.toNat (0 : Int)) es)).fst).snd = (0 : Int) ∧ (unionR (sortR (List.drop (Int.toNat (0 : Int)) es)).fst (sortR []).fst).snd = (0 : Int) ∧ (unionR (sortR []).fst (sortR (List.drop (Int.toNat (0 : Int)) es)).fst).fst = (sortR es).fst ∧ (unionR (sortR (List.drop (Int.toNat (0 : Int)) es)).fst (sortR []).fst).fst = (sortR es).fst)))) cx [(1, { tell := some (.b (true)) }), (4, { tell := some (.b (true)) }), (9, { val := some (.b (decide ((unionR (sortR []).fst (sortR (List.drop (Int.toNat (0 : Int)) es)).fst).fst = (sortR es).fst))), tell := some (.b (true)) }), (14, { val := some (.b (decide ((unionR (sortR (List.drop (Int.toNat (0 : Int)) es)).fst (sortR []).fst).fst = (sortR es).fst))) }), (16, { tell := some (.b (decide ((unionR (sortR []).fst (sortR (List.drop (Int.toNat (0 : Int)) es)).fst).snd = (0 : Int) ∧ (unionR (sortR (List.drop (Int.toNat (0 : Int)) es)).fst (sortR []).fst).snd = (0 : Int) ∧ (unionR (sortR []).fst (sortR (List.drop (Int.toNat (0 : Int)) es)).fst).fst = (sortR es).fst ∧ (unionR (sortR (List.drop (Int.toNat (0 : Int)) es)).fst (sortR []).fst).fst = (sortR es).fst))) })] [4] [] ⟨(told_true h_44), (told_true h_45), (told_true h_46), (con24 ((unionR (sortR []).fst (sortR (List.drop (Int.toNat (0 : Int)) es)).fst).fst) ((sortR es).fst)), (con24 ((unionR (sortR (List.drop (Int.toNat (0 : Int)) es)).fst (sortR []).fst).fst) ((sortR es).fst)), (by simp only [eq_true h_44, eq_true h_45, eq_true h_46, told_simp1, told_simp2, and_true, true_and, and_false, false_and, or_true, true_or, or_false, false_or, not_true_eq_false, not_false_eq_true, decide_true, decide_false, Bool.decide_eq_true])⟩ ?_
  exact ⟨rfl, by kernel_rfl⟩
  refine rg (A := _ ∧ _ ∧ _ ∧ _ ∧ (AV.b false = AV.b (decide ((unionR (sortR []).fst (sortR (List.drop (Int.toNat (0 : Int)) es)).fst).snd = (0 : Int) ∧ (unionR (sortR (List.drop (Int.toNat (0 : Int)) es)).fst (sortR []).fst).snd = (0 : Int) ∧ (unionR (sortR []).fst (sortR (List.drop (Int.toNat (0 : Int)) es)).fst).fst = (sortR es).fst ∧ (unionR (sortR (List.drop (Int.toNat (0 : Int)) es)).fst (sortR []).fst).fst = (sortR es).fst)))) cx [(1, { tell := some (.b (true)) }), (4, { tell := some (.b (true)) }), (9, { val := some (.b (decide ((unionR (sortR []).fst (sortR (List.drop (Int.toNat (0 : Int)) es)).fst).fst = (sortR es).fst))), tell := some (.b (false)) }), (16, { tell := some (.b (decide ((unionR (sortR []).fst (sortR (List.drop (Int.toNat (0 : Int)) es)).fst).snd = (0 : Int) ∧ (unionR (sortR (List.drop (Int.toNat (0 : Int)) es)).fst (sortR []).fst).snd = (0 : Int) ∧ (unionR (sortR []).fst (sortR (List.drop (Int.toNat (0 : Int)) es)).fst).fst = (sortR es).fst ∧ (unionR (sortR (List.drop (Int.toNat (0 : Int)) es)).fst (sortR []).fst).fst = (sortR es).fst))) })] [4] [] ⟨(told_true h_44), (told_true h_45), (told_false h_46), (con24 ((unionR (sortR []).fst (sortR (List.drop (Int.toNat (0 : Int)) es)).fst).fst) ((sortR es).fst)), (by simp only [eq_true h_44, eq_true h_45, eq_false h_46, told_simp1, told_simp2, and_true, true_and, and_false, false_and, or_true, true_or, or_false, false_or, not_true_eq_false, not_false_eq_true, decide_true, decide_false, Bool.decide_eq_true])⟩ ?_
  exact ⟨rfl, by kernel_rfl⟩
  refine rg (A := _ ∧ _ ∧ (AV.b false = AV.b (decide ((unionR (sortR []).fst (sortR (List.drop (Int.toNat (0 : Int)) es)).fst).snd = (0 : Int) ∧ (unionR (sortR (List.drop (Int.toNat (0 : Int)) es)).fst (sortR []).fst).snd = (0 : Int) ∧ (unionR (sortR []).fst (sortR (List.drop (Int.toNat (0 : Int)) es)).fst).fst = (sortR es).fst ∧ (unionR (sortR (List.drop (Int.toNat (0 : Int)) es)).fst (sortR []).fst).fst = (sortR es).fst)))) cx [(1, { tell := some (.b (true)) }), (4, { tell := some (.b (false)) }), (16, { tell := some (.b (decide ((unionR (sortR []).fst (sortR (List.drop (Int.toNat (0 : Int)) es)).fst).snd = (0 : Int) ∧ (unionR (sortR (List.drop (Int.toNat (0 : Int)) es)).fst (sortR []).fst).snd = (0 : Int) ∧ (unionR (sortR []).fst (sortR (List.drop (Int.toNat (0 : Int)) es)).fst).fst = (sortR es).fst ∧ (unionR (sortR (List.drop (Int.toNat (0 : Int)) es)).fst (sortR []).fst).fst = (sortR es).fst))) })] [4] [] ⟨(told_true h_44), (told_false h_45), (by simp only [eq_true h_44, eq_false h_45, told_simp1, told_simp2, and_true, true_and, and_false, false_and, or_true, true_or, or_false, false_or, not_true_eq_false, not_false_eq_true, decide_true, decide_false, Bool.decide_eq_true])⟩ ?_
  exact ⟨rfl, by kernel_rfl⟩
  refine rg (A := _ ∧ (AV.b false = AV.b (decide ((unionR (sortR []).fst (sortR (List.drop (Int.toNat (0 : Int)) es)).fst).snd = (0 : Int) ∧ (unionR (sortR (List.drop (Int.toNat (0 : Int)) es)).fst (sortR []).fst).snd = (0 : Int) ∧ (unionR (sortR []).fst (sortR (List.drop (Int.toNat (0 : Int)) es)).fst).fst = (sortR es).fst ∧ (unionR (sortR (List.drop (Int.toNat (0 : Int)) es)).fst (sortR []).fst).fst = (sortR es).fst)))) cx [(1, { tell := some (.b (false)) }), (16, { tell := some (.b (decide ((unionR (sortR []).fst (sortR (List.drop (Int.toNat (0 : Int)) es)).fst).snd = (0 : Int) ∧ (unionR (sortR (List.drop (Int.toNat (0 : Int)) es)).fst (sortR []).fst).snd = (0 : Int) ∧ (unionR (sortR []).fst (sortR (List.drop (Int.toNat (0 : Int)) es)).fst).fst = (sortR es).fst ∧ (unionR (sortR (List.drop (Int.toNat (0 : Int)) es)).fst (sortR []).fst).fst = (sortR es).fst))) })] [4] [] ⟨(told_false h_44), (by simp only [eq_false h_44, told_simp1, told_simp2, and_true, true_and, and_false, false_and, or_true, true_or, or_false, false_or, not_true_eq_false, not_false_eq_true, decide_true, decide_false, Bool.decide_eq_true])⟩ ?_
  exact ⟨rfl, by kernel_rfl⟩
  refine sn ?_
  refine st_ret (by kernel_rfl) ?_
  refine q_ret (r := .b (decide ((unionR (sortR []).fst (sortR (List.drop (Int.toNat (0 : Int)) es)).fst).snd = (0 : Int) ∧ (unionR (sortR (List.drop (Int.toNat (0 : Int)) es)).fst (sortR []).fst).snd = (0 : Int) ∧ (unionR (sortR []).fst (sortR (List.drop (Int.toNat (0 : Int)) es)).fst).fst = (sortR es).fst ∧ (unionR (sortR (List.drop (Int.toNat (0 : Int)) es)).fst (sortR []).fst).fst = (sortR es).fst))) (obl := []) (by kernel_rfl) trivial (AVle.eq (show AV.b (decide ((unionR (sortR []).fst (sortR (List.drop (Int.toNat (0 : Int)) es)).fst).snd = (0 : Int) ∧ (unionR (sortR (List.drop (Int.toNat (0 : Int)) es)).fst (sortR []).fst).snd = (0 : Int) ∧ (unionR (sortR []).fst (sortR (List.drop (Int.toNat (0 : Int)) es)).fst).fst = (sortR es).fst ∧ (unionR (sortR (List.drop (Int.toNat (0 : Int)) es)).fst (sortR []).fst).fst = (sortR es).fst)) = AV.b true from ?g17)); rotate_left 1
  refine st_skip (by kernel_rfl) ?_
  refine sn ?_
  refine sq ?_
  have hl_47 := (rng_sortR (List.take n.toNat es))
  refine rg (A := (AV.sl (List.drop (Int.toNat (0 : Int)) (List.take n.toNat (List.map c28 es))) = AV.sl (List.map c28 (List.take n.toNat es))) ∧ ((0 : Int) ≤ (0 : Int)) ∧ ((0 : Int) ≤ n) ∧ (n ≤ (↑(List.map c28 es).length : Int)) ∧ (∀ (r : List AV), r ∈ List.map c28 es → r.length = (4 : Nat)) ∧ _) cx [(2, { tell := some (.sl (List.map c28 (List.take n.toNat es))) }), (3, { val := some (.tup [.sl (List.map c28 (sortR (List.take n.toNat es)).fst), .i .i64 ((sortR (List.take n.toNat es)).snd)]) })] [0, 1, 5, 11, 10] [] ⟨(told_slT c28 es n.toNat), (by omega), (by omega), (by (first | omega | (simp only [List.length_map]; omega))), (by (with_reducible refine len_map (fun _ => ?_) _; kernel_rfl)), (con25 (List.take n.toNat es) ?g18)⟩ ?_; rotate_left 1
  refine sn ?_
  refine sq ?_
  have hl_48 := (rng_sortR (List.drop n.toNat es))
  refine rg (A := (AV.sl (List.drop n.toNat (List.take (none.getD (↑(List.map c28 es).length : Int)).toNat (List.map c28 es))) = AV.sl (List.map c28 (List.drop n.toNat es))) ∧ ((0 : Int) ≤ n) ∧ (n ≤ none.getD (↑(List.map c28 es).length : Int)) ∧ (none.getD (↑(List.map c28 es).length : Int) ≤ (↑(List.map c28 es).length : Int)) ∧ (∀ (r : List AV), r ∈ List.map c28 es → r.length = (4 : Nat)) ∧ _) cx [(2, { tell := some (.sl (List.map c28 (List.drop n.toNat es))) }), (3, { val := some (.tup [.sl (List.map c28 (sortR (List.drop n.toNat es)).fst), .i .i64 ((sortR (List.drop n.toNat es)).snd)]) })] [5, 11, 10, 12, 13] [] ⟨(told_slN c28 es n.toNat), (by omega), ?g19, ?g20, (by (with_reducible refine len_map (fun _ => ?_) _; kernel_rfl)), (con25 (List.drop n.toNat es) ?g21)⟩ ?_; rotate_left 3
  refine sn ?_
  refine sq ?_
  refine sq ?_
  refine st_join (σ' := ⟨[(5, .sl (List.map c28 (sortR es).fst)), (11, .sl (List.map c28 (sortR (List.take n.toNat es)).fst)), (12, .sl (List.map c28 (sortR (List.drop n.toNat es)).fst)), (113, .b (decide (¬(sortR (List.take n.toNat es)).snd = (0 : Int) ∨ ¬(sortR (List.drop n.toNat es)).snd = (0 : Int))))], []⟩) ?_ ?_
  refine st_split (¬(sortR (List.take n.toNat es)).snd = (0 : Int)) (fun h_50 => ?_) (fun h_50 => ?_)
  refine rg (A := (AV.b ((sortR (List.take n.toNat es)).snd != (0 : Int)) = AV.b true) ∧ (AV.b true = AV.b (decide (¬(sortR (List.take n.toNat es)).snd = (0 : Int) ∨ ¬(sortR (List.drop n.toNat es)).snd = (0 : Int))))) cx [(1, { tell := some (.b (true)) }), (5, { tell := some (.b (decide (¬(sortR (List.take n.toNat es)).snd = (0 : Int) ∨ ¬(sortR (List.drop n.toNat es)).snd = (0 : Int)))) })] [5, 11, 12, 113] [] ⟨(told_neqt h_50), (by simp only [eq_false h_50, told_simp1, told_simp2, and_true, true_and, and_false, false_and, or_true, true_or, or_false, false_or, not_true_eq_false, not_false_eq_true, decide_true, decide_false, Bool.decide_eq_true])⟩ ?_
  exact ⟨rfl, by kernel_rfl⟩
  refine rg (A := (AV.b ((sortR (List.take n.toNat es)).snd != (0 : Int)) = AV.b (decide ¬(sortR (List.take n.toNat es)).snd = (0 : Int))) ∧ _ ∧ (AV.b ((sortR (List.drop n.toNat es)).snd != (0 : Int)) = AV.b (decide ¬(sortR (List.drop n.toNat es)).snd = (0 : Int))) ∧ (AV.b (decide ¬(sortR (List.drop n.toNat es)).snd = (0 : Int)) = AV.b (decide (¬(sortR (List.take n.toNat es)).snd = (0 : Int) ∨ ¬(sortR (List.drop n.toNat es)).snd = (0 : Int))))) cx [(1, { tell := some (.b (decide ¬(sortR (List.take n.toNat es)).snd = (0 : Int))) }), (2, { tell := some (.b (false)) }), (4, { tell := some (.b (decide ¬(sortR (List.drop n.toNat es)).snd = (0 : Int))) }), (5, { tell := some (.b (decide (¬(sortR (List.take n.toNat es)).snd = (0 : Int) ∨ ¬(sortR (List.drop n.toNat es)).snd = (0 : Int)))) })] [5, 11, 12, 113] [] ⟨(told_neq), (told_false h_50), (told_neq), (by simp only [eq_false h_50, told_simp1, told_simp2, and_true, true_and, and_false, false_and, or_true, true_or, or_false, false_or, not_true_eq_false, not_false_eq_true, decide_true, decide_false, Bool.decide_eq_true])⟩ ?_
  exact ⟨rfl, by kernel_rfl⟩
  refine sn ?_
  refine st_dec (¬(sortR (List.take n.toNat es)).snd = (0 : Int) ∨ ¬(sortR (List.drop n.toNat es)).snd = (0 : Int)) (by kernel_rfl) (by kernel_rfl) (fun h_51 => ?_) (fun h_51 => ?_)
  refine sq ?_
  refine rg (A := True) cx [] [4] [] trivial ?_
  refine sn ?_
  refine st_ret (by kernel_rfl) ?_
  refine q_seq_ret ?_
  refine q_ret (r := .b (false)) (obl := []) (by kernel_rfl) trivial (AVle.eq (show AV.b false = AV.b true from ?g22)); rotate_left 1
  refine st_skip (by kernel_rfl) ?_
  refine sn ?_
  refine sq ?_
  refine rg (A := _) cx [(2, { val := some (resC (con29 ((sortR (List.take n.toNat es)).fst) ((sortR (List.drop n.toNat es)).fst))) })] [5, 11, 12, 14, 10] [] (con29 ((sortR (List.take n.toNat es)).fst) ((sortR (List.drop n.toNat es)).fst)) ?_
  refine sn ?_
  refine sq ?_
  refine rg (A := _) cx [(2, { val := some (resC (con29 ((sortR (List.drop n.toNat es)).fst) ((sortR (List.take n.toNat es)).fst))) })] [5, 14, 10, 15, 13] [] (con29 ((sortR (List.drop n.toNat es)).fst) ((sortR (List.take n.toNat es)).fst)) ?_
  refine sn ?_
  refine sq ?_
  refine st_join (σ' := ⟨[(4, .b (decide ((unionR (sortR (List.take n.toNat es)).fst (sortR (List.drop n.toNat es)).fst).snd = (0 : Int) ∧ (unionR (sortR (List.drop n.toNat es)).fst (sortR (List.take n.toNat es)).fst).snd = (0 : Int) ∧ (unionR (sortR (List.take n.toNat es)).fst (sortR (List.drop n.toNat es)).fst).fst = (sortR es).fst ∧ (unionR (sortR (List.drop n.toNat es)).fst (sortR (List.take n.toNat es)).fst).fst = (sortR es).fst)))], []⟩) ?_ ?_
  refine st_split ((unionR (sortR (List.take n.toNat es)).fst (sortR (List.drop n.toNat es)).fst).snd = (0 : Int)) (fun h_53 => ?_) (fun h_53 => ?_)
  refine st_split ((unionR (sortR (List.drop n.toNat es)).fst (sortR (List.take n.toNat es)).fst).snd = (0 : Int)) (fun h_54 => ?_) (fun h_54 => ?_)
  refine st_split ((unionR (sortR (List.take n.toNat es)).fst (sortR (List.drop n.toNat es)).fst).fst = (sortR es).fst) (fun h_55 => ?_) (fun h_55 => ?_)
  refine rg (A := _ ∧ _ ∧ _ ∧ _ ∧ _ ∧ (AV.b (decide ((unionR (sortR (List.drop n.toNat es)).fst (sortR (List.take n.toNat es)).fst).fst = (sortR es).fst)) = AV.b (decide ((unionR (sortR (List.take n.toNat es)).fst (sortR (List.drop n.toNat es)).fst).snd = (0 : Int) ∧ (unionR (sortR (List.drop n.toNat es)).fst (sortR (List.take n.toNat es)).fst).snd = (0 : Int) ∧ (unionR (sortR (List.take n.toNat es)).fst (sortR (List.drop n.toNat es)).fst).fst = (sortR es).fst ∧ (unionR (sortR (List.drop n.toNat es)).fst (sortR (List.take n.toNat es)).fst).fst = (sortR es).fst)))) cx [(1, { tell := some (.b (true)) }), (4, { tell := some (.b (true)) }), (9, { val := some (.b (decide ((unionR (sortR (List.take n.toNat es)).fst (sortR (List.drop n.toNat es)).fst).fst = (sortR es).fst))), tell := some (.b (true)) }), (14, { val := some (.b (decide ((unionR (sortR (List.drop n.toNat es)).fst (sortR (List.take n.toNat es)).fst).fst = (sortR es).fst))) }), (16, { tell := some (.b (decide ((unionR (sortR (List.take n.toNat es)).fst (sortR (List.drop n.toNat es)).fst).snd = (0 : Int) ∧ (unionR (sortR (List.drop n.toNat es)).fst (sortR (List.take n.toNat es)).fst).snd = (0 : Int) ∧ (unionR (sortR (List.take n.toNat es)).fst (sortR (List.drop n.toNat es)).fst).fst = (sortR es).fst ∧ (unionR (sortR (List.drop n.toNat es)).fst (sortR (List.take n.toNat es)).fst).fst = (sortR es).fst))) })] [4] [] ⟨(told_true h_53), (told_true h_54), (told_true h_55), (con24 ((unionR (sortR (List.take n.toNat es)).fst (sortR (List.drop n.toNat es)).fst).fst) ((sortR es).fst)), (con24 ((unionR (sortR (List.drop n.toNat es)).fst (sortR (List.take n.toNat es)).fst).fst) ((sortR es).fst)), (by simp only [eq_true h_53, eq_true h_54, eq_true h_55, told_simp1, told_simp2, and_true, true_and, and_false, false_and, or_true, true_or, or_false, false_or, not_true_eq_false, not_false_eq_true, decide_true, decide_false, Bool.decide_eq_true])⟩ ?_
  exact ⟨rfl, by kernel_rfl⟩
  refine rg (A := _ ∧ _ ∧ _ ∧ _ ∧ (AV.b false = AV.b (decide ((unionR (sortR (List.take n.toNat es)).fst (sortR (List.drop n.toNat es)).fst).snd = (0 : Int) ∧ (unionR (sortR (List.drop n.toNat es)).fst (sortR (List.take n.toNat es)).fst).snd = (0 : Int) ∧ (unionR (sortR (List.take n.toNat es)).fst (sortR (List.drop n.toNat es)).fst).fst = (sortR es).fst ∧ (unionR (sortR (List.drop n.toNat es)).fst (sortR (List.take n.toNat es)).fst).fst = (sortR es).fst)))) cx [(1, { tell := some (.b (true)) }), (4, { tell := some (.b (true)) }), (9, { val := some (.b (decide ((unionR (sortR (List.take n.toNat es)).fst (sortR (List.drop n.toNat es)).fst).fst = (sortR es).fst))), tell := some (.b (false)) }), (16, { tell := some (.b (decide ((unionR (sortR (List.take n.toNat es)).fst (sortR (List.drop n.toNat es)).fst).snd = (0 : Int) ∧ (unionR (sortR (List.drop n.toNat es)).fst (sortR (List.take n.toNat es)).fst).snd = (0 : Int) ∧ (unionR (sortR (List.take n.toNat es)).fst (sortR (List.drop n.toNat es)).fst).fst = (sortR es).fst ∧ (unionR (sortR (List.drop n.toNat es)).fst (sortR (List.take n.toNat es)).fst).fst = (sortR es).fst))) })] [4] [] ⟨(told_true h_53), (told_true h_54), (told_false h_55), (con24 ((unionR (sortR (List.take n.toNat es)).fst (sortR (List.drop n.toNat es)).fst).fst) ((sortR es).fst)), (by simp only [eq_true h_53, eq_true h_54, eq_false h_55, told_simp1, told_simp2, and_true, true_and, and_false, false_and, or_true, true_or, or_false, false_or, not_true_eq_false, not_false_eq_true, decide_true, decide_false, Bool.decide_eq_true])⟩ ?_
  exact ⟨rfl, by kernel_rfl⟩
  refine rg (A := _ ∧ _ ∧ (AV.b false = AV.b (decide ((unionR (sortR (List.take n.toNat es)).fst (sortR (List.drop n.toNat es)).fst).snd = (0 : Int) ∧ (unionR (sortR (List.drop n.toNat es)).fst (sortR (List.take n.toNat es)).fst).snd = (0 : Int) ∧ (unionR (sortR (List.take n.toNat es)).fst (sortR (List.drop n.toNat es)).fst).fst = (sortR es).fst ∧ (unionR (sortR (List.drop n.toNat es)).fst (sortR (List.take n.toNat es)).fst).fst = (sortR es).fst)))) cx [(1, { tell := some (.b (true)) }), (4, { tell := some (.b (false)) }), (16, { tell := some (.b (decide ((unionR (sortR (List.take n.toNat es)).fst (sortR (List.drop n.toNat es)).fst).snd = (0 : Int) ∧ (unionR (sortR (List.drop n.toNat es)).fst (sortR (List.take n.toNat es)).fst).snd = (0 : Int) ∧ (unionR (sortR (List.take n.toNat es)).fst (sortR (List.drop n.toNat es)).fst).fst = (sortR es).fst ∧ (unionR (sortR (List.drop n.toNat es)).fst (sortR (List.take n.toNat es)).fst).fst = (sortR es).fst))) })] [4] [] ⟨(told_true h_53), (told_false h_54), (by simp only [eq_true h_53, eq_false h_54, told_simp1, told_simp2, and_true, true_and, and_false, false_and, or_true, true_or, or_false, false_or, not_true_eq_false, not_false_eq_true, decide_true, decide_false, Bool.decide_eq_true])⟩ ?_
  exact ⟨rfl, by kernel_rfl⟩
  refine rg (A := _ ∧ (AV.b false = AV.b (decide ((unionR (sortR (List.take n.toNat es)).fst (sortR (List.drop n.toNat es)).fst).snd = (0 : Int) ∧ (unionR (sortR (List.drop n.toNat es)).fst (sortR (List.take n.toNat es)).fst).snd = (0 : Int) ∧ (unionR (sortR (List.take n.toNat es)).fst (sortR (List.drop n.toNat es)).fst).fst = (sortR es).fst ∧ (unionR (sortR (List.drop n.toNat es)).fst (sortR (List.take n.toNat es)).fst).fst = (sortR es).fst)))) cx [(1, { tell := some (.b (false)) }), (16, { tell := some (.b (decide ((unionR (sortR (List.take n.toNat es)).fst (sortR (List.drop n.toNat es)).fst).snd = (0 : Int) ∧ (unionR (sortR (List.drop n.toNat es)).fst (sortR (List.take n.toNat es)).fst).snd = (0 : Int) ∧ (unionR (sortR (List.take n.toNat es)).fst (sortR (List.drop n.toNat es)).fst).fst = (sortR es).fst ∧ (unionR (sortR (List.drop n.toNat es)).fst (sortR (List.take n.toNat es)).fst).fst = (sortR es).fst))) })] [4] [] ⟨(told_false h_53), (by simp only [eq_false h_53, told_simp1, told_simp2, and_true, true_and, and_false, false_and, or_true, true_or, or_false, false_or, not_true_eq_false, not_false_eq_true, decide_true, decide_false, Bool.decide_eq_true])⟩ ?_
  exact ⟨rfl, by kernel_rfl⟩
  refine sn ?_
  refine st_ret (by kernel_rfl) ?_
  refine q_ret (r := .b (decide ((unionR (sortR (List.take n.toNat es)).fst (sortR (List.drop n.toNat es)).fst).snd = (0 : Int) ∧ (unionR (sortR (List.drop n.toNat es)).fst (sortR (List.take n.toNat es)).fst).snd = (0 : Int) ∧ (unionR (sortR (List.take n.toNat es)).fst (sortR (List.drop n.toNat es)).fst).fst = (sortR es).fst ∧ (unionR (sortR (List.drop n.toNat es)).fst (sortR (List.take n.toNat es)).fst).fst = (sortR es).fst))) (obl := []) (by kernel_rfl) trivial (AVle.eq (show AV.b (decide ((unionR (sortR (List.take n.toNat es)).fst (sortR (List.drop n.toNat es)).fst).snd = (0 : Int) ∧ (unionR (sortR (List.drop n.toNat es)).fst (sortR (List.take n.toNat es)).fst).snd = (0 : Int) ∧ (unionR (sortR (List.take n.toNat es)).fst (sortR (List.drop n.toNat es)).fst).fst = (sortR es).fst ∧ (unionR (sortR (List.drop n.toNat es)).fst (sortR (List.take n.toNat es)).fst).fst = (sortR es).fst)) = AV.b true from ?g23)); rotate_left 1
  rotate_left
  revert i_1 l_2 h_4 h_5 h_6 h_7 h_8; rotate_left
  revert i_1 l_2 h_4 h_5 h_6 h_7 h_8 h_9; rotate_left
  revert i_1 l_2 h_4 h_5 h_6 h_7 h_8 h_9 h_10; rotate_left
  revert i_1 l_2 h_4 h_5 h_6 h_7 h_8 h_9 h_10 h_14; rotate_left
  clear hl_18; revert i_1 l_2 h_4 h_5 h_6 h_7 h_8 h_9 h_10 h_14 h_17 h_21; rotate_left
  clear hl_18; revert i_1 l_2 h_4 h_5 h_6 h_7 h_8 h_9 h_10 h_14 h_17 h_21 h_22 h_23; rotate_left
  clear hl_18; revert i_1 l_2 h_4 h_5 h_6 h_7 h_8 h_9 h_10 h_14 h_17 h_21 h_22 h_23; rotate_left
  clear hl_18; revert i_1 l_2 h_4 h_5 h_6 h_7 h_8 h_9 h_10 h_14 h_17 h_21 h_22 h_23; rotate_left
  clear hl_18; revert i_1 l_2 h_4 h_5 h_6 h_7 h_8 h_9 h_10 h_14 h_17 h_21 h_22 h_23; rotate_left
  clear hl_18; revert i_1 l_2 h_4 h_5 h_6 h_7 h_8 h_9 h_10 h_14 h_17 h_21 h_22 h_23 h_28; rotate_left
  clear hl_18; revert i_1 l_2 h_4 h_5 h_6 h_7 h_8 h_9 h_10 h_14 h_17 h_21 h_22 h_23 h_28; rotate_left
  clear hl_33; revert i_1 l_2 h_4 h_5 h_6 h_7 h_8 h_9 h_10 h_14 h_17 h_36; rotate_left
  clear hl_33; revert i_1 l_2 h_4 h_5 h_6 h_7 h_8 h_9 h_10 h_14 h_17 h_36 h_39; rotate_left
  clear hl_33; revert i_1 l_2 h_4 h_5 h_6 h_7 h_8 h_9 h_10 h_14 h_17 h_36 h_39; rotate_left
  clear hl_33; revert i_1 l_2 h_4 h_5 h_6 h_7 h_8 h_9 h_10 h_14 h_17 h_36 h_39; rotate_left
  clear hl_33; revert i_1 l_2 h_4 h_5 h_6 h_7 h_8 h_9 h_10 h_14 h_17 h_36 h_39 h_42; rotate_left
  clear hl_33; revert i_1 l_2 h_4 h_5 h_6 h_7 h_8 h_9 h_10 h_14 h_17 h_36 h_39 h_42; rotate_left
  clear hl_33; revert i_1 l_2 h_4 h_5 h_6 h_7 h_8 h_9 h_10 h_14 h_17 h_36 h_39; rotate_left
  clear hl_33; revert i_1 l_2 h_4 h_5 h_6 h_7 h_8 h_9 h_10 h_14 h_17 h_36 h_39; rotate_left
  clear hl_33; revert i_1 l_2 h_4 h_5 h_6 h_7 h_8 h_9 h_10 h_14 h_17 h_36 h_39; rotate_left
  clear hl_33; revert i_1 l_2 h_4 h_5 h_6 h_7 h_8 h_9 h_10 h_14 h_17 h_36 h_39; rotate_left
  clear hl_33; revert i_1 l_2 h_4 h_5 h_6 h_7 h_8 h_9 h_10 h_14 h_17 h_36 h_39 h_51; rotate_left
  clear hl_33; revert i_1 l_2 h_4 h_5 h_6 h_7 h_8 h_9 h_10 h_14 h_17 h_36 h_39 h_51; rotate_left
  case g0 => exact ⟨by omega, by omega, by simp, by unfold isBack; rw [List.drop_of_length_le (by omega)]; rfl⟩
  case g1 => intro i l h0 h1 h2 h3 h4; exact ⟨by omega, by omega, by rw [List.length_append, List.length_singleton]; omega, back_step h4 h1 h3⟩
  case g2 => intro i l h0 h1 h2 h3 h4 h; rw [sort_err h]; rfl
  case g3 => intro i l h0 h1 h2 h3 h4 h k; exact absurd ((lst_iff _).2 (sort_some (Classical.not_not.1 h)).2.1) k
  case g4 => intro i l h0 h1 h2 h3 h4 h _ k; rw [self_same (Classical.not_not.1 h)] at k; exact absurd k (by simp)
  case g5 => intro i l h0 h1 h2 h3 h4 h _ _ k k2; rw [back_end h0 h4 h3, back_more (Classical.not_not.1 h) (by omega) k.2] at k2; exact absurd k2 (by simp)
  case g6 => intros; rw [List.length_take]; omega
  case g7 => intros; simp only [Option.getD_none, List.length_map]; omega
  case g8 => intros; simp only [Option.getD_none, List.length_map]; omega
  case g9 => intros; rw [List.length_drop]; omega
  case g10 =>
    intro i l h0 h1 h2 h3 h4 h _ _ _ _ _ _ k
    obtain ⟨k1, k2, _⟩ := sort_halves (Classical.not_not.1 h) n.toNat
    rcases k with k | k
    · exact absurd k1 k
    · exact absurd k2 k
  case g11 =>
    intro i l h0 h1 h2 h3 h4 h _ _ _ _ _ _ _
    obtain ⟨_, _, k3, k4⟩ := sort_halves (Classical.not_not.1 h) n.toNat
    rw [k3, k4]
    congr 1
    rw [decide_eq_true_iff]
    exact ⟨rfl, rfl, rfl, rfl⟩
  case g12 => intro i l h0 h1 h2 h3 h4 h _ _ _ k2; rw [back_end h0 h4 h3, back_same (Classical.not_not.1 h)] at k2; exact absurd k2 (by simp)
  case g13 => intros; simp only [Option.getD_none, List.length_map]; omega
  case g14 => intros; simp only [Option.getD_none, List.length_map]; omega
  case g15 => intros; rw [List.length_drop]; omega
  case g16 => intro i l h0 h1 h2 h3 h4 h _ _ _ _ _ k; exact absurd (sort_halves (Classical.not_not.1 h) 0).2.1 k
  case g17 =>
    intro i l h0 h1 h2 h3 h4 h _ _ _ _ _ _
    obtain ⟨_, _, k3, k4⟩ := sort_halves (Classical.not_not.1 h) 0
    rw [List.take_zero] at k3 k4
    congr 1
    rw [decide_eq_true_iff]
    simp only [Int.toNat_zero]
    rw [k3, k4]
    exact ⟨rfl, rfl, rfl, rfl⟩
  case g18 => intros; rw [List.length_take]; omega
  case g19 => intros; simp only [Option.getD_none, List.length_map]; omega
  case g20 => intros; simp only [Option.getD_none, List.length_map]; omega
  case g21 => intros; rw [List.length_drop]; omega
  case g22 =>
    intro i l h0 h1 h2 h3 h4 h _ _ _ _ _ k
    obtain ⟨k1, k2, _⟩ := sort_halves (Classical.not_not.1 h) n.toNat
    rcases k with k | k
    · exact absurd k1 k
    · exact absurd k2 k
  case g23 =>
    intro i l h0 h1 h2 h3 h4 h _ _ _ _ _ _
    obtain ⟨_, _, k3, k4⟩ := sort_halves (Classical.not_not.1 h) n.toNat
    rw [k3, k4]
    congr 1
    rw [decide_eq_true_iff]
    exact ⟨rfl, rfl, rfl, rfl⟩
end Go.Proofs.Ytjngmlkaijpbgaa
namespace Go.Proofs.Ytjngmlkaijpbgaa
open Go.E Go.ChangeShapes Go.WideShapes Go.ChangeAt Go.RowKit
set_option maxRecDepth 100000
theorem law11 {L : Nat} {a1 : AV} (h1 : TyA tab L 9 22 a1) {a2 : AV} (h2 : TyA tab L 9 3 a2) : Con Try.prog 11 [a1, a2] (.b true) := by
  obtain ⟨x1, rfl, k1⟩ := ta22 h1
  obtain ⟨x2, rfl, k2⟩ := ta3 h2
  exact con11 x1 x2 k1.1.2
theorem LinesSettles_lifted (os : Os) (started : os.Started) (H : Type) (enc : TypeId × Value → H) :
    ReturnsInHanded {} Try.checked os 11 .any (Rows.linesSettlesSpec.pre6 enc Try.prog Try.f11 Rows.linesSettlesRow.domain false) (Rows.linesSettlesSpec.post enc Try.prog Try.f11 false true false false) := by
  refine law_lifted (C := Try.checked) [22, 3] 4 9 tab_ok Try.laidOut Try.own started (by kernel_rfl) Try.func11 rfl rfl (by kernel_rfl) (by kernel_rfl) rfl ?_
    (ChangeSpec.witness6 (enc := enc) (C := Try.checked) false ⟨#[], #[.slice none 0 0, .int .i64 0], []⟩ 8 (by kernel_rfl) (by kernel_rfl) (by kernel_rfl) (by kernel_rfl)) ?_
  · intro ds hds
    rcases ds with _ | ⟨d1, _ | ⟨d2, _ | ⟨d3, l⟩⟩⟩
    · exact absurd hds (by simp)
    · exact absurd hds (by simp)
    · kernel_rfl
    · exact absurd hds (by simp)
  · intro L avs h
    rcases avs with _ | ⟨a1, _ | ⟨a2, _ | ⟨a3, l⟩⟩⟩
    · exact h.elim
    · exact h.2.elim
    · exact law11 h.1 h.2.1
    · exact h.2.2.elim
theorem LinesSettles_holds : Rows.LinesSettlesSaid :=
  OpenClaim.holds_of_wide 11 Try.f11 rfl rfl rfl rfl rfl rfl rfl ⟨rfl, rfl, rfl, rfl, rfl⟩ rfl rfl rfl rfl rfl (by kernel_rfl) Try.func11 (by kernel_rfl)
    (of_decide_eq_true (by kernel_rfl)) (by unfold Func.isWrapper; first | (rw [if_pos (by decide +kernel)]; kernel_rfl) | (rw [if_neg (by decide +kernel)]; exact ⟨rfl, rfl⟩))
    (fun os started H enc _ => LinesSettles_lifted os started H enc)
end Go.Proofs.Ytjngmlkaijpbgaa
namespace Go.Proofs.Ytjngmlkaijpbgaa
end Go.Proofs.Ytjngmlkaijpbgaa
