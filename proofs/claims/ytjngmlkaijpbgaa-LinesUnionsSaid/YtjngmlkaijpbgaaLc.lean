/- Lc: walks, written by a program of this claim's own, and what each function hands back. Conditions: none. -/
import Derived.Test.YtjngmlkaijpbgaaLb
set_option linter.unusedVariables false
set_option linter.unusedSimpArgs false
namespace Go.Proofs.Ytjngmlkaijpbgaa
open Go.E
set_option maxRecDepth 100000
set_option maxHeartbeats 4000000
def ofV (es : List Entry) (sku : ByteArray) : List Entry × Int :=
  if okL es = true then (if good sku = true then (es.filter (fun e => decide (e.sku = sku)), 0) else ([], 5)) else ([], 1)
def ownV (es : List Entry) (rep : Int) (sku : ByteArray) : List Entry × Int :=
  if okL es = true then (if 0 ≤ rep ∧ rep < 16 then (if good sku = true then (es.filter (fun e => decide (e.sku = sku ∧ e.dot.rep = rep)), 0) else ([], 5)) else ([], 3)) else ([], 1)
def invP (p : Entry → Bool) (es : List Entry) (i : Int) (l : List Entry) : Prop := 0 ≤ i ∧ i ≤ es.length ∧ l = (es.take i.toNat).filter p ∧ (l.length : Int) ≤ i
def decP (es : List Entry) (i : Int) (l : List Entry) : Nat := (es.length - i).toNat
theorem filter_step {p : Entry → Bool} {es : List Entry} {i : Int} (h0 : 0 ≤ i) (h : i < es.length) : (es.take (i + 1).toNat).filter p = if p es[i.toNat]! = true then (es.take i.toNat).filter p ++ [es[i.toNat]!] else (es.take i.toNat).filter p := by
  rw [← take_step h0 h, List.filter_append]
  by_cases hp : p es[i.toNat]! = true
  · rw [if_pos hp, List.filter_cons_of_pos hp, List.filter_nil]
  · rw [if_neg hp, List.filter_cons_of_neg hp, List.filter_nil, List.append_nil]
theorem rng_ofV (es : List Entry) (sku : ByteArray) : (ofV es sku).1.length ≤ es.length := by
  unfold ofV
  split
  · split
    · exact List.length_filter_le _ _
    · simp
  · simp
theorem lstE_cases (es : List Entry) : (okL es = true ∧ lstE es = 0) ∨ (¬ okL es = true ∧ lstE es = 1) := by
  unfold lstE
  by_cases h : okL es = true
  · rw [if_pos h]; exact .inl ⟨h, rfl⟩
  · rw [if_neg h]; exact .inr ⟨h, rfl⟩
theorem ofV_form {es : List Entry} {sku : ByteArray} (h : ¬ lstE es = 0) : ofV es sku = ([], 1) := by
  unfold ofV; rw [if_neg]; intro k; exact h (by unfold lstE; rw [if_pos k])
theorem okL_of {es : List Entry} (h : lstE es = 0) : okL es = true := by
  rcases lstE_cases es with ⟨a, b⟩ | ⟨a, b⟩
  · exact a
  · omega
theorem ofV_sku {es : List Entry} {sku : ByteArray} (h : lstE es = 0) (g : ¬ good sku = true) : ofV es sku = ([], 5) := by
  unfold ofV; rw [if_pos (okL_of h), if_neg g]
theorem ofV_ok {es : List Entry} {sku : ByteArray} (h : lstE es = 0) (g : good sku = true) : ofV es sku = (es.filter (fun e => decide (e.sku = sku)), 0) := by
  unfold ofV; rw [if_pos (okL_of h), if_pos g]
theorem ownV_form {es : List Entry} {rep : Int} {sku : ByteArray} (h : ¬ lstE es = 0) : ownV es rep sku = ([], 1) := by
  unfold ownV; rw [if_neg]; intro k; exact h (by unfold lstE; rw [if_pos k])
theorem ownV_rep {es : List Entry} {rep : Int} {sku : ByteArray} (h : lstE es = 0) (r : rep < 0 ∨ 16 ≤ rep) : ownV es rep sku = ([], 3) := by
  unfold ownV; rw [if_pos (okL_of h), if_neg (by omega)]
theorem ownV_sku {es : List Entry} {rep : Int} {sku : ByteArray} (h : lstE es = 0) (r : ¬ (rep < 0 ∨ 16 ≤ rep)) (g : ¬ good sku = true) : ownV es rep sku = ([], 5) := by
  unfold ownV; rw [if_pos (okL_of h), if_pos (by omega), if_neg g]
theorem ownV_ok {es : List Entry} {rep : Int} {sku : ByteArray} (h : lstE es = 0) (r : ¬ (rep < 0 ∨ 16 ≤ rep)) (g : good sku = true) : ownV es rep sku = (es.filter (fun e => decide (e.sku = sku ∧ e.dot.rep = rep)), 0) := by
  unfold ownV; rw [if_pos (okL_of h), if_pos (by omega), if_pos g]
theorem own_of {es : List Entry} {rep : Int} {sku : ByteArray} (h : lstE es = 0) (r : ¬ (rep < 0 ∨ 16 ≤ rep)) : ownV es rep sku = ((ofV es sku).1.filter (fun e => decide (e.dot.rep = rep)), (ofV es sku).2) := by
  by_cases g : good sku = true
  · rw [ofV_ok h g, ownV_ok h r g, List.filter_filter]
    congr 1
    refine List.filter_congr fun e _ => ?_
    by_cases a : e.sku = sku <;> by_cases b : e.dot.rep = rep <;> simp [a, b]
  · rw [ofV_sku h g, ownV_sku h r g]; rfl
theorem invP_init (p : Entry → Bool) (es : List Entry) : invP p es 0 [] := ⟨by omega, by omega, by simp, by simp⟩
theorem invP_add {p : Entry → Bool} {es l : List Entry} {i : Int} (h0 : 0 ≤ i) (h2 : l = (es.take i.toNat).filter p) (h3 : (l.length : Int) ≤ i) (h4 : i < es.length) (h : p es[i.toNat]! = true) : invP p es (i + 1) (l ++ [es[i.toNat]!]) :=
  ⟨by omega, by omega, by rw [filter_step h0 h4, if_pos h, h2], by rw [List.length_append, List.length_cons, List.length_nil]; omega⟩
theorem invP_skip {p : Entry → Bool} {es l : List Entry} {i : Int} (h0 : 0 ≤ i) (h2 : l = (es.take i.toNat).filter p) (h3 : (l.length : Int) ≤ i) (h4 : i < es.length) (h : ¬ p es[i.toNat]! = true) : invP p es (i + 1) l :=
  ⟨by omega, by omega, by rw [filter_step h0 h4, if_neg h, h2], by omega⟩
theorem invP_done {p : Entry → Bool} {es l : List Entry} {i : Int} (h2 : l = (es.take i.toNat).filter p) (h4 : ¬ i < es.length) : l = es.filter p := by
  rw [h2, List.take_of_length_le (by omega)]
theorem walk53 (e : Entry) (sku : ByteArray) :
    Con Try.prog (53 : FuncId) [AV.agg (c28 e), AV.eptr [AV.s sku]] (AV.b (decide (e.sku = sku))) := by
  refine st_con tab_ok (by kernel_rfl) [.tmp 3] 8 Go.Proofs.Try.func53 (by kernel_rfl) (by kernel_rfl) ?_
  intro e0 cx
  refine st_seq (by kernel_rfl) ?_
  refine st_reg (A := True) (σ' := ⟨[(1, .eptr [.s (sku)]), (2, .ptr (2) (0) (0) (0))], [(2, ⟨0, 28, .var [.i .i64 (e.dot.rep), .i .i64 (e.dot.num), .s (e.sku), .i .i64 (e.qty)]⟩)]⟩) cx [] [1, 2] [2] (by kernel_rfl) (by kernel_rfl) trivial ?_
  refine q_seq_normal ?_
  refine st_seq (by kernel_rfl) ?_
  refine st_reg (A := (AV.b (e.sku.toList == sku.toList) = AV.b (decide (e.sku = sku)))) (σ' := ⟨[(3, .b (decide (e.sku = sku)))], []⟩) cx [(3, { tell := some (.b (decide (e.sku = sku))) })] [3] [] (by kernel_rfl) (by kernel_rfl) (told_seq) ?_
  refine q_seq_normal ?_
  refine st_ret (by kernel_rfl) ?_
  exact q_ret (r := .b (decide (e.sku = sku))) (obl := []) (by kernel_rfl) trivial (AVle.refl _)
theorem con53 (e : Entry) (sku : ByteArray) : Con Try.prog 53 [.agg (c28 e), .eptr [.s sku]] (.b (decide (e.sku = sku))) :=
  walk53 e sku
theorem walk52 (e : Entry) (sku : ByteArray) (rep : Int) :
    Con Try.prog (52 : FuncId) [AV.agg (c28 e), AV.eptr [AV.s sku], AV.eptr [AV.i IntKind.i64 rep]] (AV.b (decide (e.sku = sku ∧ e.dot.rep = rep))) := by
  refine st_con tab_ok (by kernel_rfl) [.tmp 4] 16 Go.Proofs.Try.func52 (by kernel_rfl) (by kernel_rfl) ?_
  intro e0 cx
  refine st_seq (by kernel_rfl) ?_
  refine st_reg (A := True) (σ' := ⟨[(1, .eptr [.s (sku)]), (2, .eptr [.i .i64 (rep)]), (3, .ptr (3) (0) (0) (0))], [(3, ⟨0, 28, .var [.i .i64 (e.dot.rep), .i .i64 (e.dot.num), .s (e.sku), .i .i64 (e.qty)]⟩)]⟩) cx [] [1, 2, 3] [3] (by kernel_rfl) (by kernel_rfl) trivial ?_
  refine q_seq_normal ?_
  refine st_seq (by kernel_rfl) ?_
  refine st_join (σ' := ⟨[(4, .b (decide (e.sku = sku ∧ e.dot.rep = rep)))], []⟩) ?_ ?_
  ·
    refine st_split (e.sku = sku) (fun h_1 => ?_) (fun h_1 => ?_)
    ·
      refine st_reg (A := (AV.b (e.sku.toList == sku.toList) = AV.b true) ∧ (AV.b (e.dot.rep == rep) = AV.b (decide (e.dot.rep = rep))) ∧ (AV.b (decide (e.dot.rep = rep)) = AV.b (decide (e.sku = sku ∧ e.dot.rep = rep)))) (σ' := ⟨[(4, .b (decide (e.sku = sku ∧ e.dot.rep = rep)))], []⟩) cx [(3, { tell := some (.b (true)) }), (9, { tell := some (.b (decide (e.dot.rep = rep))) }), (11, { tell := some (.b (decide (e.sku = sku ∧ e.dot.rep = rep))) })] [4] [] (by kernel_rfl) (by kernel_rfl) ⟨(told_seqt h_1), (by kernel_rfl), (by simp only [eq_true h_1, told_simp1, told_simp2, and_true, true_and, and_false, false_and, or_true, true_or, or_false, false_or, not_true_eq_false, not_false_eq_true, decide_true, decide_false, Bool.decide_eq_true])⟩ ?_
      exact ⟨rfl, rfl⟩
    ·
      refine st_reg (A := (AV.b (e.sku.toList == sku.toList) = AV.b false) ∧ (AV.b false = AV.b (decide (e.sku = sku ∧ e.dot.rep = rep)))) (σ' := ⟨[(4, .b (decide (e.sku = sku ∧ e.dot.rep = rep)))], []⟩) cx [(3, { tell := some (.b (false)) }), (11, { tell := some (.b (decide (e.sku = sku ∧ e.dot.rep = rep))) })] [4] [] (by kernel_rfl) (by kernel_rfl) ⟨(told_seqf h_1), (by simp only [eq_false h_1, told_simp1, told_simp2, and_true, true_and, and_false, false_and, or_true, true_or, or_false, false_or, not_true_eq_false, not_false_eq_true, decide_true, decide_false, Bool.decide_eq_true])⟩ ?_
      exact ⟨rfl, rfl⟩
  ·
    refine q_seq_normal ?_
    refine st_ret (by kernel_rfl) ?_
    exact q_ret (r := .b (decide (e.sku = sku ∧ e.dot.rep = rep))) (obl := []) (by kernel_rfl) trivial (AVle.refl _)
theorem con52 (e : Entry) (sku : ByteArray) (rep : Int) : Con Try.prog 52 [.agg (c28 e), .eptr [.s sku], .eptr [.i .i64 rep]] (.b (decide (e.sku = sku ∧ e.dot.rep = rep))) :=
  walk52 e sku rep
theorem walk51_1 (es : List Entry) (sku : ByteArray) (hs : es.length * (40 : Nat) ≤ (140737488351232 : Nat))
    (g0 : invP (fun e ↦ decide (e.sku = sku)) es (0 : Int) [])
    (g1 : ∀ (i_0 : Int) (l_1 : List Entry), (0 : Int) ≤ i_0 → i_0 ≤ (↑es.length : Int) → l_1 = List.filter (fun e ↦ decide (e.sku = sku)) (List.take i_0.toNat es) → (↑l_1.length : Int) ≤ i_0 → i_0 < (↑es.length : Int) → es[i_0.toNat]!.sku = sku → invP (fun e ↦ decide (e.sku = sku)) es (i_0 + (1 : Int)) (l_1 ++ [es[i_0.toNat]!]))
    (g2 : ∀ (i_0 : Int) (l_1 : List Entry), (0 : Int) ≤ i_0 → i_0 ≤ (↑es.length : Int) → l_1 = List.filter (fun e ↦ decide (e.sku = sku)) (List.take i_0.toNat es) → (↑l_1.length : Int) ≤ i_0 → i_0 < (↑es.length : Int) → ¬es[i_0.toNat]!.sku = sku → invP (fun e ↦ decide (e.sku = sku)) es (i_0 + (1 : Int)) l_1)
    (g3 : ∀ (i_0 : Int) (l_1 : List Entry), (0 : Int) ≤ i_0 → i_0 ≤ (↑es.length : Int) → l_1 = List.filter (fun e ↦ decide (e.sku = sku)) (List.take i_0.toNat es) → (↑l_1.length : Int) ≤ i_0 → ¬i_0 < (↑es.length : Int) → AV.sl (List.map c28 l_1) = AV.sl (List.map c28 (List.filter (fun e ↦ decide (e.sku = sku)) es))) :
    Con Try.prog (51 : FuncId) [AV.sl (List.map c28 es), AV.fn (Fn.func (53 : FuncId)) [] [AV.eptr [AV.s sku]]] (AV.sl (List.map c28 (List.filter (fun e ↦ decide (e.sku = sku)) es))) := by
  refine con_lens 0 (c28) (es) (by kernel_rfl) Go.Proofs.Try.func51 (by kernel_rfl) fun hl_0 => ?_
  refine st_con tab_ok (by kernel_rfl) [.tmp 4] 23 Go.Proofs.Try.func51 (by kernel_rfl) (by kernel_rfl) ?_
  intro e0 cx
  refine st_seq (by kernel_rfl) ?_
  refine st_reg (A := True) (σ' := ⟨[(0, .sl (List.map c28 es)), (1, .fn (Fn.func (53 : FuncId)) [] [.eptr [.s (sku)]])], []⟩) cx [] [0, 1] [] (by kernel_rfl) (by kernel_rfl) trivial ?_
  refine q_seq_normal ?_
  refine st_seq (by kernel_rfl) ?_
  refine st_reg (A := True) (σ' := ⟨[(0, .sl (List.map c28 es)), (1, .fn (Fn.func (53 : FuncId)) [] [.eptr [.s (sku)]]), (5, .nl)], []⟩) cx [] [0, 1, 5] [] (by kernel_rfl) (by kernel_rfl) trivial ?_
  refine q_seq_normal ?_
  refine st_seq (by kernel_rfl) ?_
  refine st_seq (by kernel_rfl) ?_
  refine st_reg (A := (AV.i IntKind.i64 (↑(List.map c28 es).length : Int) = AV.i IntKind.i64 (↑es.length : Int))) (σ' := ⟨[(1, .fn (Fn.func (53 : FuncId)) [] [.eptr [.s (sku)]]), (5, .nl), (8, .sl (List.map c28 es)), (9, .i .i64 ((↑es.length : Int))), (10, .i .i64 ((0 : Int)))], []⟩) cx [(1, { tell := some (.i .i64 ((↑es.length : Int))) })] [1, 5, 8, 9, 10] [] (by kernel_rfl) (by kernel_rfl) (told_len c28 es) ?_
  refine q_seq_normal ?_
  refine st_block 0 (by kernel_rfl) ?_
  refine awp_adopt 5 1005 28 4 (σ' := ⟨[(1, .fn (Fn.func (53 : FuncId)) [] [.eptr [.s (sku)]]), (5, .own 1005 0), (8, .sl (List.map c28 es)), (9, .i .i64 ((↑es.length : Int))), (10, .i .i64 ((0 : Int)))], [(1005, ⟨0, 28, .row 4 (List.map c28 [])⟩)]⟩) (by kernel_rfl) ?_
  refine st_loop (X := Int × List Entry) (fun x => ⟨[(1, .fn (Fn.func (53 : FuncId)) [] [.eptr [.s (sku)]]), (5, .own 1005 0), (8, .sl (List.map c28 es)), (9, .i .i64 ((↑es.length : Int))), (10, .i .i64 (x.fst))], [(1005, ⟨0, 28, .row 4 (List.map c28 x.snd)⟩)]⟩) (fun x ↦ decP es x.fst x.snd) (fun x ↦ invP (fun e ↦ decide (e.sku = sku)) es x.fst x.snd) [1, 5, 8, 9, 10] [1005] (((0 : Int), [])) (by kernel_rfl) (by kernel_rfl) g0 ?_
  rintro ⟨i_0, l_1⟩ h_2
  obtain ⟨h_3, h_4, h_5, h_6⟩ : (0 : Int) ≤ i_0 ∧ i_0 ≤ (↑es.length : Int) ∧ l_1 = List.filter (fun e ↦ decide (e.sku = sku)) (List.take i_0.toNat es) ∧ (↑l_1.length : Int) ≤ i_0 := h_2
  refine st_seq (by kernel_rfl) ?_
  refine st_reg (A := (AV.b (decide (i_0 < (↑es.length : Int))) = AV.b (decide (i_0 < (↑es.length : Int))))) (σ' := ⟨[(1, .fn (Fn.func (53 : FuncId)) [] [.eptr [.s (sku)]]), (5, .own 1005 0), (8, .sl (List.map c28 es)), (9, .i .i64 ((↑es.length : Int))), (10, .i .i64 (i_0)), (11, .b (decide (i_0 < (↑es.length : Int))))], [(1005, ⟨0, 28, .row 4 (List.map c28 l_1)⟩)]⟩) cx [(0, { tell := some (.b (decide (i_0 < (↑es.length : Int)))) })] [1, 5, 8, 9, 10, 11] [1005] (by kernel_rfl) (by kernel_rfl) (by kernel_rfl) ?_
  refine q_seq_normal ?_
  refine st_seq (by kernel_rfl) ?_
  refine st_dec (i_0 < (↑es.length : Int)) (by kernel_rfl) (by kernel_rfl) (fun h_7 => ?_) (fun h_7 => ?_)
  ·
    refine st_skip (by kernel_rfl) ?_
    refine q_seq_normal ?_
    refine st_seq (by kernel_rfl) ?_
    refine st_block 1 (by kernel_rfl) ?_
    refine st_seq (by kernel_rfl) ?_
    refine st_reg (A := ((0 : Int) ≤ i_0) ∧ ((List.map c28 es)[i_0.toNat]? = some (c28 es[i_0.toNat]!)) ∧ ((c28 es[i_0.toNat]!).length = (4 : Nat)) ∧ ((4 : Nat) ≤ [AV.i IntKind.i64 es[i_0.toNat]!.dot.rep, AV.i IntKind.i64 es[i_0.toNat]!.dot.num, AV.s es[i_0.toNat]!.sku, AV.i IntKind.i64 es[i_0.toNat]!.qty].length)) (σ' := ⟨[(1, .fn (Fn.func (53 : FuncId)) [] [.eptr [.s (sku)]]), (5, .own 1005 0), (8, .sl (List.map c28 es)), (9, .i .i64 ((↑es.length : Int))), (10, .i .i64 (i_0)), (7, .ptr (7) (0) (0) (0))], [(1005, ⟨0, 28, .row 4 (List.map c28 l_1)⟩), (7, ⟨0, 28, .var [.i .i64 (es[i_0.toNat]!.dot.rep), .i .i64 (es[i_0.toNat]!.dot.num), .s (es[i_0.toNat]!.sku), .i .i64 (es[i_0.toNat]!.qty)]⟩)]⟩) cx [(0, { row := (c28 es[i_0.toNat]!) })] [1, 5, 8, 9, 10, 7] [1005, 7] (by kernel_rfl) (by kernel_rfl) ⟨(by (with_reducible assumption)), (by (with_reducible refine get_map ?_; omega)), (by kernel_rfl), (by (simp only [List.length_append, List.length_cons, List.length_nil]; omega))⟩ ?_
    refine q_seq_normal ?_
    refine st_seq (by kernel_rfl) ?_
    refine st_reg (A := (Con Try.prog (53 : FuncId) [AV.agg (c28 es[i_0.toNat]!), AV.eptr [AV.s sku]] (AV.b (decide (es[i_0.toNat]!.sku = sku))))) (σ' := ⟨[(1, .fn (Fn.func (53 : FuncId)) [] [.eptr [.s (sku)]]), (5, .own 1005 0), (8, .sl (List.map c28 es)), (9, .i .i64 ((↑es.length : Int))), (10, .i .i64 (i_0)), (7, .ptr (7) (0) (0) (0)), (16, .b (decide (es[i_0.toNat]!.sku = sku)))], [(1005, ⟨0, 28, .row 4 (List.map c28 l_1)⟩), (7, ⟨0, 28, .var [.i .i64 (es[i_0.toNat]!.dot.rep), .i .i64 (es[i_0.toNat]!.dot.num), .s (es[i_0.toNat]!.sku), .i .i64 (es[i_0.toNat]!.qty)]⟩)]⟩) cx [(2, { val := some (.b (decide (es[i_0.toNat]!.sku = sku))) })] [1, 5, 8, 9, 10, 7, 16] [1005, 7] (by kernel_rfl) (by kernel_rfl) (con53 (es[i_0.toNat]!) (sku)) ?_
    refine q_seq_normal ?_
    refine st_dec (es[i_0.toNat]!.sku = sku) (by kernel_rfl) (by kernel_rfl) (fun h_8 => ?_) (fun h_8 => ?_)
    ·
      refine st_reg (A := (28 = (28 : Nat)) ∧ ((4 : Nat) = 4) ∧ ([AV.i IntKind.i64 (0 : Int), AV.i IntKind.i64 (0 : Int), AV.s { data := #[] : ByteArray }, AV.i IntKind.i64 (0 : Int)].length = (4 : Nat)) ∧ (∀ (r : List AV), r ∈ List.map c28 [es[i_0.toNat]!] → r.length = 4) ∧ ((List.map c28 l_1).length + (List.map c28 [es[i_0.toNat]!]).length ≤ maxLen) ∧ (((List.map c28 l_1).length + (List.map c28 [es[i_0.toNat]!]).length) * (40 : Nat) ≤ (140737488355328 : Nat)) ∧ (List.map c28 l_1 ++ List.map c28 [es[i_0.toNat]!] = List.map c28 (l_1 ++ [es[i_0.toNat]!]))) (σ' := ⟨[(1, .fn (Fn.func (53 : FuncId)) [] [.eptr [.s (sku)]]), (5, .own 1005 0), (8, .sl (List.map c28 es)), (9, .i .i64 ((↑es.length : Int))), (10, .i .i64 (i_0))], [(1005, ⟨0, 28, .row 4 (List.map c28 (l_1 ++ [es[i_0.toNat]!]))⟩)]⟩) cx [(3, { rows := some (List.map c28 (l_1 ++ [es[i_0.toNat]!])) })] [1, 5, 8, 9, 10] [1005] (by kernel_rfl) (by kernel_rfl) ⟨(by kernel_rfl), (by kernel_rfl), (by kernel_rfl), (by (with_reducible refine len_map (fun _ => ?_) _; kernel_rfl)), (by (simp only [Go.maxLen, List.length_map, List.length_append, List.length_cons, List.length_nil]; omega)), (by (simp only [Go.maxLen, List.length_map, List.length_append, List.length_cons, List.length_nil]; omega)), (by (with_reducible refine app_map ?_; kernel_rfl))⟩ ?_
      refine q_blk_normal ?_
      refine q_seq_normal ?_
      refine st_reg (A := (AV.i IntKind.i64 (IntKind.i64.wrap (i_0 + (1 : Int))) = AV.i IntKind.i64 (i_0 + (1 : Int)))) (σ' := ⟨[(1, .fn (Fn.func (53 : FuncId)) [] [.eptr [.s (sku)]]), (5, .own 1005 0), (8, .sl (List.map c28 es)), (9, .i .i64 ((↑es.length : Int))), (10, .i .i64 (i_0 + (1 : Int)))], [(1005, ⟨0, 28, .row 4 (List.map c28 (l_1 ++ [es[i_0.toNat]!]))⟩)]⟩) cx [(0, { tell := some (.i .i64 (i_0 + (1 : Int))) })] [1, 5, 8, 9, 10] [1005] (by kernel_rfl) (by kernel_rfl) (told_i64 (by omega) (by omega)) ?_
      refine q_seq_normal ?_
      exact loop_next ((i_0 + (1 : Int), l_1 ++ [es[i_0.toNat]!])) (by kernel_rfl) (show ((↑es.length : Int) - (i_0 + (1 : Int))).toNat < ((↑es.length : Int) - i_0).toNat from (by omega)) (g1 i_0 l_1 h_3 h_4 h_5 h_6 h_7 h_8)
    ·
      refine st_skip (by kernel_rfl) ?_
      refine q_blk_normal ?_
      refine q_seq_normal ?_
      refine st_reg (A := (AV.i IntKind.i64 (IntKind.i64.wrap (i_0 + (1 : Int))) = AV.i IntKind.i64 (i_0 + (1 : Int)))) (σ' := ⟨[(1, .fn (Fn.func (53 : FuncId)) [] [.eptr [.s (sku)]]), (5, .own 1005 0), (8, .sl (List.map c28 es)), (9, .i .i64 ((↑es.length : Int))), (10, .i .i64 (i_0 + (1 : Int)))], [(1005, ⟨0, 28, .row 4 (List.map c28 l_1)⟩)]⟩) cx [(0, { tell := some (.i .i64 (i_0 + (1 : Int))) })] [1, 5, 8, 9, 10] [1005] (by kernel_rfl) (by kernel_rfl) (told_i64 (by omega) (by omega)) ?_
      refine q_seq_normal ?_
      exact loop_next ((i_0 + (1 : Int), l_1)) (by kernel_rfl) (show ((↑es.length : Int) - (i_0 + (1 : Int))).toNat < ((↑es.length : Int) - i_0).toNat from (by omega)) (g2 i_0 l_1 h_3 h_4 h_5 h_6 h_7 h_8)
  ·
    refine st_exit 0 (by kernel_rfl) ?_
    refine q_seq_exit ?_
    refine q_seq_exit ?_
    refine q_blk_hit ?_
    refine q_seq_normal ?_
    refine st_seq (by kernel_rfl) ?_
    refine st_reg (A := True) (σ' := ⟨[(4, .own 1005 0)], [(1005, ⟨0, 28, .row 4 (List.map c28 l_1)⟩)]⟩) cx [] [4] [1005] (by kernel_rfl) (by kernel_rfl) trivial ?_
    refine q_seq_normal ?_
    refine st_ret (by kernel_rfl) ?_
    exact q_ret (r := .sl (List.map c28 l_1)) (obl := []) (by kernel_rfl) trivial (AVle.eq (g3 i_0 l_1 h_3 h_4 h_5 h_6 h_7))
theorem con51_1 (es : List Entry) (sku : ByteArray) (hs : es.length * 40 ≤ 140737488351232) : Con Try.prog 51 [.sl (es.map c28), .fn (.func 53) [] [.eptr [.s sku]]] (.sl ((es.filter (fun e => decide (e.sku = sku))).map c28)) :=
  walk51_1 es sku hs (invP_init _ _) (fun i l h0 h1 h2 h3 h4 h5 => invP_add h0 h2 h3 h4 (decide_eq_true h5)) (fun i l h0 h1 h2 h3 h4 h5 => invP_skip h0 h2 h3 h4 (by simpa using h5)) (fun i l h0 h1 h2 h3 h4 => by rw [invP_done h2 h4])
theorem walk51_2 (es : List Entry) (sku : ByteArray) (rep : Int) (hs : es.length * (40 : Nat) ≤ (140737488351232 : Nat))
    (g0 : invP (fun e ↦ decide (e.sku = sku ∧ e.dot.rep = rep)) es (0 : Int) [])
    (g1 : ∀ (i_0 : Int) (l_1 : List Entry), (0 : Int) ≤ i_0 → i_0 ≤ (↑es.length : Int) → l_1 = List.filter (fun e ↦ decide (e.sku = sku ∧ e.dot.rep = rep)) (List.take i_0.toNat es) → (↑l_1.length : Int) ≤ i_0 → i_0 < (↑es.length : Int) → es[i_0.toNat]!.sku = sku ∧ es[i_0.toNat]!.dot.rep = rep → invP (fun e ↦ decide (e.sku = sku ∧ e.dot.rep = rep)) es (i_0 + (1 : Int)) (l_1 ++ [es[i_0.toNat]!]))
    (g2 : ∀ (i_0 : Int) (l_1 : List Entry), (0 : Int) ≤ i_0 → i_0 ≤ (↑es.length : Int) → l_1 = List.filter (fun e ↦ decide (e.sku = sku ∧ e.dot.rep = rep)) (List.take i_0.toNat es) → (↑l_1.length : Int) ≤ i_0 → i_0 < (↑es.length : Int) → ¬(es[i_0.toNat]!.sku = sku ∧ es[i_0.toNat]!.dot.rep = rep) → invP (fun e ↦ decide (e.sku = sku ∧ e.dot.rep = rep)) es (i_0 + (1 : Int)) l_1)
    (g3 : ∀ (i_0 : Int) (l_1 : List Entry), (0 : Int) ≤ i_0 → i_0 ≤ (↑es.length : Int) → l_1 = List.filter (fun e ↦ decide (e.sku = sku ∧ e.dot.rep = rep)) (List.take i_0.toNat es) → (↑l_1.length : Int) ≤ i_0 → ¬i_0 < (↑es.length : Int) → AV.sl (List.map c28 l_1) = AV.sl (List.map c28 (List.filter (fun e ↦ decide (e.sku = sku ∧ e.dot.rep = rep)) es))) :
    Con Try.prog (51 : FuncId) [AV.sl (List.map c28 es), AV.fn (Fn.func (52 : FuncId)) [] [AV.eptr [AV.s sku], AV.eptr [AV.i IntKind.i64 rep]]] (AV.sl (List.map c28 (List.filter (fun e ↦ decide (e.sku = sku ∧ e.dot.rep = rep)) es))) := by
  refine con_lens 0 (c28) (es) (by kernel_rfl) Go.Proofs.Try.func51 (by kernel_rfl) fun hl_0 => ?_
  refine st_con tab_ok (by kernel_rfl) [.tmp 4] 23 Go.Proofs.Try.func51 (by kernel_rfl) (by kernel_rfl) ?_
  intro e0 cx
  refine st_seq (by kernel_rfl) ?_
  refine st_reg (A := True) (σ' := ⟨[(0, .sl (List.map c28 es)), (1, .fn (Fn.func (52 : FuncId)) [] [.eptr [.s (sku)], .eptr [.i .i64 (rep)]])], []⟩) cx [] [0, 1] [] (by kernel_rfl) (by kernel_rfl) trivial ?_
  refine q_seq_normal ?_
  refine st_seq (by kernel_rfl) ?_
  refine st_reg (A := True) (σ' := ⟨[(0, .sl (List.map c28 es)), (1, .fn (Fn.func (52 : FuncId)) [] [.eptr [.s (sku)], .eptr [.i .i64 (rep)]]), (5, .nl)], []⟩) cx [] [0, 1, 5] [] (by kernel_rfl) (by kernel_rfl) trivial ?_
  refine q_seq_normal ?_
  refine st_seq (by kernel_rfl) ?_
  refine st_seq (by kernel_rfl) ?_
  refine st_reg (A := (AV.i IntKind.i64 (↑(List.map c28 es).length : Int) = AV.i IntKind.i64 (↑es.length : Int))) (σ' := ⟨[(1, .fn (Fn.func (52 : FuncId)) [] [.eptr [.s (sku)], .eptr [.i .i64 (rep)]]), (5, .nl), (8, .sl (List.map c28 es)), (9, .i .i64 ((↑es.length : Int))), (10, .i .i64 ((0 : Int)))], []⟩) cx [(1, { tell := some (.i .i64 ((↑es.length : Int))) })] [1, 5, 8, 9, 10] [] (by kernel_rfl) (by kernel_rfl) (told_len c28 es) ?_
  refine q_seq_normal ?_
  refine st_block 0 (by kernel_rfl) ?_
  refine awp_adopt 5 1005 28 4 (σ' := ⟨[(1, .fn (Fn.func (52 : FuncId)) [] [.eptr [.s (sku)], .eptr [.i .i64 (rep)]]), (5, .own 1005 0), (8, .sl (List.map c28 es)), (9, .i .i64 ((↑es.length : Int))), (10, .i .i64 ((0 : Int)))], [(1005, ⟨0, 28, .row 4 (List.map c28 [])⟩)]⟩) (by kernel_rfl) ?_
  refine st_loop (X := Int × List Entry) (fun x => ⟨[(1, .fn (Fn.func (52 : FuncId)) [] [.eptr [.s (sku)], .eptr [.i .i64 (rep)]]), (5, .own 1005 0), (8, .sl (List.map c28 es)), (9, .i .i64 ((↑es.length : Int))), (10, .i .i64 (x.fst))], [(1005, ⟨0, 28, .row 4 (List.map c28 x.snd)⟩)]⟩) (fun x ↦ decP es x.fst x.snd) (fun x ↦ invP (fun e ↦ decide (e.sku = sku ∧ e.dot.rep = rep)) es x.fst x.snd) [1, 5, 8, 9, 10] [1005] (((0 : Int), [])) (by kernel_rfl) (by kernel_rfl) g0 ?_
  rintro ⟨i_0, l_1⟩ h_2
  obtain ⟨h_3, h_4, h_5, h_6⟩ : (0 : Int) ≤ i_0 ∧ i_0 ≤ (↑es.length : Int) ∧ l_1 = List.filter (fun e ↦ decide (e.sku = sku ∧ e.dot.rep = rep)) (List.take i_0.toNat es) ∧ (↑l_1.length : Int) ≤ i_0 := h_2
  refine st_seq (by kernel_rfl) ?_
  refine st_reg (A := (AV.b (decide (i_0 < (↑es.length : Int))) = AV.b (decide (i_0 < (↑es.length : Int))))) (σ' := ⟨[(1, .fn (Fn.func (52 : FuncId)) [] [.eptr [.s (sku)], .eptr [.i .i64 (rep)]]), (5, .own 1005 0), (8, .sl (List.map c28 es)), (9, .i .i64 ((↑es.length : Int))), (10, .i .i64 (i_0)), (11, .b (decide (i_0 < (↑es.length : Int))))], [(1005, ⟨0, 28, .row 4 (List.map c28 l_1)⟩)]⟩) cx [(0, { tell := some (.b (decide (i_0 < (↑es.length : Int)))) })] [1, 5, 8, 9, 10, 11] [1005] (by kernel_rfl) (by kernel_rfl) (by kernel_rfl) ?_
  refine q_seq_normal ?_
  refine st_seq (by kernel_rfl) ?_
  refine st_dec (i_0 < (↑es.length : Int)) (by kernel_rfl) (by kernel_rfl) (fun h_7 => ?_) (fun h_7 => ?_)
  ·
    refine st_skip (by kernel_rfl) ?_
    refine q_seq_normal ?_
    refine st_seq (by kernel_rfl) ?_
    refine st_block 1 (by kernel_rfl) ?_
    refine st_seq (by kernel_rfl) ?_
    refine st_reg (A := ((0 : Int) ≤ i_0) ∧ ((List.map c28 es)[i_0.toNat]? = some (c28 es[i_0.toNat]!)) ∧ ((c28 es[i_0.toNat]!).length = (4 : Nat)) ∧ ((4 : Nat) ≤ [AV.i IntKind.i64 es[i_0.toNat]!.dot.rep, AV.i IntKind.i64 es[i_0.toNat]!.dot.num, AV.s es[i_0.toNat]!.sku, AV.i IntKind.i64 es[i_0.toNat]!.qty].length)) (σ' := ⟨[(1, .fn (Fn.func (52 : FuncId)) [] [.eptr [.s (sku)], .eptr [.i .i64 (rep)]]), (5, .own 1005 0), (8, .sl (List.map c28 es)), (9, .i .i64 ((↑es.length : Int))), (10, .i .i64 (i_0)), (7, .ptr (7) (0) (0) (0))], [(1005, ⟨0, 28, .row 4 (List.map c28 l_1)⟩), (7, ⟨0, 28, .var [.i .i64 (es[i_0.toNat]!.dot.rep), .i .i64 (es[i_0.toNat]!.dot.num), .s (es[i_0.toNat]!.sku), .i .i64 (es[i_0.toNat]!.qty)]⟩)]⟩) cx [(0, { row := (c28 es[i_0.toNat]!) })] [1, 5, 8, 9, 10, 7] [1005, 7] (by kernel_rfl) (by kernel_rfl) ⟨(by (with_reducible assumption)), (by (with_reducible refine get_map ?_; omega)), (by kernel_rfl), (by (simp only [List.length_append, List.length_cons, List.length_nil]; omega))⟩ ?_
    refine q_seq_normal ?_
    refine st_seq (by kernel_rfl) ?_
    refine st_reg (A := (Con Try.prog (52 : FuncId) [AV.agg (c28 es[i_0.toNat]!), AV.eptr [AV.s sku], AV.eptr [AV.i IntKind.i64 rep]] (AV.b (decide (es[i_0.toNat]!.sku = sku ∧ es[i_0.toNat]!.dot.rep = rep))))) (σ' := ⟨[(1, .fn (Fn.func (52 : FuncId)) [] [.eptr [.s (sku)], .eptr [.i .i64 (rep)]]), (5, .own 1005 0), (8, .sl (List.map c28 es)), (9, .i .i64 ((↑es.length : Int))), (10, .i .i64 (i_0)), (7, .ptr (7) (0) (0) (0)), (16, .b (decide (es[i_0.toNat]!.sku = sku ∧ es[i_0.toNat]!.dot.rep = rep)))], [(1005, ⟨0, 28, .row 4 (List.map c28 l_1)⟩), (7, ⟨0, 28, .var [.i .i64 (es[i_0.toNat]!.dot.rep), .i .i64 (es[i_0.toNat]!.dot.num), .s (es[i_0.toNat]!.sku), .i .i64 (es[i_0.toNat]!.qty)]⟩)]⟩) cx [(2, { val := some (.b (decide (es[i_0.toNat]!.sku = sku ∧ es[i_0.toNat]!.dot.rep = rep))) })] [1, 5, 8, 9, 10, 7, 16] [1005, 7] (by kernel_rfl) (by kernel_rfl) (con52 (es[i_0.toNat]!) (sku) (rep)) ?_
    refine q_seq_normal ?_
    refine st_dec (es[i_0.toNat]!.sku = sku ∧ es[i_0.toNat]!.dot.rep = rep) (by kernel_rfl) (by kernel_rfl) (fun h_8 => ?_) (fun h_8 => ?_)
    ·
      refine st_reg (A := (28 = (28 : Nat)) ∧ ((4 : Nat) = 4) ∧ ([AV.i IntKind.i64 (0 : Int), AV.i IntKind.i64 (0 : Int), AV.s { data := #[] : ByteArray }, AV.i IntKind.i64 (0 : Int)].length = (4 : Nat)) ∧ (∀ (r : List AV), r ∈ List.map c28 [es[i_0.toNat]!] → r.length = 4) ∧ ((List.map c28 l_1).length + (List.map c28 [es[i_0.toNat]!]).length ≤ maxLen) ∧ (((List.map c28 l_1).length + (List.map c28 [es[i_0.toNat]!]).length) * (40 : Nat) ≤ (140737488355328 : Nat)) ∧ (List.map c28 l_1 ++ List.map c28 [es[i_0.toNat]!] = List.map c28 (l_1 ++ [es[i_0.toNat]!]))) (σ' := ⟨[(1, .fn (Fn.func (52 : FuncId)) [] [.eptr [.s (sku)], .eptr [.i .i64 (rep)]]), (5, .own 1005 0), (8, .sl (List.map c28 es)), (9, .i .i64 ((↑es.length : Int))), (10, .i .i64 (i_0))], [(1005, ⟨0, 28, .row 4 (List.map c28 (l_1 ++ [es[i_0.toNat]!]))⟩)]⟩) cx [(3, { rows := some (List.map c28 (l_1 ++ [es[i_0.toNat]!])) })] [1, 5, 8, 9, 10] [1005] (by kernel_rfl) (by kernel_rfl) ⟨(by kernel_rfl), (by kernel_rfl), (by kernel_rfl), (by (with_reducible refine len_map (fun _ => ?_) _; kernel_rfl)), (by (simp only [Go.maxLen, List.length_map, List.length_append, List.length_cons, List.length_nil]; omega)), (by (simp only [Go.maxLen, List.length_map, List.length_append, List.length_cons, List.length_nil]; omega)), (by (with_reducible refine app_map ?_; kernel_rfl))⟩ ?_
      refine q_blk_normal ?_
      refine q_seq_normal ?_
      refine st_reg (A := (AV.i IntKind.i64 (IntKind.i64.wrap (i_0 + (1 : Int))) = AV.i IntKind.i64 (i_0 + (1 : Int)))) (σ' := ⟨[(1, .fn (Fn.func (52 : FuncId)) [] [.eptr [.s (sku)], .eptr [.i .i64 (rep)]]), (5, .own 1005 0), (8, .sl (List.map c28 es)), (9, .i .i64 ((↑es.length : Int))), (10, .i .i64 (i_0 + (1 : Int)))], [(1005, ⟨0, 28, .row 4 (List.map c28 (l_1 ++ [es[i_0.toNat]!]))⟩)]⟩) cx [(0, { tell := some (.i .i64 (i_0 + (1 : Int))) })] [1, 5, 8, 9, 10] [1005] (by kernel_rfl) (by kernel_rfl) (told_i64 (by omega) (by omega)) ?_
      refine q_seq_normal ?_
      exact loop_next ((i_0 + (1 : Int), l_1 ++ [es[i_0.toNat]!])) (by kernel_rfl) (show ((↑es.length : Int) - (i_0 + (1 : Int))).toNat < ((↑es.length : Int) - i_0).toNat from (by omega)) (g1 i_0 l_1 h_3 h_4 h_5 h_6 h_7 h_8)
    ·
      refine st_skip (by kernel_rfl) ?_
      refine q_blk_normal ?_
      refine q_seq_normal ?_
      refine st_reg (A := (AV.i IntKind.i64 (IntKind.i64.wrap (i_0 + (1 : Int))) = AV.i IntKind.i64 (i_0 + (1 : Int)))) (σ' := ⟨[(1, .fn (Fn.func (52 : FuncId)) [] [.eptr [.s (sku)], .eptr [.i .i64 (rep)]]), (5, .own 1005 0), (8, .sl (List.map c28 es)), (9, .i .i64 ((↑es.length : Int))), (10, .i .i64 (i_0 + (1 : Int)))], [(1005, ⟨0, 28, .row 4 (List.map c28 l_1)⟩)]⟩) cx [(0, { tell := some (.i .i64 (i_0 + (1 : Int))) })] [1, 5, 8, 9, 10] [1005] (by kernel_rfl) (by kernel_rfl) (told_i64 (by omega) (by omega)) ?_
      refine q_seq_normal ?_
      exact loop_next ((i_0 + (1 : Int), l_1)) (by kernel_rfl) (show ((↑es.length : Int) - (i_0 + (1 : Int))).toNat < ((↑es.length : Int) - i_0).toNat from (by omega)) (g2 i_0 l_1 h_3 h_4 h_5 h_6 h_7 h_8)
  ·
    refine st_exit 0 (by kernel_rfl) ?_
    refine q_seq_exit ?_
    refine q_seq_exit ?_
    refine q_blk_hit ?_
    refine q_seq_normal ?_
    refine st_seq (by kernel_rfl) ?_
    refine st_reg (A := True) (σ' := ⟨[(4, .own 1005 0)], [(1005, ⟨0, 28, .row 4 (List.map c28 l_1)⟩)]⟩) cx [] [4] [1005] (by kernel_rfl) (by kernel_rfl) trivial ?_
    refine q_seq_normal ?_
    refine st_ret (by kernel_rfl) ?_
    exact q_ret (r := .sl (List.map c28 l_1)) (obl := []) (by kernel_rfl) trivial (AVle.eq (g3 i_0 l_1 h_3 h_4 h_5 h_6 h_7))
theorem con51_2 (es : List Entry) (sku : ByteArray) (rep : Int) (hs : es.length * 40 ≤ 140737488351232) : Con Try.prog 51 [.sl (es.map c28), .fn (.func 52) [] [.eptr [.s sku], .eptr [.i .i64 rep]]] (.sl ((es.filter (fun e => decide (e.sku = sku ∧ e.dot.rep = rep))).map c28)) :=
  walk51_2 es sku rep hs (invP_init _ _) (fun i l h0 h1 h2 h3 h4 h5 => invP_add h0 h2 h3 h4 (decide_eq_true h5)) (fun i l h0 h1 h2 h3 h4 h5 => invP_skip h0 h2 h3 h4 (by simpa using h5)) (fun i l h0 h1 h2 h3 h4 => by rw [invP_done h2 h4])
theorem walk23 (es : List Entry) (sku : ByteArray) (hs : es.length * (40 : Nat) ≤ (140737488351232 : Nat))
    (g0 : ¬lstE es = (0 : Int) → AV.i IntKind.i64 (1 : Int) = AV.i IntKind.i64 (ofV es sku).snd)
    (g1 : ¬lstE es = (0 : Int) → List.map c28 (ofV es sku).fst = [])
    (g2 : ¬¬lstE es = (0 : Int) → ¬good sku = true → AV.i IntKind.i64 (5 : Int) = AV.i IntKind.i64 (ofV es sku).snd)
    (g3 : ¬¬lstE es = (0 : Int) → ¬good sku = true → List.map c28 (ofV es sku).fst = [])
    (g4 : ¬¬lstE es = (0 : Int) → ¬¬good sku = true → AV.i IntKind.i64 (0 : Int) = AV.i IntKind.i64 (ofV es sku).snd)
    (g5 : ¬¬lstE es = (0 : Int) → ¬¬good sku = true → AV.sl (List.map c28 (List.filter (fun e ↦ decide (e.sku = sku)) es)) = AV.sl (List.map c28 (ofV es sku).fst)) :
    Con Try.prog (23 : FuncId) [AV.sl (List.map c28 es), AV.s sku] (AV.tup [AV.sl (List.map c28 (ofV es sku).fst), AV.i IntKind.i64 (ofV es sku).snd]) := by
  refine con_lens 0 (c28) (es) (by kernel_rfl) Go.Proofs.Try.func23 (by kernel_rfl) fun hl_0 => ?_
  refine st_con tab_ok (by kernel_rfl) [.tmp 4, .tmp 5] 15 Go.Proofs.Try.func23 (by kernel_rfl) (by kernel_rfl) ?_
  intro e0 cx
  refine st_seq (by kernel_rfl) ?_
  refine st_reg (A := True) (σ' := ⟨[(0, .sl (List.map c28 es)), (3, .ptr (3) (0) (0) (0))], [(3, ⟨0, 9, .var [.s (sku)]⟩)]⟩) cx [] [0, 3] [3] (by kernel_rfl) (by kernel_rfl) trivial ?_
  refine q_seq_normal ?_
  refine st_seq (by kernel_rfl) ?_
  refine st_seq (by kernel_rfl) ?_
  refine st_reg (A := (Con Try.prog (16 : FuncId) [AV.sl (List.map c28 es)] (AV.i IntKind.i64 (lstE es))) ∧ (AV.b (lstE es != (0 : Int)) = AV.b (decide ¬lstE es = (0 : Int)))) (σ' := ⟨[(0, .sl (List.map c28 es)), (3, .ptr (3) (0) (0) (0)), (8, .b (decide ¬lstE es = (0 : Int)))], [(3, ⟨0, 9, .var [.s (sku)]⟩)]⟩) cx [(1, { val := some (.i .i64 (lstE es)) }), (2, { tell := some (.b (decide ¬lstE es = (0 : Int))) })] [0, 3, 8] [3] (by kernel_rfl) (by kernel_rfl) ⟨(con16 (es)), (told_neq)⟩ ?_
  refine q_seq_normal ?_
  refine st_dec (¬lstE es = (0 : Int)) (by kernel_rfl) (by kernel_rfl) (fun h_0 => ?_) (fun h_0 => ?_)
  ·
    refine st_seq (by kernel_rfl) ?_
    refine st_reg (A := True) (σ' := ⟨[(4, .nl), (5, .i .i64 ((1 : Int)))], []⟩) cx [] [4, 5] [] (by kernel_rfl) (by kernel_rfl) trivial ?_
    refine q_seq_normal ?_
    refine st_ret (by kernel_rfl) ?_
    refine q_seq_ret ?_
    exact q_ret (r := .tup [.nl, .i .i64 ((1 : Int))]) (obl := []) (by kernel_rfl) trivial (AVle.tup (ZLe.cons (AVle.nl' (g1 h_0)) (ZLe.cons (AVle.eq (g0 h_0)) ZLe.nil)))
  ·
    refine st_skip (by kernel_rfl) ?_
    refine q_seq_normal ?_
    refine st_seq (by kernel_rfl) ?_
    refine st_seq (by kernel_rfl) ?_
    refine st_reg (A := (Con Try.prog (47 : FuncId) [AV.s sku] (AV.b (good sku))) ∧ ((AV.b !good sku) = AV.b (decide ¬good sku = true))) (σ' := ⟨[(0, .sl (List.map c28 es)), (3, .ptr (3) (0) (0) (0)), (11, .b (decide ¬good sku = true))], [(3, ⟨0, 9, .var [.s (sku)]⟩)]⟩) cx [(1, { val := some (.b (good sku)) }), (2, { tell := some (.b (decide ¬good sku = true)) })] [0, 3, 11] [3] (by kernel_rfl) (by kernel_rfl) ⟨(con47 (sku)), (told_not)⟩ ?_
    refine q_seq_normal ?_
    refine st_dec (¬good sku = true) (by kernel_rfl) (by kernel_rfl) (fun h_1 => ?_) (fun h_1 => ?_)
    ·
      refine st_seq (by kernel_rfl) ?_
      refine st_reg (A := True) (σ' := ⟨[(4, .nl), (5, .i .i64 ((5 : Int)))], []⟩) cx [] [4, 5] [] (by kernel_rfl) (by kernel_rfl) trivial ?_
      refine q_seq_normal ?_
      refine st_ret (by kernel_rfl) ?_
      refine q_seq_ret ?_
      exact q_ret (r := .tup [.nl, .i .i64 ((5 : Int))]) (obl := []) (by kernel_rfl) trivial (AVle.tup (ZLe.cons (AVle.nl' (g3 h_0 h_1)) (ZLe.cons (AVle.eq (g2 h_0 h_1)) ZLe.nil)))
    ·
      refine st_skip (by kernel_rfl) ?_
      refine q_seq_normal ?_
      refine st_seq (by kernel_rfl) ?_
      refine st_reg (A := (Con Try.prog (51 : FuncId) [AV.sl (List.map c28 es), AV.fn (Fn.func (53 : FuncId)) [] [AV.eptr [AV.s sku]]] (AV.sl (List.map c28 (List.filter (fun e ↦ decide (e.sku = sku)) es))))) (σ' := ⟨[(4, .sl (List.map c28 (List.filter (fun e ↦ decide (e.sku = sku)) es))), (5, .i .i64 ((0 : Int)))], []⟩) cx [(2, { val := some (.sl (List.map c28 (List.filter (fun e ↦ decide (e.sku = sku)) es))) })] [4, 5] [] (by kernel_rfl) (by kernel_rfl) (con51_1 (es) (sku) (by (with_reducible assumption))) ?_
      refine q_seq_normal ?_
      refine st_ret (by kernel_rfl) ?_
      exact q_ret (r := .tup [.sl (List.map c28 (List.filter (fun e ↦ decide (e.sku = sku)) es)), .i .i64 ((0 : Int))]) (obl := []) (by kernel_rfl) trivial (AVle.tup (ZLe.cons (AVle.eq (g5 h_0 h_1)) (ZLe.cons (AVle.eq (g4 h_0 h_1)) ZLe.nil)))
theorem con23 (es : List Entry) (sku : ByteArray) (hs : es.length * 40 ≤ 140737488351232) : Con Try.prog 23 [.sl (es.map c28), .s sku] (.tup [.sl ((ofV es sku).1.map c28), .i .i64 (ofV es sku).2]) :=
  walk23 es sku hs (fun h => by rw [ofV_form h]) (fun h => by rw [ofV_form h]; rfl) (fun h g => by rw [ofV_sku (Classical.not_not.1 h) g]) (fun h g => by rw [ofV_sku (Classical.not_not.1 h) g]; rfl)
    (fun h g => by rw [ofV_ok (Classical.not_not.1 h) (Classical.not_not.1 g)]) (fun h g => by rw [ofV_ok (Classical.not_not.1 h) (Classical.not_not.1 g)])
theorem walk20 (es : List Entry) (rep : Int) (sku : ByteArray) (hs : es.length * (40 : Nat) ≤ (140737488351232 : Nat))
    (g0 : ¬lstE es = (0 : Int) → AV.i IntKind.i64 (1 : Int) = AV.i IntKind.i64 (ownV es rep sku).snd)
    (g1 : ¬lstE es = (0 : Int) → List.map c28 (ownV es rep sku).fst = [])
    (g2 : ¬¬lstE es = (0 : Int) → rep < (0 : Int) ∨ (16 : Int) ≤ rep → AV.i IntKind.i64 (3 : Int) = AV.i IntKind.i64 (ownV es rep sku).snd)
    (g3 : ¬¬lstE es = (0 : Int) → rep < (0 : Int) ∨ (16 : Int) ≤ rep → List.map c28 (ownV es rep sku).fst = [])
    (g4 : ¬¬lstE es = (0 : Int) → ¬(rep < (0 : Int) ∨ (16 : Int) ≤ rep) → ¬good sku = true → AV.i IntKind.i64 (5 : Int) = AV.i IntKind.i64 (ownV es rep sku).snd)
    (g5 : ¬¬lstE es = (0 : Int) → ¬(rep < (0 : Int) ∨ (16 : Int) ≤ rep) → ¬good sku = true → List.map c28 (ownV es rep sku).fst = [])
    (g6 : ¬¬lstE es = (0 : Int) → ¬(rep < (0 : Int) ∨ (16 : Int) ≤ rep) → ¬¬good sku = true → AV.i IntKind.i64 (0 : Int) = AV.i IntKind.i64 (ownV es rep sku).snd)
    (g7 : ¬¬lstE es = (0 : Int) → ¬(rep < (0 : Int) ∨ (16 : Int) ≤ rep) → ¬¬good sku = true → AV.sl (List.map c28 (List.filter (fun e ↦ decide (e.sku = sku ∧ e.dot.rep = rep)) es)) = AV.sl (List.map c28 (ownV es rep sku).fst)) :
    Con Try.prog (20 : FuncId) [AV.sl (List.map c28 es), AV.i IntKind.i64 rep, AV.s sku] (AV.tup [AV.sl (List.map c28 (ownV es rep sku).fst), AV.i IntKind.i64 (ownV es rep sku).snd]) := by
  refine con_lens 0 (c28) (es) (by kernel_rfl) Go.Proofs.Try.func20 (by kernel_rfl) fun hl_0 => ?_
  refine st_con tab_ok (by kernel_rfl) [.tmp 6, .tmp 7] 23 Go.Proofs.Try.func20 (by kernel_rfl) (by kernel_rfl) ?_
  intro e0 cx
  refine st_seq (by kernel_rfl) ?_
  refine st_reg (A := True) (σ' := ⟨[(0, .sl (List.map c28 es)), (4, .ptr (4) (0) (0) (0)), (5, .ptr (5) (0) (0) (0))], [(4, ⟨0, 3, .var [.i .i64 (rep)]⟩), (5, ⟨0, 9, .var [.s (sku)]⟩)]⟩) cx [] [0, 4, 5] [4, 5] (by kernel_rfl) (by kernel_rfl) trivial ?_
  refine q_seq_normal ?_
  refine st_seq (by kernel_rfl) ?_
  refine st_seq (by kernel_rfl) ?_
  refine st_reg (A := (Con Try.prog (16 : FuncId) [AV.sl (List.map c28 es)] (AV.i IntKind.i64 (lstE es))) ∧ (AV.b (lstE es != (0 : Int)) = AV.b (decide ¬lstE es = (0 : Int)))) (σ' := ⟨[(0, .sl (List.map c28 es)), (4, .ptr (4) (0) (0) (0)), (5, .ptr (5) (0) (0) (0)), (10, .b (decide ¬lstE es = (0 : Int)))], [(4, ⟨0, 3, .var [.i .i64 (rep)]⟩), (5, ⟨0, 9, .var [.s (sku)]⟩)]⟩) cx [(1, { val := some (.i .i64 (lstE es)) }), (2, { tell := some (.b (decide ¬lstE es = (0 : Int))) })] [0, 4, 5, 10] [4, 5] (by kernel_rfl) (by kernel_rfl) ⟨(con16 (es)), (told_neq)⟩ ?_
  refine q_seq_normal ?_
  refine st_dec (¬lstE es = (0 : Int)) (by kernel_rfl) (by kernel_rfl) (fun h_0 => ?_) (fun h_0 => ?_)
  ·
    refine st_seq (by kernel_rfl) ?_
    refine st_reg (A := True) (σ' := ⟨[(6, .nl), (7, .i .i64 ((1 : Int)))], []⟩) cx [] [6, 7] [] (by kernel_rfl) (by kernel_rfl) trivial ?_
    refine q_seq_normal ?_
    refine st_ret (by kernel_rfl) ?_
    refine q_seq_ret ?_
    exact q_ret (r := .tup [.nl, .i .i64 ((1 : Int))]) (obl := []) (by kernel_rfl) trivial (AVle.tup (ZLe.cons (AVle.nl' (g1 h_0)) (ZLe.cons (AVle.eq (g0 h_0)) ZLe.nil)))
  ·
    refine st_skip (by kernel_rfl) ?_
    refine q_seq_normal ?_
    refine st_seq (by kernel_rfl) ?_
    refine st_seq (by kernel_rfl) ?_
    refine st_join (σ' := ⟨[(0, .sl (List.map c28 es)), (4, .ptr (4) (0) (0) (0)), (5, .ptr (5) (0) (0) (0)), (16, .b (decide (rep < (0 : Int) ∨ (16 : Int) ≤ rep)))], [(4, ⟨0, 3, .var [.i .i64 (rep)]⟩), (5, ⟨0, 9, .var [.s (sku)]⟩)]⟩) ?_ ?_
    ·
      refine st_split (rep < (0 : Int)) (fun h_2 => ?_) (fun h_2 => ?_)
      ·
        refine st_reg (A := (AV.b (decide (rep < (0 : Int))) = AV.b true) ∧ (AV.b true = AV.b (decide (rep < (0 : Int) ∨ (16 : Int) ≤ rep)))) (σ' := ⟨[(0, .sl (List.map c28 es)), (4, .ptr (4) (0) (0) (0)), (5, .ptr (5) (0) (0) (0)), (16, .b (decide (rep < (0 : Int) ∨ (16 : Int) ≤ rep)))], [(4, ⟨0, 3, .var [.i .i64 (rep)]⟩), (5, ⟨0, 9, .var [.s (sku)]⟩)]⟩) cx [(1, { tell := some (.b (true)) }), (5, { tell := some (.b (decide (rep < (0 : Int) ∨ (16 : Int) ≤ rep))) })] [0, 4, 5, 16] [4, 5] (by kernel_rfl) (by kernel_rfl) ⟨(told_true h_2), (by simp only [eq_true h_2, told_simp1, told_simp2, and_true, true_and, and_false, false_and, or_true, true_or, or_false, false_or, not_true_eq_false, not_false_eq_true, decide_true, decide_false, Bool.decide_eq_true])⟩ ?_
        exact ⟨rfl, rfl⟩
      ·
        refine st_reg (A := (AV.b (decide (rep < (0 : Int))) = AV.b false) ∧ (AV.b (decide (rep ≥ (16 : Int))) = AV.b (decide ((16 : Int) ≤ rep))) ∧ (AV.b (decide ((16 : Int) ≤ rep)) = AV.b (decide (rep < (0 : Int) ∨ (16 : Int) ≤ rep)))) (σ' := ⟨[(0, .sl (List.map c28 es)), (4, .ptr (4) (0) (0) (0)), (5, .ptr (5) (0) (0) (0)), (16, .b (decide (rep < (0 : Int) ∨ (16 : Int) ≤ rep)))], [(4, ⟨0, 3, .var [.i .i64 (rep)]⟩), (5, ⟨0, 9, .var [.s (sku)]⟩)]⟩) cx [(1, { tell := some (.b (false)) }), (4, { tell := some (.b (decide ((16 : Int) ≤ rep))) }), (5, { tell := some (.b (decide (rep < (0 : Int) ∨ (16 : Int) ≤ rep))) })] [0, 4, 5, 16] [4, 5] (by kernel_rfl) (by kernel_rfl) ⟨(told_false h_2), (by kernel_rfl), (by simp only [eq_false h_2, told_simp1, told_simp2, and_true, true_and, and_false, false_and, or_true, true_or, or_false, false_or, not_true_eq_false, not_false_eq_true, decide_true, decide_false, Bool.decide_eq_true])⟩ ?_
        exact ⟨rfl, rfl⟩
    ·
      refine q_seq_normal ?_
      refine st_dec (rep < (0 : Int) ∨ (16 : Int) ≤ rep) (by kernel_rfl) (by kernel_rfl) (fun h_3 => ?_) (fun h_3 => ?_)
      ·
        refine st_seq (by kernel_rfl) ?_
        refine st_reg (A := True) (σ' := ⟨[(6, .nl), (7, .i .i64 ((3 : Int)))], []⟩) cx [] [6, 7] [] (by kernel_rfl) (by kernel_rfl) trivial ?_
        refine q_seq_normal ?_
        refine st_ret (by kernel_rfl) ?_
        refine q_seq_ret ?_
        exact q_ret (r := .tup [.nl, .i .i64 ((3 : Int))]) (obl := []) (by kernel_rfl) trivial (AVle.tup (ZLe.cons (AVle.nl' (g3 h_0 h_3)) (ZLe.cons (AVle.eq (g2 h_0 h_3)) ZLe.nil)))
      ·
        refine st_skip (by kernel_rfl) ?_
        refine q_seq_normal ?_
        refine st_seq (by kernel_rfl) ?_
        refine st_seq (by kernel_rfl) ?_
        refine st_reg (A := (Con Try.prog (47 : FuncId) [AV.s sku] (AV.b (good sku))) ∧ ((AV.b !good sku) = AV.b (decide ¬good sku = true))) (σ' := ⟨[(0, .sl (List.map c28 es)), (4, .ptr (4) (0) (0) (0)), (5, .ptr (5) (0) (0) (0)), (19, .b (decide ¬good sku = true))], [(4, ⟨0, 3, .var [.i .i64 (rep)]⟩), (5, ⟨0, 9, .var [.s (sku)]⟩)]⟩) cx [(1, { val := some (.b (good sku)) }), (2, { tell := some (.b (decide ¬good sku = true)) })] [0, 4, 5, 19] [4, 5] (by kernel_rfl) (by kernel_rfl) ⟨(con47 (sku)), (told_not)⟩ ?_
        refine q_seq_normal ?_
        refine st_dec (¬good sku = true) (by kernel_rfl) (by kernel_rfl) (fun h_4 => ?_) (fun h_4 => ?_)
        ·
          refine st_seq (by kernel_rfl) ?_
          refine st_reg (A := True) (σ' := ⟨[(6, .nl), (7, .i .i64 ((5 : Int)))], []⟩) cx [] [6, 7] [] (by kernel_rfl) (by kernel_rfl) trivial ?_
          refine q_seq_normal ?_
          refine st_ret (by kernel_rfl) ?_
          refine q_seq_ret ?_
          exact q_ret (r := .tup [.nl, .i .i64 ((5 : Int))]) (obl := []) (by kernel_rfl) trivial (AVle.tup (ZLe.cons (AVle.nl' (g5 h_0 h_3 h_4)) (ZLe.cons (AVle.eq (g4 h_0 h_3 h_4)) ZLe.nil)))
        ·
          refine st_skip (by kernel_rfl) ?_
          refine q_seq_normal ?_
          refine st_seq (by kernel_rfl) ?_
          refine st_reg (A := (Con Try.prog (51 : FuncId) [AV.sl (List.map c28 es), AV.fn (Fn.func (52 : FuncId)) [] [AV.eptr [AV.s sku], AV.eptr [AV.i IntKind.i64 rep]]] (AV.sl (List.map c28 (List.filter (fun e ↦ decide (e.sku = sku ∧ e.dot.rep = rep)) es))))) (σ' := ⟨[(6, .sl (List.map c28 (List.filter (fun e ↦ decide (e.sku = sku ∧ e.dot.rep = rep)) es))), (7, .i .i64 ((0 : Int)))], []⟩) cx [(2, { val := some (.sl (List.map c28 (List.filter (fun e ↦ decide (e.sku = sku ∧ e.dot.rep = rep)) es))) })] [6, 7] [] (by kernel_rfl) (by kernel_rfl) (con51_2 (es) (sku) (rep) (by (with_reducible assumption))) ?_
          refine q_seq_normal ?_
          refine st_ret (by kernel_rfl) ?_
          exact q_ret (r := .tup [.sl (List.map c28 (List.filter (fun e ↦ decide (e.sku = sku ∧ e.dot.rep = rep)) es)), .i .i64 ((0 : Int))]) (obl := []) (by kernel_rfl) trivial (AVle.tup (ZLe.cons (AVle.eq (g7 h_0 h_3 h_4)) (ZLe.cons (AVle.eq (g6 h_0 h_3 h_4)) ZLe.nil)))
theorem con20 (es : List Entry) (rep : Int) (sku : ByteArray) (hs : es.length * 40 ≤ 140737488351232) : Con Try.prog 20 [.sl (es.map c28), .i .i64 rep, .s sku] (.tup [.sl ((ownV es rep sku).1.map c28), .i .i64 (ownV es rep sku).2]) :=
  walk20 es rep sku hs (fun h => by rw [ownV_form h]) (fun h => by rw [ownV_form h]; rfl) (fun h g => by rw [ownV_rep (Classical.not_not.1 h) g]) (fun h g => by rw [ownV_rep (Classical.not_not.1 h) g]; rfl)
    (fun h r g => by rw [ownV_sku (Classical.not_not.1 h) r g]) (fun h r g => by rw [ownV_sku (Classical.not_not.1 h) r g]; rfl)
    (fun h r g => by rw [ownV_ok (Classical.not_not.1 h) r (Classical.not_not.1 g)]) (fun h r g => by rw [ownV_ok (Classical.not_not.1 h) r (Classical.not_not.1 g)])
theorem walk21 (es : List Entry) (sku : ByteArray) (hs : es.length * (40 : Nat) ≤ (140737488351232 : Nat))
    (g0 : ¬lstE es = (0 : Int) → AV.i IntKind.i64 (1 : Int) = AV.i IntKind.i64 (ofV es sku).snd)
    (g1 : ¬lstE es = (0 : Int) → List.map c28 (ofV es sku).fst = [])
    (g2 : ¬¬lstE es = (0 : Int) → ¬good sku = true → AV.i IntKind.i64 (5 : Int) = AV.i IntKind.i64 (ofV es sku).snd)
    (g3 : ¬¬lstE es = (0 : Int) → ¬good sku = true → List.map c28 (ofV es sku).fst = [])
    (g4 : ¬¬lstE es = (0 : Int) → ¬¬good sku = true → invP (fun e ↦ decide (e.sku = sku)) es (0 : Int) [])
    (g5 : ¬¬lstE es = (0 : Int) → ¬¬good sku = true → ∀ (i_2 : Int) (l_3 : List Entry), (0 : Int) ≤ i_2 → i_2 ≤ (↑es.length : Int) → l_3 = List.filter (fun e ↦ decide (e.sku = sku)) (List.take i_2.toNat es) → (↑l_3.length : Int) ≤ i_2 → i_2 < (↑es.length : Int) → es[i_2.toNat]!.sku = sku → invP (fun e ↦ decide (e.sku = sku)) es (i_2 + (1 : Int)) (l_3 ++ [es[i_2.toNat]!]))
    (g6 : ¬¬lstE es = (0 : Int) → ¬¬good sku = true → ∀ (i_2 : Int) (l_3 : List Entry), (0 : Int) ≤ i_2 → i_2 ≤ (↑es.length : Int) → l_3 = List.filter (fun e ↦ decide (e.sku = sku)) (List.take i_2.toNat es) → (↑l_3.length : Int) ≤ i_2 → i_2 < (↑es.length : Int) → ¬es[i_2.toNat]!.sku = sku → invP (fun e ↦ decide (e.sku = sku)) es (i_2 + (1 : Int)) l_3)
    (g7 : ¬¬lstE es = (0 : Int) → ¬¬good sku = true → ∀ (i_2 : Int) (l_3 : List Entry), (0 : Int) ≤ i_2 → i_2 ≤ (↑es.length : Int) → l_3 = List.filter (fun e ↦ decide (e.sku = sku)) (List.take i_2.toNat es) → (↑l_3.length : Int) ≤ i_2 → ¬i_2 < (↑es.length : Int) → AV.i IntKind.i64 (0 : Int) = AV.i IntKind.i64 (ofV es sku).snd)
    (g8 : ¬¬lstE es = (0 : Int) → ¬¬good sku = true → ∀ (i_2 : Int) (l_3 : List Entry), (0 : Int) ≤ i_2 → i_2 ≤ (↑es.length : Int) → l_3 = List.filter (fun e ↦ decide (e.sku = sku)) (List.take i_2.toNat es) → (↑l_3.length : Int) ≤ i_2 → ¬i_2 < (↑es.length : Int) → AV.sl (List.map c28 l_3) = AV.sl (List.map c28 (ofV es sku).fst)) :
    Con Try.prog (21 : FuncId) [AV.sl (List.map c28 es), AV.s sku] (AV.tup [AV.sl (List.map c28 (ofV es sku).fst), AV.i IntKind.i64 (ofV es sku).snd]) := by
  refine con_lens 0 (c28) (es) (by kernel_rfl) Go.Proofs.Try.func21 (by kernel_rfl) fun hl_0 => ?_
  refine st_con tab_ok (by kernel_rfl) [.tmp 4, .tmp 5] 35 Go.Proofs.Try.func21 (by kernel_rfl) (by kernel_rfl) ?_
  intro e0 cx
  refine st_seq (by kernel_rfl) ?_
  refine st_reg (A := True) (σ' := ⟨[(0, .sl (List.map c28 es)), (1, .s (sku))], []⟩) cx [] [0, 1] [] (by kernel_rfl) (by kernel_rfl) trivial ?_
  refine q_seq_normal ?_
  refine st_seq (by kernel_rfl) ?_
  refine st_seq (by kernel_rfl) ?_
  refine st_reg (A := (Con Try.prog (18 : FuncId) [AV.sl (List.map c28 es)] (AV.i IntKind.i64 (lstE es))) ∧ (AV.b (lstE es != (0 : Int)) = AV.b (decide ¬lstE es = (0 : Int)))) (σ' := ⟨[(0, .sl (List.map c28 es)), (1, .s (sku)), (10, .b (decide ¬lstE es = (0 : Int)))], []⟩) cx [(1, { val := some (.i .i64 (lstE es)) }), (2, { tell := some (.b (decide ¬lstE es = (0 : Int))) })] [0, 1, 10] [] (by kernel_rfl) (by kernel_rfl) ⟨(con18 (es)), (told_neq)⟩ ?_
  refine q_seq_normal ?_
  refine st_dec (¬lstE es = (0 : Int)) (by kernel_rfl) (by kernel_rfl) (fun h_0 => ?_) (fun h_0 => ?_)
  ·
    refine st_seq (by kernel_rfl) ?_
    refine st_reg (A := True) (σ' := ⟨[(4, .nl), (5, .i .i64 ((1 : Int)))], []⟩) cx [] [4, 5] [] (by kernel_rfl) (by kernel_rfl) trivial ?_
    refine q_seq_normal ?_
    refine st_ret (by kernel_rfl) ?_
    refine q_seq_ret ?_
    exact q_ret (r := .tup [.nl, .i .i64 ((1 : Int))]) (obl := []) (by kernel_rfl) trivial (AVle.tup (ZLe.cons (AVle.nl' (g1 h_0)) (ZLe.cons (AVle.eq (g0 h_0)) ZLe.nil)))
  ·
    refine st_skip (by kernel_rfl) ?_
    refine q_seq_normal ?_
    refine st_seq (by kernel_rfl) ?_
    refine st_seq (by kernel_rfl) ?_
    refine st_reg (A := (Con Try.prog (50 : FuncId) [AV.s sku] (AV.b (good sku))) ∧ ((AV.b !good sku) = AV.b (decide ¬good sku = true))) (σ' := ⟨[(0, .sl (List.map c28 es)), (1, .s (sku)), (13, .b (decide ¬good sku = true))], []⟩) cx [(1, { val := some (.b (good sku)) }), (2, { tell := some (.b (decide ¬good sku = true)) })] [0, 1, 13] [] (by kernel_rfl) (by kernel_rfl) ⟨(con50 (sku)), (told_not)⟩ ?_
    refine q_seq_normal ?_
    refine st_dec (¬good sku = true) (by kernel_rfl) (by kernel_rfl) (fun h_1 => ?_) (fun h_1 => ?_)
    ·
      refine st_seq (by kernel_rfl) ?_
      refine st_reg (A := True) (σ' := ⟨[(4, .nl), (5, .i .i64 ((5 : Int)))], []⟩) cx [] [4, 5] [] (by kernel_rfl) (by kernel_rfl) trivial ?_
      refine q_seq_normal ?_
      refine st_ret (by kernel_rfl) ?_
      refine q_seq_ret ?_
      exact q_ret (r := .tup [.nl, .i .i64 ((5 : Int))]) (obl := []) (by kernel_rfl) trivial (AVle.tup (ZLe.cons (AVle.nl' (g3 h_0 h_1)) (ZLe.cons (AVle.eq (g2 h_0 h_1)) ZLe.nil)))
    ·
      refine st_skip (by kernel_rfl) ?_
      refine q_seq_normal ?_
      refine st_seq (by kernel_rfl) ?_
      refine st_reg (A := True) (σ' := ⟨[(0, .sl (List.map c28 es)), (1, .s (sku)), (6, .nl)], []⟩) cx [] [0, 1, 6] [] (by kernel_rfl) (by kernel_rfl) trivial ?_
      refine q_seq_normal ?_
      refine st_seq (by kernel_rfl) ?_
      refine st_seq (by kernel_rfl) ?_
      refine st_reg (A := True) (σ' := ⟨[(0, .sl (List.map c28 es)), (1, .s (sku)), (6, .nl), (7, .i .i64 ((0 : Int)))], []⟩) cx [] [0, 1, 6, 7] [] (by kernel_rfl) (by kernel_rfl) trivial ?_
      refine q_seq_normal ?_
      refine st_block 0 (by kernel_rfl) ?_
      refine awp_adopt 6 1006 28 4 (σ' := ⟨[(0, .sl (List.map c28 es)), (1, .s (sku)), (6, .own 1006 0), (7, .i .i64 ((0 : Int)))], [(1006, ⟨0, 28, .row 4 (List.map c28 [])⟩)]⟩) (by kernel_rfl) ?_
      refine st_loop (X := Int × List Entry) (fun x => ⟨[(0, .sl (List.map c28 es)), (1, .s (sku)), (6, .own 1006 0), (7, .i .i64 (x.fst))], [(1006, ⟨0, 28, .row 4 (List.map c28 x.snd)⟩)]⟩) (fun x ↦ decP es x.fst x.snd) (fun x ↦ invP (fun e ↦ decide (e.sku = sku)) es x.fst x.snd) [0, 1, 6, 7] [1006] (((0 : Int), [])) (by kernel_rfl) (by kernel_rfl) (g4 h_0 h_1) ?_
      rintro ⟨i_2, l_3⟩ h_4
      obtain ⟨h_5, h_6, h_7, h_8⟩ : (0 : Int) ≤ i_2 ∧ i_2 ≤ (↑es.length : Int) ∧ l_3 = List.filter (fun e ↦ decide (e.sku = sku)) (List.take i_2.toNat es) ∧ (↑l_3.length : Int) ≤ i_2 := h_4
      refine st_seq (by kernel_rfl) ?_
      refine st_seq (by kernel_rfl) ?_
      refine st_reg (A := (AV.i IntKind.i64 (↑(List.map c28 es).length : Int) = AV.i IntKind.i64 (↑es.length : Int)) ∧ (AV.b (decide (i_2 < (↑es.length : Int))) = AV.b (decide (i_2 < (↑es.length : Int))))) (σ' := ⟨[(0, .sl (List.map c28 es)), (1, .s (sku)), (6, .own 1006 0), (7, .i .i64 (i_2)), (17, .b (decide (i_2 < (↑es.length : Int))))], [(1006, ⟨0, 28, .row 4 (List.map c28 l_3)⟩)]⟩) cx [(2, { tell := some (.i .i64 ((↑es.length : Int))) }), (3, { tell := some (.b (decide (i_2 < (↑es.length : Int)))) })] [0, 1, 6, 7, 17] [1006] (by kernel_rfl) (by kernel_rfl) ⟨(told_len c28 es), (by kernel_rfl)⟩ ?_
      refine q_seq_normal ?_
      refine st_dec (i_2 < (↑es.length : Int)) (by kernel_rfl) (by kernel_rfl) (fun h_9 => ?_) (fun h_9 => ?_)
      ·
        refine st_skip (by kernel_rfl) ?_
        refine q_seq_normal ?_
        refine st_seq (by kernel_rfl) ?_
        refine st_block 1 (by kernel_rfl) ?_
        refine st_seq (by kernel_rfl) ?_
        refine st_reg (A := ((0 : Int) ≤ i_2) ∧ ((List.map c28 es)[i_2.toNat]? = some (c28 es[i_2.toNat]!)) ∧ ((c28 es[i_2.toNat]!).length = (4 : Nat)) ∧ (AV.b (es[i_2.toNat]!.sku.toList == sku.toList) = AV.b (decide (es[i_2.toNat]!.sku = sku)))) (σ' := ⟨[(0, .sl (List.map c28 es)), (1, .s (sku)), (6, .own 1006 0), (7, .i .i64 (i_2)), (26, .b (decide (es[i_2.toNat]!.sku = sku)))], [(1006, ⟨0, 28, .row 4 (List.map c28 l_3)⟩)]⟩) cx [(2, { row := (c28 es[i_2.toNat]!) }), (6, { tell := some (.b (decide (es[i_2.toNat]!.sku = sku))) })] [0, 1, 6, 7, 26] [1006] (by kernel_rfl) (by kernel_rfl) ⟨(by (with_reducible assumption)), (by (with_reducible refine get_map ?_; omega)), (by kernel_rfl), (told_seq)⟩ ?_
        refine q_seq_normal ?_
        refine st_dec (es[i_2.toNat]!.sku = sku) (by kernel_rfl) (by kernel_rfl) (fun h_10 => ?_) (fun h_10 => ?_)
        ·
          refine st_reg (A := ((0 : Int) ≤ i_2) ∧ ((List.map c28 es)[i_2.toNat]? = some (c28 es[i_2.toNat]!)) ∧ ((c28 es[i_2.toNat]!).length = (4 : Nat)) ∧ ((4 : Nat) ≤ [AV.i IntKind.i64 es[i_2.toNat]!.dot.rep, AV.i IntKind.i64 es[i_2.toNat]!.dot.num, AV.s es[i_2.toNat]!.sku, AV.i IntKind.i64 es[i_2.toNat]!.qty].length) ∧ (28 = (28 : Nat)) ∧ ((4 : Nat) = 4) ∧ ([AV.i IntKind.i64 (0 : Int), AV.i IntKind.i64 (0 : Int), AV.s { data := #[] : ByteArray }, AV.i IntKind.i64 (0 : Int)].length = (4 : Nat)) ∧ (∀ (r : List AV), r ∈ List.map c28 [es[i_2.toNat]!] → r.length = 4) ∧ ((List.map c28 l_3).length + (List.map c28 [es[i_2.toNat]!]).length ≤ maxLen) ∧ (((List.map c28 l_3).length + (List.map c28 [es[i_2.toNat]!]).length) * (40 : Nat) ≤ (140737488355328 : Nat)) ∧ (List.map c28 l_3 ++ List.map c28 [es[i_2.toNat]!] = List.map c28 (l_3 ++ [es[i_2.toNat]!]))) (σ' := ⟨[(0, .sl (List.map c28 es)), (1, .s (sku)), (6, .own 1006 0), (7, .i .i64 (i_2))], [(1006, ⟨0, 28, .row 4 (List.map c28 (l_3 ++ [es[i_2.toNat]!]))⟩)]⟩) cx [(3, { row := (c28 es[i_2.toNat]!) }), (6, { rows := some (List.map c28 (l_3 ++ [es[i_2.toNat]!])) })] [0, 1, 6, 7] [1006] (by kernel_rfl) (by kernel_rfl) ⟨(by (with_reducible assumption)), (by (with_reducible refine get_map ?_; omega)), (by kernel_rfl), (by (simp only [List.length_append, List.length_cons, List.length_nil]; omega)), (by kernel_rfl), (by kernel_rfl), (by kernel_rfl), (by (with_reducible refine len_map (fun _ => ?_) _; kernel_rfl)), (by (simp only [Go.maxLen, List.length_map, List.length_append, List.length_cons, List.length_nil]; omega)), (by (simp only [Go.maxLen, List.length_map, List.length_append, List.length_cons, List.length_nil]; omega)), (by (with_reducible refine app_map ?_; kernel_rfl))⟩ ?_
          refine q_blk_normal ?_
          refine q_seq_normal ?_
          refine st_reg (A := (AV.i IntKind.i64 (IntKind.i64.wrap (i_2 + (1 : Int))) = AV.i IntKind.i64 (i_2 + (1 : Int)))) (σ' := ⟨[(0, .sl (List.map c28 es)), (1, .s (sku)), (6, .own 1006 0), (7, .i .i64 (i_2 + (1 : Int)))], [(1006, ⟨0, 28, .row 4 (List.map c28 (l_3 ++ [es[i_2.toNat]!]))⟩)]⟩) cx [(1, { tell := some (.i .i64 (i_2 + (1 : Int))) })] [0, 1, 6, 7] [1006] (by kernel_rfl) (by kernel_rfl) (told_i64 (by omega) (by omega)) ?_
          refine q_seq_normal ?_
          exact loop_next ((i_2 + (1 : Int), l_3 ++ [es[i_2.toNat]!])) (by kernel_rfl) (show ((↑es.length : Int) - (i_2 + (1 : Int))).toNat < ((↑es.length : Int) - i_2).toNat from (by omega)) (g5 h_0 h_1 i_2 l_3 h_5 h_6 h_7 h_8 h_9 h_10)
        ·
          refine st_skip (by kernel_rfl) ?_
          refine q_blk_normal ?_
          refine q_seq_normal ?_
          refine st_reg (A := (AV.i IntKind.i64 (IntKind.i64.wrap (i_2 + (1 : Int))) = AV.i IntKind.i64 (i_2 + (1 : Int)))) (σ' := ⟨[(0, .sl (List.map c28 es)), (1, .s (sku)), (6, .own 1006 0), (7, .i .i64 (i_2 + (1 : Int)))], [(1006, ⟨0, 28, .row 4 (List.map c28 l_3)⟩)]⟩) cx [(1, { tell := some (.i .i64 (i_2 + (1 : Int))) })] [0, 1, 6, 7] [1006] (by kernel_rfl) (by kernel_rfl) (told_i64 (by omega) (by omega)) ?_
          refine q_seq_normal ?_
          exact loop_next ((i_2 + (1 : Int), l_3)) (by kernel_rfl) (show ((↑es.length : Int) - (i_2 + (1 : Int))).toNat < ((↑es.length : Int) - i_2).toNat from (by omega)) (g6 h_0 h_1 i_2 l_3 h_5 h_6 h_7 h_8 h_9 h_10)
      ·
        refine st_exit 0 (by kernel_rfl) ?_
        refine q_seq_exit ?_
        refine q_seq_exit ?_
        refine q_blk_hit ?_
        refine q_seq_normal ?_
        refine st_seq (by kernel_rfl) ?_
        refine st_reg (A := True) (σ' := ⟨[(4, .own 1006 0), (5, .i .i64 ((0 : Int)))], [(1006, ⟨0, 28, .row 4 (List.map c28 l_3)⟩)]⟩) cx [] [4, 5] [1006] (by kernel_rfl) (by kernel_rfl) trivial ?_
        refine q_seq_normal ?_
        refine st_ret (by kernel_rfl) ?_
        exact q_ret (r := .tup [.sl (List.map c28 l_3), .i .i64 ((0 : Int))]) (obl := []) (by kernel_rfl) trivial (AVle.tup (ZLe.cons (AVle.eq (g8 h_0 h_1 i_2 l_3 h_5 h_6 h_7 h_8 h_9)) (ZLe.cons (AVle.eq (g7 h_0 h_1 i_2 l_3 h_5 h_6 h_7 h_8 h_9)) ZLe.nil)))
theorem con21 (es : List Entry) (sku : ByteArray) (hs : es.length * 40 ≤ 140737488351232) : Con Try.prog 21 [.sl (es.map c28), .s sku] (.tup [.sl ((ofV es sku).1.map c28), .i .i64 (ofV es sku).2]) :=
  walk21 es sku hs (fun h => by rw [ofV_form h]) (fun h => by rw [ofV_form h]; rfl) (fun h g => by rw [ofV_sku (Classical.not_not.1 h) g]) (fun h g => by rw [ofV_sku (Classical.not_not.1 h) g]; rfl)
    (fun _ _ => invP_init _ _) (fun _ _ i l h0 h1 h2 h3 h4 h5 => invP_add h0 h2 h3 h4 (decide_eq_true h5)) (fun _ _ i l h0 h1 h2 h3 h4 h5 => invP_skip h0 h2 h3 h4 (by simpa using h5))
    (fun h g i l h0 h1 h2 h3 h4 => by rw [ofV_ok (Classical.not_not.1 h) (Classical.not_not.1 g)]) (fun h g i l h0 h1 h2 h3 h4 => by rw [ofV_ok (Classical.not_not.1 h) (Classical.not_not.1 g), invP_done h2 h4])
theorem walk22 (es : List Entry) (rep : Int) (sku : ByteArray) (hs : es.length * (40 : Nat) ≤ (140737488351232 : Nat))
    (g0 : ¬lstE es = (0 : Int) → AV.i IntKind.i64 (1 : Int) = AV.i IntKind.i64 (ownV es rep sku).snd)
    (g1 : ¬lstE es = (0 : Int) → List.map c28 (ownV es rep sku).fst = [])
    (g2 : ¬¬lstE es = (0 : Int) → rep < (0 : Int) ∨ (16 : Int) ≤ rep → AV.i IntKind.i64 (3 : Int) = AV.i IntKind.i64 (ownV es rep sku).snd)
    (g3 : ¬¬lstE es = (0 : Int) → rep < (0 : Int) ∨ (16 : Int) ≤ rep → List.map c28 (ownV es rep sku).fst = [])
    (g4 : ¬¬lstE es = (0 : Int) → ¬(rep < (0 : Int) ∨ (16 : Int) ≤ rep) → invP (fun e ↦ decide (e.dot.rep = rep)) (ofV es sku).fst (0 : Int) [])
    (g5 : ¬¬lstE es = (0 : Int) → ¬(rep < (0 : Int) ∨ (16 : Int) ≤ rep) → ∀ (i_6 : Int) (l_7 : List Entry), (0 : Int) ≤ i_6 → i_6 ≤ (↑(ofV es sku).fst.length : Int) → l_7 = List.filter (fun e ↦ decide (e.dot.rep = rep)) (List.take i_6.toNat (ofV es sku).fst) → (↑l_7.length : Int) ≤ i_6 → i_6 < (↑(ofV es sku).fst.length : Int) → (ofV es sku).fst[i_6.toNat]!.dot.rep = rep → invP (fun e ↦ decide (e.dot.rep = rep)) (ofV es sku).fst (i_6 + (1 : Int)) (l_7 ++ [(ofV es sku).fst[i_6.toNat]!]))
    (g6 : ¬¬lstE es = (0 : Int) → ¬(rep < (0 : Int) ∨ (16 : Int) ≤ rep) → ∀ (i_6 : Int) (l_7 : List Entry), (0 : Int) ≤ i_6 → i_6 ≤ (↑(ofV es sku).fst.length : Int) → l_7 = List.filter (fun e ↦ decide (e.dot.rep = rep)) (List.take i_6.toNat (ofV es sku).fst) → (↑l_7.length : Int) ≤ i_6 → i_6 < (↑(ofV es sku).fst.length : Int) → ¬(ofV es sku).fst[i_6.toNat]!.dot.rep = rep → invP (fun e ↦ decide (e.dot.rep = rep)) (ofV es sku).fst (i_6 + (1 : Int)) l_7)
    (g7 : ¬¬lstE es = (0 : Int) → ¬(rep < (0 : Int) ∨ (16 : Int) ≤ rep) → ∀ (i_6 : Int) (l_7 : List Entry), (0 : Int) ≤ i_6 → i_6 ≤ (↑(ofV es sku).fst.length : Int) → l_7 = List.filter (fun e ↦ decide (e.dot.rep = rep)) (List.take i_6.toNat (ofV es sku).fst) → (↑l_7.length : Int) ≤ i_6 → ¬i_6 < (↑(ofV es sku).fst.length : Int) → AV.i IntKind.i64 (ofV es sku).snd = AV.i IntKind.i64 (ownV es rep sku).snd)
    (g8 : ¬¬lstE es = (0 : Int) → ¬(rep < (0 : Int) ∨ (16 : Int) ≤ rep) → ∀ (i_6 : Int) (l_7 : List Entry), (0 : Int) ≤ i_6 → i_6 ≤ (↑(ofV es sku).fst.length : Int) → l_7 = List.filter (fun e ↦ decide (e.dot.rep = rep)) (List.take i_6.toNat (ofV es sku).fst) → (↑l_7.length : Int) ≤ i_6 → ¬i_6 < (↑(ofV es sku).fst.length : Int) → AV.sl (List.map c28 l_7) = AV.sl (List.map c28 (ownV es rep sku).fst)) :
    Con Try.prog (22 : FuncId) [AV.sl (List.map c28 es), AV.i IntKind.i64 rep, AV.s sku] (AV.tup [AV.sl (List.map c28 (ownV es rep sku).fst), AV.i IntKind.i64 (ownV es rep sku).snd]) := by
  refine con_lens 0 (c28) (es) (by kernel_rfl) Go.Proofs.Try.func22 (by kernel_rfl) fun hl_0 => ?_
  refine st_con tab_ok (by kernel_rfl) [.tmp 6, .tmp 7] 50 Go.Proofs.Try.func22 (by kernel_rfl) (by kernel_rfl) ?_
  intro e0 cx
  refine st_seq (by kernel_rfl) ?_
  refine st_reg (A := True) (σ' := ⟨[(0, .sl (List.map c28 es)), (1, .i .i64 (rep)), (2, .s (sku))], []⟩) cx [] [0, 1, 2] [] (by kernel_rfl) (by kernel_rfl) trivial ?_
  refine q_seq_normal ?_
  refine st_seq (by kernel_rfl) ?_
  refine st_seq (by kernel_rfl) ?_
  refine st_reg (A := (Con Try.prog (18 : FuncId) [AV.sl (List.map c28 es)] (AV.i IntKind.i64 (lstE es))) ∧ (AV.b (lstE es != (0 : Int)) = AV.b (decide ¬lstE es = (0 : Int)))) (σ' := ⟨[(0, .sl (List.map c28 es)), (1, .i .i64 (rep)), (2, .s (sku)), (14, .b (decide ¬lstE es = (0 : Int)))], []⟩) cx [(1, { val := some (.i .i64 (lstE es)) }), (2, { tell := some (.b (decide ¬lstE es = (0 : Int))) })] [0, 1, 2, 14] [] (by kernel_rfl) (by kernel_rfl) ⟨(con18 (es)), (told_neq)⟩ ?_
  refine q_seq_normal ?_
  refine st_dec (¬lstE es = (0 : Int)) (by kernel_rfl) (by kernel_rfl) (fun h_0 => ?_) (fun h_0 => ?_)
  ·
    refine st_seq (by kernel_rfl) ?_
    refine st_reg (A := True) (σ' := ⟨[(6, .nl), (7, .i .i64 ((1 : Int)))], []⟩) cx [] [6, 7] [] (by kernel_rfl) (by kernel_rfl) trivial ?_
    refine q_seq_normal ?_
    refine st_ret (by kernel_rfl) ?_
    refine q_seq_ret ?_
    exact q_ret (r := .tup [.nl, .i .i64 ((1 : Int))]) (obl := []) (by kernel_rfl) trivial (AVle.tup (ZLe.cons (AVle.nl' (g1 h_0)) (ZLe.cons (AVle.eq (g0 h_0)) ZLe.nil)))
  ·
    refine st_skip (by kernel_rfl) ?_
    refine q_seq_normal ?_
    refine st_seq (by kernel_rfl) ?_
    refine st_seq (by kernel_rfl) ?_
    refine st_join (σ' := ⟨[(0, .sl (List.map c28 es)), (1, .i .i64 (rep)), (2, .s (sku)), (20, .b (decide (rep < (0 : Int) ∨ (16 : Int) ≤ rep)))], []⟩) ?_ ?_
    ·
      refine st_split (rep < (0 : Int)) (fun h_2 => ?_) (fun h_2 => ?_)
      ·
        refine st_reg (A := (AV.b (decide (rep < (0 : Int))) = AV.b true) ∧ (AV.b true = AV.b (decide (rep < (0 : Int) ∨ (16 : Int) ≤ rep)))) (σ' := ⟨[(0, .sl (List.map c28 es)), (1, .i .i64 (rep)), (2, .s (sku)), (20, .b (decide (rep < (0 : Int) ∨ (16 : Int) ≤ rep)))], []⟩) cx [(1, { tell := some (.b (true)) }), (5, { tell := some (.b (decide (rep < (0 : Int) ∨ (16 : Int) ≤ rep))) })] [0, 1, 2, 20] [] (by kernel_rfl) (by kernel_rfl) ⟨(told_true h_2), (by simp only [eq_true h_2, told_simp1, told_simp2, and_true, true_and, and_false, false_and, or_true, true_or, or_false, false_or, not_true_eq_false, not_false_eq_true, decide_true, decide_false, Bool.decide_eq_true])⟩ ?_
        exact ⟨rfl, rfl⟩
      ·
        refine st_reg (A := (AV.b (decide (rep < (0 : Int))) = AV.b false) ∧ (AV.b (decide (rep ≥ (16 : Int))) = AV.b (decide ((16 : Int) ≤ rep))) ∧ (AV.b (decide ((16 : Int) ≤ rep)) = AV.b (decide (rep < (0 : Int) ∨ (16 : Int) ≤ rep)))) (σ' := ⟨[(0, .sl (List.map c28 es)), (1, .i .i64 (rep)), (2, .s (sku)), (20, .b (decide (rep < (0 : Int) ∨ (16 : Int) ≤ rep)))], []⟩) cx [(1, { tell := some (.b (false)) }), (4, { tell := some (.b (decide ((16 : Int) ≤ rep))) }), (5, { tell := some (.b (decide (rep < (0 : Int) ∨ (16 : Int) ≤ rep))) })] [0, 1, 2, 20] [] (by kernel_rfl) (by kernel_rfl) ⟨(told_false h_2), (by kernel_rfl), (by simp only [eq_false h_2, told_simp1, told_simp2, and_true, true_and, and_false, false_and, or_true, true_or, or_false, false_or, not_true_eq_false, not_false_eq_true, decide_true, decide_false, Bool.decide_eq_true])⟩ ?_
        exact ⟨rfl, rfl⟩
    ·
      refine q_seq_normal ?_
      refine st_dec (rep < (0 : Int) ∨ (16 : Int) ≤ rep) (by kernel_rfl) (by kernel_rfl) (fun h_3 => ?_) (fun h_3 => ?_)
      ·
        refine st_seq (by kernel_rfl) ?_
        refine st_reg (A := True) (σ' := ⟨[(6, .nl), (7, .i .i64 ((3 : Int)))], []⟩) cx [] [6, 7] [] (by kernel_rfl) (by kernel_rfl) trivial ?_
        refine q_seq_normal ?_
        refine st_ret (by kernel_rfl) ?_
        refine q_seq_ret ?_
        exact q_ret (r := .tup [.nl, .i .i64 ((3 : Int))]) (obl := []) (by kernel_rfl) trivial (AVle.tup (ZLe.cons (AVle.nl' (g3 h_0 h_3)) (ZLe.cons (AVle.eq (g2 h_0 h_3)) ZLe.nil)))
      ·
        refine st_skip (by kernel_rfl) ?_
        refine q_seq_normal ?_
        refine st_seq (by kernel_rfl) ?_
        have hl_4 := (rng_ofV es)
        have hl_5 := (rng_ofV es sku)
        refine st_reg (A := (Con Try.prog (21 : FuncId) [AV.sl (List.map c28 es), AV.s sku] (AV.tup [AV.sl (List.map c28 (ofV es sku).fst), AV.i IntKind.i64 (ofV es sku).snd]))) (σ' := ⟨[(1, .i .i64 (rep)), (8, .sl (List.map c28 (ofV es sku).fst)), (9, .i .i64 ((ofV es sku).snd))], []⟩) cx [(2, { val := some (.tup [.sl (List.map c28 (ofV es sku).fst), .i .i64 ((ofV es sku).snd)]) })] [1, 8, 9] [] (by kernel_rfl) (by kernel_rfl) (con21 (es) (sku) (by (with_reducible assumption))) ?_
        refine q_seq_normal ?_
        refine st_seq (by kernel_rfl) ?_
        refine st_reg (A := True) (σ' := ⟨[(1, .i .i64 (rep)), (8, .sl (List.map c28 (ofV es sku).fst)), (9, .i .i64 ((ofV es sku).snd)), (10, .nl)], []⟩) cx [] [1, 8, 9, 10] [] (by kernel_rfl) (by kernel_rfl) trivial ?_
        refine q_seq_normal ?_
        refine st_seq (by kernel_rfl) ?_
        refine st_seq (by kernel_rfl) ?_
        refine st_reg (A := True) (σ' := ⟨[(1, .i .i64 (rep)), (8, .sl (List.map c28 (ofV es sku).fst)), (9, .i .i64 ((ofV es sku).snd)), (10, .nl), (11, .i .i64 ((0 : Int)))], []⟩) cx [] [1, 8, 9, 10, 11] [] (by kernel_rfl) (by kernel_rfl) trivial ?_
        refine q_seq_normal ?_
        refine st_block 0 (by kernel_rfl) ?_
        refine awp_adopt 10 1010 28 4 (σ' := ⟨[(1, .i .i64 (rep)), (8, .sl (List.map c28 (ofV es sku).fst)), (9, .i .i64 ((ofV es sku).snd)), (10, .own 1010 0), (11, .i .i64 ((0 : Int)))], [(1010, ⟨0, 28, .row 4 (List.map c28 [])⟩)]⟩) (by kernel_rfl) ?_
        refine st_loop (X := Int × List Entry) (fun x => ⟨[(1, .i .i64 (rep)), (8, .sl (List.map c28 (ofV es sku).fst)), (9, .i .i64 ((ofV es sku).snd)), (10, .own 1010 0), (11, .i .i64 (x.fst))], [(1010, ⟨0, 28, .row 4 (List.map c28 x.snd)⟩)]⟩) (fun x ↦ decP (ofV es sku).fst x.fst x.snd) (fun x ↦ invP (fun e ↦ decide (e.dot.rep = rep)) (ofV es sku).fst x.fst x.snd) [1, 8, 9, 10, 11] [1010] (((0 : Int), [])) (by kernel_rfl) (by kernel_rfl) (g4 h_0 h_3) ?_
        rintro ⟨i_6, l_7⟩ h_8
        obtain ⟨h_9, h_10, h_11, h_12⟩ : (0 : Int) ≤ i_6 ∧ i_6 ≤ (↑(ofV es sku).fst.length : Int) ∧ l_7 = List.filter (fun e ↦ decide (e.dot.rep = rep)) (List.take i_6.toNat (ofV es sku).fst) ∧ (↑l_7.length : Int) ≤ i_6 := h_8
        refine st_seq (by kernel_rfl) ?_
        refine st_seq (by kernel_rfl) ?_
        refine st_reg (A := (AV.i IntKind.i64 (↑(List.map c28 (ofV es sku).fst).length : Int) = AV.i IntKind.i64 (↑(ofV es sku).fst.length : Int)) ∧ (AV.b (decide (i_6 < (↑(ofV es sku).fst.length : Int))) = AV.b (decide (i_6 < (↑(ofV es sku).fst.length : Int))))) (σ' := ⟨[(1, .i .i64 (rep)), (8, .sl (List.map c28 (ofV es sku).fst)), (9, .i .i64 ((ofV es sku).snd)), (10, .own 1010 0), (11, .i .i64 (i_6)), (30, .b (decide (i_6 < (↑(ofV es sku).fst.length : Int))))], [(1010, ⟨0, 28, .row 4 (List.map c28 l_7)⟩)]⟩) cx [(2, { tell := some (.i .i64 ((↑(ofV es sku).fst.length : Int))) }), (3, { tell := some (.b (decide (i_6 < (↑(ofV es sku).fst.length : Int)))) })] [1, 8, 9, 10, 11, 30] [1010] (by kernel_rfl) (by kernel_rfl) ⟨(told_len c28 (ofV es sku).fst), (by kernel_rfl)⟩ ?_
        refine q_seq_normal ?_
        refine st_dec (i_6 < (↑(ofV es sku).fst.length : Int)) (by kernel_rfl) (by kernel_rfl) (fun h_13 => ?_) (fun h_13 => ?_)
        ·
          refine st_skip (by kernel_rfl) ?_
          refine q_seq_normal ?_
          refine st_seq (by kernel_rfl) ?_
          refine st_block 1 (by kernel_rfl) ?_
          refine st_seq (by kernel_rfl) ?_
          refine st_reg (A := ((0 : Int) ≤ i_6) ∧ ((List.map c28 (ofV es sku).fst)[i_6.toNat]? = some (c28 (ofV es sku).fst[i_6.toNat]!)) ∧ ((c28 (ofV es sku).fst[i_6.toNat]!).length = (4 : Nat)) ∧ (AV.b ((ofV es sku).fst[i_6.toNat]!.dot.rep == rep) = AV.b (decide ((ofV es sku).fst[i_6.toNat]!.dot.rep = rep)))) (σ' := ⟨[(1, .i .i64 (rep)), (8, .sl (List.map c28 (ofV es sku).fst)), (9, .i .i64 ((ofV es sku).snd)), (10, .own 1010 0), (11, .i .i64 (i_6)), (40, .b (decide ((ofV es sku).fst[i_6.toNat]!.dot.rep = rep)))], [(1010, ⟨0, 28, .row 4 (List.map c28 l_7)⟩)]⟩) cx [(2, { row := (c28 (ofV es sku).fst[i_6.toNat]!) }), (7, { tell := some (.b (decide ((ofV es sku).fst[i_6.toNat]!.dot.rep = rep))) })] [1, 8, 9, 10, 11, 40] [1010] (by kernel_rfl) (by kernel_rfl) ⟨(by (with_reducible assumption)), (by (with_reducible refine get_map ?_; omega)), (by kernel_rfl), (by kernel_rfl)⟩ ?_
          refine q_seq_normal ?_
          refine st_dec ((ofV es sku).fst[i_6.toNat]!.dot.rep = rep) (by kernel_rfl) (by kernel_rfl) (fun h_14 => ?_) (fun h_14 => ?_)
          ·
            refine st_reg (A := ((0 : Int) ≤ i_6) ∧ ((List.map c28 (ofV es sku).fst)[i_6.toNat]? = some (c28 (ofV es sku).fst[i_6.toNat]!)) ∧ ((c28 (ofV es sku).fst[i_6.toNat]!).length = (4 : Nat)) ∧ ((4 : Nat) ≤ [AV.i IntKind.i64 (ofV es sku).fst[i_6.toNat]!.dot.rep, AV.i IntKind.i64 (ofV es sku).fst[i_6.toNat]!.dot.num, AV.s (ofV es sku).fst[i_6.toNat]!.sku, AV.i IntKind.i64 (ofV es sku).fst[i_6.toNat]!.qty].length) ∧ (28 = (28 : Nat)) ∧ ((4 : Nat) = 4) ∧ ([AV.i IntKind.i64 (0 : Int), AV.i IntKind.i64 (0 : Int), AV.s { data := #[] : ByteArray }, AV.i IntKind.i64 (0 : Int)].length = (4 : Nat)) ∧ (∀ (r : List AV), r ∈ List.map c28 [(ofV es sku).fst[i_6.toNat]!] → r.length = 4) ∧ ((List.map c28 l_7).length + (List.map c28 [(ofV es sku).fst[i_6.toNat]!]).length ≤ maxLen) ∧ (((List.map c28 l_7).length + (List.map c28 [(ofV es sku).fst[i_6.toNat]!]).length) * (40 : Nat) ≤ (140737488355328 : Nat)) ∧ (List.map c28 l_7 ++ List.map c28 [(ofV es sku).fst[i_6.toNat]!] = List.map c28 (l_7 ++ [(ofV es sku).fst[i_6.toNat]!]))) (σ' := ⟨[(1, .i .i64 (rep)), (8, .sl (List.map c28 (ofV es sku).fst)), (9, .i .i64 ((ofV es sku).snd)), (10, .own 1010 0), (11, .i .i64 (i_6))], [(1010, ⟨0, 28, .row 4 (List.map c28 (l_7 ++ [(ofV es sku).fst[i_6.toNat]!]))⟩)]⟩) cx [(3, { row := (c28 (ofV es sku).fst[i_6.toNat]!) }), (6, { rows := some (List.map c28 (l_7 ++ [(ofV es sku).fst[i_6.toNat]!])) })] [1, 8, 9, 10, 11] [1010] (by kernel_rfl) (by kernel_rfl) ⟨(by (with_reducible assumption)), (by (with_reducible refine get_map ?_; omega)), (by kernel_rfl), (by (simp only [List.length_append, List.length_cons, List.length_nil]; omega)), (by kernel_rfl), (by kernel_rfl), (by kernel_rfl), (by (with_reducible refine len_map (fun _ => ?_) _; kernel_rfl)), (by (simp only [Go.maxLen, List.length_map, List.length_append, List.length_cons, List.length_nil]; omega)), (by (simp only [Go.maxLen, List.length_map, List.length_append, List.length_cons, List.length_nil]; omega)), (by (with_reducible refine app_map ?_; kernel_rfl))⟩ ?_
            refine q_blk_normal ?_
            refine q_seq_normal ?_
            refine st_reg (A := (AV.i IntKind.i64 (IntKind.i64.wrap (i_6 + (1 : Int))) = AV.i IntKind.i64 (i_6 + (1 : Int)))) (σ' := ⟨[(1, .i .i64 (rep)), (8, .sl (List.map c28 (ofV es sku).fst)), (9, .i .i64 ((ofV es sku).snd)), (10, .own 1010 0), (11, .i .i64 (i_6 + (1 : Int)))], [(1010, ⟨0, 28, .row 4 (List.map c28 (l_7 ++ [(ofV es sku).fst[i_6.toNat]!]))⟩)]⟩) cx [(1, { tell := some (.i .i64 (i_6 + (1 : Int))) })] [1, 8, 9, 10, 11] [1010] (by kernel_rfl) (by kernel_rfl) (told_i64 (by omega) (by omega)) ?_
            refine q_seq_normal ?_
            exact loop_next ((i_6 + (1 : Int), l_7 ++ [(ofV es sku).fst[i_6.toNat]!])) (by kernel_rfl) (show ((↑(ofV es sku).fst.length : Int) - (i_6 + (1 : Int))).toNat < ((↑(ofV es sku).fst.length : Int) - i_6).toNat from (by omega)) (g5 h_0 h_3 i_6 l_7 h_9 h_10 h_11 h_12 h_13 h_14)
          ·
            refine st_skip (by kernel_rfl) ?_
            refine q_blk_normal ?_
            refine q_seq_normal ?_
            refine st_reg (A := (AV.i IntKind.i64 (IntKind.i64.wrap (i_6 + (1 : Int))) = AV.i IntKind.i64 (i_6 + (1 : Int)))) (σ' := ⟨[(1, .i .i64 (rep)), (8, .sl (List.map c28 (ofV es sku).fst)), (9, .i .i64 ((ofV es sku).snd)), (10, .own 1010 0), (11, .i .i64 (i_6 + (1 : Int)))], [(1010, ⟨0, 28, .row 4 (List.map c28 l_7)⟩)]⟩) cx [(1, { tell := some (.i .i64 (i_6 + (1 : Int))) })] [1, 8, 9, 10, 11] [1010] (by kernel_rfl) (by kernel_rfl) (told_i64 (by omega) (by omega)) ?_
            refine q_seq_normal ?_
            exact loop_next ((i_6 + (1 : Int), l_7)) (by kernel_rfl) (show ((↑(ofV es sku).fst.length : Int) - (i_6 + (1 : Int))).toNat < ((↑(ofV es sku).fst.length : Int) - i_6).toNat from (by omega)) (g6 h_0 h_3 i_6 l_7 h_9 h_10 h_11 h_12 h_13 h_14)
        ·
          refine st_exit 0 (by kernel_rfl) ?_
          refine q_seq_exit ?_
          refine q_seq_exit ?_
          refine q_blk_hit ?_
          refine q_seq_normal ?_
          refine st_seq (by kernel_rfl) ?_
          refine st_reg (A := True) (σ' := ⟨[(6, .own 1010 0), (7, .i .i64 ((ofV es sku).snd))], [(1010, ⟨0, 28, .row 4 (List.map c28 l_7)⟩)]⟩) cx [] [6, 7] [1010] (by kernel_rfl) (by kernel_rfl) trivial ?_
          refine q_seq_normal ?_
          refine st_ret (by kernel_rfl) ?_
          exact q_ret (r := .tup [.sl (List.map c28 l_7), .i .i64 ((ofV es sku).snd)]) (obl := []) (by kernel_rfl) trivial (AVle.tup (ZLe.cons (AVle.eq (g8 h_0 h_3 i_6 l_7 h_9 h_10 h_11 h_12 h_13)) (ZLe.cons (AVle.eq (g7 h_0 h_3 i_6 l_7 h_9 h_10 h_11 h_12 h_13)) ZLe.nil)))
theorem con22 (es : List Entry) (rep : Int) (sku : ByteArray) (hs : es.length * 40 ≤ 140737488351232) : Con Try.prog 22 [.sl (es.map c28), .i .i64 rep, .s sku] (.tup [.sl ((ownV es rep sku).1.map c28), .i .i64 (ownV es rep sku).2]) :=
  walk22 es rep sku hs (fun h => by rw [ownV_form h]) (fun h => by rw [ownV_form h]; rfl) (fun h g => by rw [ownV_rep (Classical.not_not.1 h) g]) (fun h g => by rw [ownV_rep (Classical.not_not.1 h) g]; rfl)
    (fun _ _ => invP_init _ _) (fun _ _ i l h0 h1 h2 h3 h4 h5 => invP_add h0 h2 h3 h4 (decide_eq_true h5)) (fun _ _ i l h0 h1 h2 h3 h4 h5 => invP_skip h0 h2 h3 h4 (by simpa using h5))
    (fun h r i l h0 h1 h2 h3 h4 => by rw [own_of (Classical.not_not.1 h) r]) (fun h r i l h0 h1 h2 h3 h4 => by rw [own_of (Classical.not_not.1 h) r, invP_done h2 h4])
theorem walk24 (a : List Entry) (b : List Entry)
    (g0 : ¬(↑a.length : Int) = (↑b.length : Int) → AV.b false = AV.b (decide (a = b)))
    (g1 : ¬¬(↑a.length : Int) = (↑b.length : Int) → inv30 a b (0 : Int))
    (g2 : ¬¬(↑a.length : Int) = (↑b.length : Int) → ∀ (i_1 : Int), (0 : Int) ≤ i_1 → i_1 ≤ (↑a.length : Int) → (∀ (j : Nat), (↑j : Int) < i_1 → a[j]! = b[j]!) → i_1 < (↑a.length : Int) → ¬a[i_1.toNat]! = b[i_1.toNat]! → AV.b false = AV.b (decide (a = b)))
    (g3 : ¬¬(↑a.length : Int) = (↑b.length : Int) → ∀ (i_1 : Int), (0 : Int) ≤ i_1 → i_1 ≤ (↑a.length : Int) → (∀ (j : Nat), (↑j : Int) < i_1 → a[j]! = b[j]!) → i_1 < (↑a.length : Int) → ¬¬a[i_1.toNat]! = b[i_1.toNat]! → inv30 a b (i_1 + (1 : Int)))
    (g4 : ¬¬(↑a.length : Int) = (↑b.length : Int) → ∀ (i_1 : Int), (0 : Int) ≤ i_1 → i_1 ≤ (↑a.length : Int) → (∀ (j : Nat), (↑j : Int) < i_1 → a[j]! = b[j]!) → ¬i_1 < (↑a.length : Int) → AV.b true = AV.b (decide (a = b))) :
    Con Try.prog (24 : FuncId) [AV.sl (List.map c28 a), AV.sl (List.map c28 b)] (AV.b (decide (a = b))) := by
  refine con_lens 0 (c28) (a) (by kernel_rfl) Go.Proofs.Try.func24 (by kernel_rfl) fun hl_0 => ?_
  refine con_lens 1 (c28) (b) (by kernel_rfl) Go.Proofs.Try.func24 (by kernel_rfl) fun hl_1 => ?_
  refine st_con tab_ok (by kernel_rfl) [.tmp 4] 26 Go.Proofs.Try.func24 (by kernel_rfl) (by kernel_rfl) ?_
  intro e0 cx
  refine st_seq (by kernel_rfl) ?_
  refine st_reg (A := True) (σ' := ⟨[(0, .sl (List.map c28 a)), (1, .sl (List.map c28 b))], []⟩) cx [] [0, 1] [] (by kernel_rfl) (by kernel_rfl) trivial ?_
  refine q_seq_normal ?_
  refine st_seq (by kernel_rfl) ?_
  refine st_seq (by kernel_rfl) ?_
  refine st_reg (A := (AV.i IntKind.i64 (↑(List.map c28 a).length : Int) = AV.i IntKind.i64 (↑a.length : Int)) ∧ (AV.i IntKind.i64 (↑(List.map c28 b).length : Int) = AV.i IntKind.i64 (↑b.length : Int)) ∧ (AV.b ((↑a.length : Int) != (↑b.length : Int)) = AV.b (decide ¬(↑a.length : Int) = (↑b.length : Int)))) (σ' := ⟨[(0, .sl (List.map c28 a)), (1, .sl (List.map c28 b)), (10, .b (decide ¬(↑a.length : Int) = (↑b.length : Int)))], []⟩) cx [(1, { tell := some (.i .i64 ((↑a.length : Int))) }), (3, { tell := some (.i .i64 ((↑b.length : Int))) }), (4, { tell := some (.b (decide ¬(↑a.length : Int) = (↑b.length : Int))) })] [0, 1, 10] [] (by kernel_rfl) (by kernel_rfl) ⟨(told_len c28 a), (told_len c28 b), (told_neq)⟩ ?_
  refine q_seq_normal ?_
  refine st_dec (¬(↑a.length : Int) = (↑b.length : Int)) (by kernel_rfl) (by kernel_rfl) (fun h_0 => ?_) (fun h_0 => ?_)
  ·
    refine st_seq (by kernel_rfl) ?_
    refine st_reg (A := True) (σ' := ⟨[(4, .b (false))], []⟩) cx [] [4] [] (by kernel_rfl) (by kernel_rfl) trivial ?_
    refine q_seq_normal ?_
    refine st_ret (by kernel_rfl) ?_
    refine q_seq_ret ?_
    exact q_ret (r := .b (false)) (obl := []) (by kernel_rfl) trivial (AVle.eq (g0 h_0))
  ·
    refine st_skip (by kernel_rfl) ?_
    refine q_seq_normal ?_
    refine st_seq (by kernel_rfl) ?_
    refine st_seq (by kernel_rfl) ?_
    refine st_reg (A := True) (σ' := ⟨[(0, .sl (List.map c28 a)), (1, .sl (List.map c28 b)), (5, .i .i64 ((0 : Int)))], []⟩) cx [] [0, 1, 5] [] (by kernel_rfl) (by kernel_rfl) trivial ?_
    refine q_seq_normal ?_
    refine st_block 0 (by kernel_rfl) ?_
    refine st_loop (X := Int) (fun x => ⟨[(0, .sl (List.map c28 a)), (1, .sl (List.map c28 b)), (5, .i .i64 (x))], []⟩) (fun x ↦ dec30 a x) (fun x ↦ inv30 a b x) [0, 1, 5] [] ((0 : Int)) (by kernel_rfl) (by kernel_rfl) (g1 h_0) ?_
    intro i_1 h_2
    obtain ⟨h_3, h_4, h_5⟩ : (0 : Int) ≤ i_1 ∧ i_1 ≤ (↑a.length : Int) ∧ ∀ (j : Nat), (↑j : Int) < i_1 → a[j]! = b[j]! := h_2
    refine st_seq (by kernel_rfl) ?_
    refine st_seq (by kernel_rfl) ?_
    refine st_reg (A := (AV.i IntKind.i64 (↑(List.map c28 a).length : Int) = AV.i IntKind.i64 (↑a.length : Int)) ∧ (AV.b (decide (i_1 < (↑a.length : Int))) = AV.b (decide (i_1 < (↑a.length : Int))))) (σ' := ⟨[(0, .sl (List.map c28 a)), (1, .sl (List.map c28 b)), (5, .i .i64 (i_1)), (14, .b (decide (i_1 < (↑a.length : Int))))], []⟩) cx [(2, { tell := some (.i .i64 ((↑a.length : Int))) }), (3, { tell := some (.b (decide (i_1 < (↑a.length : Int)))) })] [0, 1, 5, 14] [] (by kernel_rfl) (by kernel_rfl) ⟨(told_len c28 a), (by kernel_rfl)⟩ ?_
    refine q_seq_normal ?_
    refine st_dec (i_1 < (↑a.length : Int)) (by kernel_rfl) (by kernel_rfl) (fun h_6 => ?_) (fun h_6 => ?_)
    ·
      refine st_skip (by kernel_rfl) ?_
      refine q_seq_normal ?_
      refine st_seq (by kernel_rfl) ?_
      refine st_block 1 (by kernel_rfl) ?_
      refine st_seq (by kernel_rfl) ?_
      refine st_any (A := ((0 : Int) ≤ i_1) ∧ ((List.map c28 a)[i_1.toNat]? = some (c28 a[i_1.toNat]!)) ∧ ((c28 a[i_1.toNat]!).length = (4 : Nat)) ∧ ((4 : Nat) ≤ [AV.i IntKind.i64 a[i_1.toNat]!.dot.rep, AV.i IntKind.i64 a[i_1.toNat]!.dot.num, AV.s a[i_1.toNat]!.sku, AV.i IntKind.i64 a[i_1.toNat]!.qty].length) ∧ ((0 : Int) ≤ i_1) ∧ ((List.map c28 b)[i_1.toNat]? = some (c28 b[i_1.toNat]!)) ∧ ((c28 b[i_1.toNat]!).length = (4 : Nat)) ∧ ((4 : Nat) ≤ [AV.i IntKind.i64 b[i_1.toNat]!.dot.rep, AV.i IntKind.i64 b[i_1.toNat]!.dot.num, AV.s b[i_1.toNat]!.sku, AV.i IntKind.i64 b[i_1.toNat]!.qty].length) ∧ (AggEq Try.prog (28 : Nat) [AV.i IntKind.i64 a[i_1.toNat]!.dot.rep, AV.i IntKind.i64 a[i_1.toNat]!.dot.num, AV.s a[i_1.toNat]!.sku, AV.i IntKind.i64 a[i_1.toNat]!.qty] [AV.i IntKind.i64 b[i_1.toNat]!.dot.rep, AV.i IntKind.i64 b[i_1.toNat]!.dot.num, AV.s b[i_1.toNat]!.sku, AV.i IntKind.i64 b[i_1.toNat]!.qty] !decide ¬a[i_1.toNat]! = b[i_1.toNat]!)) (σ' := ⟨[(0, .sl (List.map c28 a)), (1, .sl (List.map c28 b)), (5, .i .i64 (i_1)), (25, .b (decide ¬a[i_1.toNat]! = b[i_1.toNat]!))], []⟩) cx [(2, { row := (c28 a[i_1.toNat]!) }), (6, { row := (c28 b[i_1.toNat]!) }), (8, { val := some (.b (decide ¬a[i_1.toNat]! = b[i_1.toNat]!)) })] [0, 1, 5, 25] [] (by kernel_rfl) (by kernel_rfl) ⟨(by (with_reducible assumption)), (by (with_reducible refine get_map ?_; omega)), (by kernel_rfl), (by (simp only [List.length_append, List.length_cons, List.length_nil]; omega)), (by (with_reducible assumption)), (by (with_reducible refine get_map ?_; omega)), (by kernel_rfl), (by (simp only [List.length_append, List.length_cons, List.length_nil]; omega)), (aggNe_dec (eq28 a[i_1.toNat]! b[i_1.toNat]!))⟩ ?_
      refine q_seq_normal ?_
      refine st_dec (¬a[i_1.toNat]! = b[i_1.toNat]!) (by kernel_rfl) (by kernel_rfl) (fun h_7 => ?_) (fun h_7 => ?_)
      ·
        refine st_seq (by kernel_rfl) ?_
        refine st_reg (A := True) (σ' := ⟨[(4, .b (false))], []⟩) cx [] [4] [] (by kernel_rfl) (by kernel_rfl) trivial ?_
        refine q_seq_normal ?_
        refine st_ret (by kernel_rfl) ?_
        refine q_blk_ret ?_
        refine q_seq_ret ?_
        refine q_seq_ret ?_
        refine q_blk_ret ?_
        refine q_seq_ret ?_
        exact q_ret (r := .b (false)) (obl := []) (by kernel_rfl) trivial (AVle.eq (g2 h_0 i_1 h_3 h_4 h_5 h_6 h_7))
      ·
        refine st_skip (by kernel_rfl) ?_
        refine q_blk_normal ?_
        refine q_seq_normal ?_
        refine st_reg (A := (AV.i IntKind.i64 (IntKind.i64.wrap (i_1 + (1 : Int))) = AV.i IntKind.i64 (i_1 + (1 : Int)))) (σ' := ⟨[(0, .sl (List.map c28 a)), (1, .sl (List.map c28 b)), (5, .i .i64 (i_1 + (1 : Int)))], []⟩) cx [(1, { tell := some (.i .i64 (i_1 + (1 : Int))) })] [0, 1, 5] [] (by kernel_rfl) (by kernel_rfl) (told_i64 (by omega) (by omega)) ?_
        refine q_seq_normal ?_
        exact loop_next (i_1 + (1 : Int)) (by kernel_rfl) (show ((↑a.length : Int) - (i_1 + (1 : Int))).toNat < ((↑a.length : Int) - i_1).toNat from (by omega)) (g3 h_0 i_1 h_3 h_4 h_5 h_6 h_7)
    ·
      refine st_exit 0 (by kernel_rfl) ?_
      refine q_seq_exit ?_
      refine q_seq_exit ?_
      refine q_blk_hit ?_
      refine q_seq_normal ?_
      refine st_seq (by kernel_rfl) ?_
      refine st_reg (A := True) (σ' := ⟨[(4, .b (true))], []⟩) cx [] [4] [] (by kernel_rfl) (by kernel_rfl) trivial ?_
      refine q_seq_normal ?_
      refine st_ret (by kernel_rfl) ?_
      exact q_ret (r := .b (true)) (obl := []) (by kernel_rfl) trivial (AVle.eq (g4 h_0 i_1 h_3 h_4 h_5 h_6))
theorem con24 (a b : List Entry) : Con Try.prog 24 [.sl (a.map c28), .sl (b.map c28)] (.b (decide (a = b))) :=
  by
  refine walk24 a b (fun h => ?_) (fun h => ⟨by omega, by omega, fun j hj => by omega⟩) (fun h i h1 h2 h3 h4 h5 => ?_)
    (fun h i h1 h2 h3 h4 h5 => ⟨by omega, by omega, fun j hj => ?_⟩) (fun h i h1 h2 h3 h4 => ?_)
  · congr 1; symm; rw [decide_eq_false_iff_not]; rintro rfl; exact h rfl
  · congr 1; symm; rw [decide_eq_false_iff_not]; rintro rfl; exact h5 rfl
  · by_cases e : j = i.toNat
    · subst e; exact Classical.not_not.1 h5
    · exact h3 j (by omega)
  · congr 1; symm; rw [decide_eq_true_iff]; exact bang_eq (Classical.not_not.1 h) fun j hj => h3 j (by omega)
end Go.Proofs.Ytjngmlkaijpbgaa
