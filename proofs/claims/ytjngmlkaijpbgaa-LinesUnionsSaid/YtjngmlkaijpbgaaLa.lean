/- La: lines: entries in form. Conditions: none. -/
import Derived.Test.YtjngmlkaijpbgaaGa
set_option linter.unusedVariables false
set_option linter.unusedSimpArgs false
namespace Go.Proofs.Ytjngmlkaijpbgaa
open Go.E
set_option maxRecDepth 100000
set_option maxHeartbeats 4000000
def dLt (a b : Dot) : Bool := decide (a.rep < b.rep ∨ a.rep = b.rep ∧ a.num < b.num)
def entE (e : Entry) : Int := if e.dot.rep < 0 ∨ 16 ≤ e.dot.rep then 3 else if e.dot.num < 1 ∨ 1000000000 < e.dot.num then 2 else if good e.sku = false then 5 else if e.qty < 1 ∨ 1000000 < e.qty then 6 else 0
def okAt (es : List Entry) (i : Nat) : Bool := decide (entE es[i]! = 0) && (decide (i = 0) || dLt es[i - 1]!.dot es[i]!.dot)
def okL (es : List Entry) : Bool := allUp (okAt es) es.length
def lstE (es : List Entry) : Int := if okL es = true then 0 else 1
def invL (es : List Entry) (i : Int) : Prop := 0 ≤ i ∧ i ≤ es.length ∧ ∀ j : Nat, (j : Int) < i → okAt es j = true
def decL (es : List Entry) (i : Int) : Nat := (es.length - i).toNat
theorem lstE_bad {es : List Entry} {i : Nat} (hi : i < es.length) (h : okAt es i = false) : lstE es = 1 := by
  unfold lstE okL
  rw [if_neg]
  intro k
  have := (allUp_iff _ _).1 k i hi
  rw [h] at this; cases this
theorem lstE_ok {es : List Entry} (h : ∀ j : Nat, j < es.length → okAt es j = true) : lstE es = 0 := by
  unfold lstE okL
  rw [if_pos ((allUp_iff _ _).2 h)]
def inv30i {α : Type} (es : List α) (i : Int) : Prop := 0 ≤ i ∧ i ≤ es.length
def dec30i {α : Type} (es : List α) (i : Int) : Nat := (es.length - i).toNat
theorem okAt_iff (es : List Entry) (i : Nat) : okAt es i = true ↔ entE es[i]! = 0 ∧ (i = 0 ∨ dLt es[i - 1]!.dot es[i]!.dot = true) := by
  unfold okAt
  rw [Bool.and_eq_true, Bool.or_eq_true, decide_eq_true_iff, decide_eq_true_iff]
theorem invL_step {es : List Entry} {i : Int} (h0 : 0 ≤ i) (h1 : i < es.length) (h2 : ∀ j : Nat, (j : Int) < i → okAt es j = true) (h : okAt es i.toNat = true) : invL es (i + 1) :=
  ⟨by omega, by omega, fun j hj => by
    by_cases e : j = i.toNat
    · rw [e]; exact h
    · exact h2 j (by omega)⟩
theorem not_okAt {es : List Entry} {i : Nat} (h : ¬ okAt es i = true) : okAt es i = false := by simpa using h
theorem walk15 (rep : Int) (num : Int) (sku : ByteArray) (qty : Int)
    (g0 : AV.agg [AV.i IntKind.i64 rep, AV.i IntKind.i64 num, AV.s sku, AV.i IntKind.i64 qty] = AV.agg (c28 { dot := { rep := rep, num := num : Dot }, sku := sku, qty := qty : Entry })) :
    Con Try.prog (15 : FuncId) [AV.i IntKind.i64 rep, AV.i IntKind.i64 num, AV.s sku, AV.i IntKind.i64 qty] (AV.agg (c28 { dot := { rep := rep, num := num : Dot }, sku := sku, qty := qty : Entry })) := by
  refine st_con tab_ok (by kernel_rfl) [.cell 8 28] 15 Go.Proofs.Try.func15 (by kernel_rfl) (by kernel_rfl) ?_
  intro e0 cx
  refine st_seq (by kernel_rfl) ?_
  refine st_reg (A := True) (σ' := ⟨[(0, .i .i64 (rep)), (1, .i .i64 (num)), (2, .s (sku)), (3, .i .i64 (qty)), (8, .ptr (8) (0) (0) (0))], [(8, ⟨0, 28, .var [.i .i64 ((0 : Int)), .i .i64 ((0 : Int)), .s ({ data := #[] : ByteArray }), .i .i64 ((0 : Int))]⟩)]⟩) cx [] [0, 1, 2, 3, 8] [8] (by kernel_rfl) (by kernel_rfl) trivial ?_
  refine q_seq_normal ?_
  refine st_seq (by kernel_rfl) ?_
  refine st_reg (A := True) (σ' := ⟨[(8, .ptr (8) (0) (0) (0))], [(8, ⟨0, 28, .var [.i .i64 (rep), .i .i64 (num), .s (sku), .i .i64 (qty)]⟩)]⟩) cx [] [8] [8] (by kernel_rfl) (by kernel_rfl) trivial ?_
  refine q_seq_normal ?_
  refine st_ret (by kernel_rfl) ?_
  exact q_ret (r := .agg [.i .i64 (rep), .i .i64 (num), .s (sku), .i .i64 (qty)]) (obl := []) (by kernel_rfl) trivial (AVle.eq g0)
theorem con15 (rep num : Int) (sku : ByteArray) (qty : Int) : Con Try.prog 15 [.i .i64 rep, .i .i64 num, .s sku, .i .i64 qty] (.agg (c28 ⟨⟨rep, num⟩, sku, qty⟩)) :=
  walk15 rep num sku qty rfl
theorem walk14 (e : Entry)
    (g0 : e.dot.rep < (0 : Int) ∨ (16 : Int) ≤ e.dot.rep → AV.i IntKind.i64 (3 : Int) = AV.i IntKind.i64 (entE e))
    (g1 : ¬(e.dot.rep < (0 : Int) ∨ (16 : Int) ≤ e.dot.rep) → e.dot.num < (1 : Int) ∨ (1000000000 : Int) < e.dot.num → AV.i IntKind.i64 (2 : Int) = AV.i IntKind.i64 (entE e))
    (g2 : ¬(e.dot.rep < (0 : Int) ∨ (16 : Int) ≤ e.dot.rep) → ¬(e.dot.num < (1 : Int) ∨ (1000000000 : Int) < e.dot.num) → ¬good e.sku = true → AV.i IntKind.i64 (5 : Int) = AV.i IntKind.i64 (entE e))
    (g3 : ¬(e.dot.rep < (0 : Int) ∨ (16 : Int) ≤ e.dot.rep) → ¬(e.dot.num < (1 : Int) ∨ (1000000000 : Int) < e.dot.num) → ¬¬good e.sku = true → e.qty < (1 : Int) ∨ (1000000 : Int) < e.qty → AV.i IntKind.i64 (6 : Int) = AV.i IntKind.i64 (entE e))
    (g4 : ¬(e.dot.rep < (0 : Int) ∨ (16 : Int) ≤ e.dot.rep) → ¬(e.dot.num < (1 : Int) ∨ (1000000000 : Int) < e.dot.num) → ¬¬good e.sku = true → ¬(e.qty < (1 : Int) ∨ (1000000 : Int) < e.qty) → AV.i IntKind.i64 (0 : Int) = AV.i IntKind.i64 (entE e)) :
    Con Try.prog (14 : FuncId) [AV.agg (c28 e)] (AV.i IntKind.i64 (entE e)) := by
  refine st_con tab_ok (by kernel_rfl) [.tmp 2] 39 Go.Proofs.Try.func14 (by kernel_rfl) (by kernel_rfl) ?_
  intro e0 cx
  refine st_seq (by kernel_rfl) ?_
  refine st_reg (A := True) (σ' := ⟨[(1, .ptr (1) (0) (0) (0))], [(1, ⟨0, 28, .var [.i .i64 (e.dot.rep), .i .i64 (e.dot.num), .s (e.sku), .i .i64 (e.qty)]⟩)]⟩) cx [] [1] [1] (by kernel_rfl) (by kernel_rfl) trivial ?_
  refine q_seq_normal ?_
  refine st_seq (by kernel_rfl) ?_
  refine st_block 0 (by kernel_rfl) ?_
  refine st_seq (by kernel_rfl) ?_
  refine st_join (σ' := ⟨[(1, .ptr (1) (0) (0) (0)), (3, .b (decide (e.dot.rep < (0 : Int) ∨ (16 : Int) ≤ e.dot.rep)))], [(1, ⟨0, 28, .var [.i .i64 (e.dot.rep), .i .i64 (e.dot.num), .s (e.sku), .i .i64 (e.qty)]⟩)]⟩) ?_ ?_
  ·
    refine st_split (e.dot.rep < (0 : Int)) (fun h_1 => ?_) (fun h_1 => ?_)
    ·
      refine st_reg (A := (AV.b (decide (e.dot.rep < (0 : Int))) = AV.b true) ∧ (AV.b true = AV.b (decide (e.dot.rep < (0 : Int) ∨ (16 : Int) ≤ e.dot.rep)))) (σ' := ⟨[(1, .ptr (1) (0) (0) (0)), (3, .b (decide (e.dot.rep < (0 : Int) ∨ (16 : Int) ≤ e.dot.rep)))], [(1, ⟨0, 28, .var [.i .i64 (e.dot.rep), .i .i64 (e.dot.num), .s (e.sku), .i .i64 (e.qty)]⟩)]⟩) cx [(3, { tell := some (.b (true)) }), (10, { tell := some (.b (decide (e.dot.rep < (0 : Int) ∨ (16 : Int) ≤ e.dot.rep))) })] [1, 3] [1] (by kernel_rfl) (by kernel_rfl) ⟨(told_true h_1), (by simp only [eq_true h_1, told_simp1, told_simp2, and_true, true_and, and_false, false_and, or_true, true_or, or_false, false_or, not_true_eq_false, not_false_eq_true, decide_true, decide_false, Bool.decide_eq_true])⟩ ?_
      exact ⟨rfl, rfl⟩
    ·
      refine st_reg (A := (AV.b (decide (e.dot.rep < (0 : Int))) = AV.b false) ∧ (AV.b (decide (e.dot.rep ≥ (16 : Int))) = AV.b (decide ((16 : Int) ≤ e.dot.rep))) ∧ (AV.b (decide ((16 : Int) ≤ e.dot.rep)) = AV.b (decide (e.dot.rep < (0 : Int) ∨ (16 : Int) ≤ e.dot.rep)))) (σ' := ⟨[(1, .ptr (1) (0) (0) (0)), (3, .b (decide (e.dot.rep < (0 : Int) ∨ (16 : Int) ≤ e.dot.rep)))], [(1, ⟨0, 28, .var [.i .i64 (e.dot.rep), .i .i64 (e.dot.num), .s (e.sku), .i .i64 (e.qty)]⟩)]⟩) cx [(3, { tell := some (.b (false)) }), (8, { tell := some (.b (decide ((16 : Int) ≤ e.dot.rep))) }), (10, { tell := some (.b (decide (e.dot.rep < (0 : Int) ∨ (16 : Int) ≤ e.dot.rep))) })] [1, 3] [1] (by kernel_rfl) (by kernel_rfl) ⟨(told_false h_1), (by kernel_rfl), (by simp only [eq_false h_1, told_simp1, told_simp2, and_true, true_and, and_false, false_and, or_true, true_or, or_false, false_or, not_true_eq_false, not_false_eq_true, decide_true, decide_false, Bool.decide_eq_true])⟩ ?_
      exact ⟨rfl, rfl⟩
  ·
    refine q_seq_normal ?_
    refine st_dec (e.dot.rep < (0 : Int) ∨ (16 : Int) ≤ e.dot.rep) (by kernel_rfl) (by kernel_rfl) (fun h_2 => ?_) (fun h_2 => ?_)
    ·
      refine st_seq (by kernel_rfl) ?_
      refine st_reg (A := True) (σ' := ⟨[(2, .i .i64 ((3 : Int)))], []⟩) cx [] [2] [] (by kernel_rfl) (by kernel_rfl) trivial ?_
      refine q_seq_normal ?_
      refine st_ret (by kernel_rfl) ?_
      refine q_blk_ret ?_
      refine q_seq_ret ?_
      exact q_ret (r := .i .i64 ((3 : Int))) (obl := []) (by kernel_rfl) trivial (AVle.eq (g0 h_2))
    ·
      refine st_seq (by kernel_rfl) ?_
      refine st_join (σ' := ⟨[(1, .ptr (1) (0) (0) (0)), (14, .b (decide (e.dot.num < (1 : Int) ∨ (1000000000 : Int) < e.dot.num)))], [(1, ⟨0, 28, .var [.i .i64 (e.dot.rep), .i .i64 (e.dot.num), .s (e.sku), .i .i64 (e.qty)]⟩)]⟩) ?_ ?_
      ·
        refine st_split (e.dot.num < (1 : Int)) (fun h_4 => ?_) (fun h_4 => ?_)
        ·
          refine st_reg (A := (AV.b (decide (e.dot.num < (1 : Int))) = AV.b true) ∧ (AV.b true = AV.b (decide (e.dot.num < (1 : Int) ∨ (1000000000 : Int) < e.dot.num)))) (σ' := ⟨[(1, .ptr (1) (0) (0) (0)), (14, .b (decide (e.dot.num < (1 : Int) ∨ (1000000000 : Int) < e.dot.num)))], [(1, ⟨0, 28, .var [.i .i64 (e.dot.rep), .i .i64 (e.dot.num), .s (e.sku), .i .i64 (e.qty)]⟩)]⟩) cx [(3, { tell := some (.b (true)) }), (10, { tell := some (.b (decide (e.dot.num < (1 : Int) ∨ (1000000000 : Int) < e.dot.num))) })] [1, 14] [1] (by kernel_rfl) (by kernel_rfl) ⟨(told_true h_4), (by simp only [eq_true h_4, told_simp1, told_simp2, and_true, true_and, and_false, false_and, or_true, true_or, or_false, false_or, not_true_eq_false, not_false_eq_true, decide_true, decide_false, Bool.decide_eq_true])⟩ ?_
          exact ⟨rfl, rfl⟩
        ·
          refine st_reg (A := (AV.b (decide (e.dot.num < (1 : Int))) = AV.b false) ∧ (AV.b (decide (e.dot.num > (1000000000 : Int))) = AV.b (decide ((1000000000 : Int) < e.dot.num))) ∧ (AV.b (decide ((1000000000 : Int) < e.dot.num)) = AV.b (decide (e.dot.num < (1 : Int) ∨ (1000000000 : Int) < e.dot.num)))) (σ' := ⟨[(1, .ptr (1) (0) (0) (0)), (14, .b (decide (e.dot.num < (1 : Int) ∨ (1000000000 : Int) < e.dot.num)))], [(1, ⟨0, 28, .var [.i .i64 (e.dot.rep), .i .i64 (e.dot.num), .s (e.sku), .i .i64 (e.qty)]⟩)]⟩) cx [(3, { tell := some (.b (false)) }), (8, { tell := some (.b (decide ((1000000000 : Int) < e.dot.num))) }), (10, { tell := some (.b (decide (e.dot.num < (1 : Int) ∨ (1000000000 : Int) < e.dot.num))) })] [1, 14] [1] (by kernel_rfl) (by kernel_rfl) ⟨(told_false h_4), (by kernel_rfl), (by simp only [eq_false h_4, told_simp1, told_simp2, and_true, true_and, and_false, false_and, or_true, true_or, or_false, false_or, not_true_eq_false, not_false_eq_true, decide_true, decide_false, Bool.decide_eq_true])⟩ ?_
          exact ⟨rfl, rfl⟩
      ·
        refine q_seq_normal ?_
        refine st_dec (e.dot.num < (1 : Int) ∨ (1000000000 : Int) < e.dot.num) (by kernel_rfl) (by kernel_rfl) (fun h_5 => ?_) (fun h_5 => ?_)
        ·
          refine st_seq (by kernel_rfl) ?_
          refine st_reg (A := True) (σ' := ⟨[(2, .i .i64 ((2 : Int)))], []⟩) cx [] [2] [] (by kernel_rfl) (by kernel_rfl) trivial ?_
          refine q_seq_normal ?_
          refine st_ret (by kernel_rfl) ?_
          refine q_blk_ret ?_
          refine q_seq_ret ?_
          exact q_ret (r := .i .i64 ((2 : Int))) (obl := []) (by kernel_rfl) trivial (AVle.eq (g1 h_2 h_5))
        ·
          refine st_seq (by kernel_rfl) ?_
          refine st_reg (A := (Con Try.prog (47 : FuncId) [AV.s e.sku] (AV.b (good e.sku))) ∧ ((AV.b !good e.sku) = AV.b (decide ¬good e.sku = true))) (σ' := ⟨[(1, .ptr (1) (0) (0) (0)), (25, .b (decide ¬good e.sku = true))], [(1, ⟨0, 28, .var [.i .i64 (e.dot.rep), .i .i64 (e.dot.num), .s (e.sku), .i .i64 (e.qty)]⟩)]⟩) cx [(2, { val := some (.b (good e.sku)) }), (3, { tell := some (.b (decide ¬good e.sku = true)) })] [1, 25] [1] (by kernel_rfl) (by kernel_rfl) ⟨(con47 (e.sku)), (told_not)⟩ ?_
          refine q_seq_normal ?_
          refine st_dec (¬good e.sku = true) (by kernel_rfl) (by kernel_rfl) (fun h_6 => ?_) (fun h_6 => ?_)
          ·
            refine st_seq (by kernel_rfl) ?_
            refine st_reg (A := True) (σ' := ⟨[(2, .i .i64 ((5 : Int)))], []⟩) cx [] [2] [] (by kernel_rfl) (by kernel_rfl) trivial ?_
            refine q_seq_normal ?_
            refine st_ret (by kernel_rfl) ?_
            refine q_blk_ret ?_
            refine q_seq_ret ?_
            exact q_ret (r := .i .i64 ((5 : Int))) (obl := []) (by kernel_rfl) trivial (AVle.eq (g2 h_2 h_5 h_6))
          ·
            refine st_seq (by kernel_rfl) ?_
            refine st_join (σ' := ⟨[(30, .b (decide (e.qty < (1 : Int) ∨ (1000000 : Int) < e.qty)))], []⟩) ?_ ?_
            ·
              refine st_split (e.qty < (1 : Int)) (fun h_8 => ?_) (fun h_8 => ?_)
              ·
                refine st_reg (A := (AV.b (decide (e.qty < (1 : Int))) = AV.b true) ∧ (AV.b true = AV.b (decide (e.qty < (1 : Int) ∨ (1000000 : Int) < e.qty)))) (σ' := ⟨[(30, .b (decide (e.qty < (1 : Int) ∨ (1000000 : Int) < e.qty)))], []⟩) cx [(2, { tell := some (.b (true)) }), (8, { tell := some (.b (decide (e.qty < (1 : Int) ∨ (1000000 : Int) < e.qty))) })] [30] [] (by kernel_rfl) (by kernel_rfl) ⟨(told_true h_8), (by simp only [eq_true h_8, told_simp1, told_simp2, and_true, true_and, and_false, false_and, or_true, true_or, or_false, false_or, not_true_eq_false, not_false_eq_true, decide_true, decide_false, Bool.decide_eq_true])⟩ ?_
                exact ⟨rfl, rfl⟩
              ·
                refine st_reg (A := (AV.b (decide (e.qty < (1 : Int))) = AV.b false) ∧ (AV.b (decide (e.qty > (1000000 : Int))) = AV.b (decide ((1000000 : Int) < e.qty))) ∧ (AV.b (decide ((1000000 : Int) < e.qty)) = AV.b (decide (e.qty < (1 : Int) ∨ (1000000 : Int) < e.qty)))) (σ' := ⟨[(30, .b (decide (e.qty < (1 : Int) ∨ (1000000 : Int) < e.qty)))], []⟩) cx [(2, { tell := some (.b (false)) }), (6, { tell := some (.b (decide ((1000000 : Int) < e.qty))) }), (8, { tell := some (.b (decide (e.qty < (1 : Int) ∨ (1000000 : Int) < e.qty))) })] [30] [] (by kernel_rfl) (by kernel_rfl) ⟨(told_false h_8), (by kernel_rfl), (by simp only [eq_false h_8, told_simp1, told_simp2, and_true, true_and, and_false, false_and, or_true, true_or, or_false, false_or, not_true_eq_false, not_false_eq_true, decide_true, decide_false, Bool.decide_eq_true])⟩ ?_
                exact ⟨rfl, rfl⟩
            ·
              refine q_seq_normal ?_
              refine st_dec (e.qty < (1 : Int) ∨ (1000000 : Int) < e.qty) (by kernel_rfl) (by kernel_rfl) (fun h_9 => ?_) (fun h_9 => ?_)
              ·
                refine st_seq (by kernel_rfl) ?_
                refine st_reg (A := True) (σ' := ⟨[(2, .i .i64 ((6 : Int)))], []⟩) cx [] [2] [] (by kernel_rfl) (by kernel_rfl) trivial ?_
                refine q_seq_normal ?_
                refine st_ret (by kernel_rfl) ?_
                refine q_blk_ret ?_
                refine q_seq_ret ?_
                exact q_ret (r := .i .i64 ((6 : Int))) (obl := []) (by kernel_rfl) trivial (AVle.eq (g3 h_2 h_5 h_6 h_9))
              ·
                refine st_skip (by kernel_rfl) ?_
                refine q_blk_normal ?_
                refine q_seq_normal ?_
                refine st_seq (by kernel_rfl) ?_
                refine st_reg (A := True) (σ' := ⟨[(2, .i .i64 ((0 : Int)))], []⟩) cx [] [2] [] (by kernel_rfl) (by kernel_rfl) trivial ?_
                refine q_seq_normal ?_
                refine st_ret (by kernel_rfl) ?_
                exact q_ret (r := .i .i64 ((0 : Int))) (obl := []) (by kernel_rfl) trivial (AVle.eq (g4 h_2 h_5 h_6 h_9))
theorem con14 (e : Entry) : Con Try.prog 14 [.agg (c28 e)] (.i .i64 (entE e)) :=
  by
  refine walk14 e (fun h => ?_) (fun h k => ?_) (fun h k l => ?_) (fun h k l m => ?_) (fun h k l m => ?_) <;> unfold entE
  · rw [if_pos h]
  · rw [if_neg h, if_pos k]
  · rw [if_neg h, if_neg k, if_pos (by simpa using l)]
  · rw [if_neg h, if_neg k, if_neg (by simpa using l), if_pos m]
  · rw [if_neg h, if_neg k, if_neg (by simpa using l), if_neg m]
theorem walk19 (e : Entry)
    (g0 : e.dot.rep < (0 : Int) ∨ (16 : Int) ≤ e.dot.rep → AV.i IntKind.i64 (3 : Int) = AV.i IntKind.i64 (entE e))
    (g1 : ¬(e.dot.rep < (0 : Int) ∨ (16 : Int) ≤ e.dot.rep) → e.dot.num < (1 : Int) ∨ (1000000000 : Int) < e.dot.num → AV.i IntKind.i64 (2 : Int) = AV.i IntKind.i64 (entE e))
    (g2 : ¬(e.dot.rep < (0 : Int) ∨ (16 : Int) ≤ e.dot.rep) → ¬(e.dot.num < (1 : Int) ∨ (1000000000 : Int) < e.dot.num) → ¬good e.sku = true → AV.i IntKind.i64 (5 : Int) = AV.i IntKind.i64 (entE e))
    (g3 : ¬(e.dot.rep < (0 : Int) ∨ (16 : Int) ≤ e.dot.rep) → ¬(e.dot.num < (1 : Int) ∨ (1000000000 : Int) < e.dot.num) → ¬¬good e.sku = true → e.qty < (1 : Int) ∨ (1000000 : Int) < e.qty → AV.i IntKind.i64 (6 : Int) = AV.i IntKind.i64 (entE e))
    (g4 : ¬(e.dot.rep < (0 : Int) ∨ (16 : Int) ≤ e.dot.rep) → ¬(e.dot.num < (1 : Int) ∨ (1000000000 : Int) < e.dot.num) → ¬¬good e.sku = true → ¬(e.qty < (1 : Int) ∨ (1000000 : Int) < e.qty) → AV.i IntKind.i64 (0 : Int) = AV.i IntKind.i64 (entE e)) :
    Con Try.prog (19 : FuncId) [AV.agg (c28 e)] (AV.i IntKind.i64 (entE e)) := by
  refine st_con tab_ok (by kernel_rfl) [.tmp 2] 39 Go.Proofs.Try.func19 (by kernel_rfl) (by kernel_rfl) ?_
  intro e0 cx
  refine st_seq (by kernel_rfl) ?_
  refine st_reg (A := True) (σ' := ⟨[(1, .ptr (1) (0) (0) (0))], [(1, ⟨0, 28, .var [.i .i64 (e.dot.rep), .i .i64 (e.dot.num), .s (e.sku), .i .i64 (e.qty)]⟩)]⟩) cx [] [1] [1] (by kernel_rfl) (by kernel_rfl) trivial ?_
  refine q_seq_normal ?_
  refine st_seq (by kernel_rfl) ?_
  refine st_block 0 (by kernel_rfl) ?_
  refine st_seq (by kernel_rfl) ?_
  refine st_join (σ' := ⟨[(1, .ptr (1) (0) (0) (0)), (3, .b (decide (e.dot.rep < (0 : Int) ∨ (16 : Int) ≤ e.dot.rep)))], [(1, ⟨0, 28, .var [.i .i64 (e.dot.rep), .i .i64 (e.dot.num), .s (e.sku), .i .i64 (e.qty)]⟩)]⟩) ?_ ?_
  ·
    refine st_split (e.dot.rep < (0 : Int)) (fun h_1 => ?_) (fun h_1 => ?_)
    ·
      refine st_reg (A := (AV.b (decide (e.dot.rep < (0 : Int))) = AV.b true) ∧ (AV.b true = AV.b (decide (e.dot.rep < (0 : Int) ∨ (16 : Int) ≤ e.dot.rep)))) (σ' := ⟨[(1, .ptr (1) (0) (0) (0)), (3, .b (decide (e.dot.rep < (0 : Int) ∨ (16 : Int) ≤ e.dot.rep)))], [(1, ⟨0, 28, .var [.i .i64 (e.dot.rep), .i .i64 (e.dot.num), .s (e.sku), .i .i64 (e.qty)]⟩)]⟩) cx [(3, { tell := some (.b (true)) }), (10, { tell := some (.b (decide (e.dot.rep < (0 : Int) ∨ (16 : Int) ≤ e.dot.rep))) })] [1, 3] [1] (by kernel_rfl) (by kernel_rfl) ⟨(told_true h_1), (by simp only [eq_true h_1, told_simp1, told_simp2, and_true, true_and, and_false, false_and, or_true, true_or, or_false, false_or, not_true_eq_false, not_false_eq_true, decide_true, decide_false, Bool.decide_eq_true])⟩ ?_
      exact ⟨rfl, rfl⟩
    ·
      refine st_reg (A := (AV.b (decide (e.dot.rep < (0 : Int))) = AV.b false) ∧ (AV.b (decide (e.dot.rep ≥ (16 : Int))) = AV.b (decide ((16 : Int) ≤ e.dot.rep))) ∧ (AV.b (decide ((16 : Int) ≤ e.dot.rep)) = AV.b (decide (e.dot.rep < (0 : Int) ∨ (16 : Int) ≤ e.dot.rep)))) (σ' := ⟨[(1, .ptr (1) (0) (0) (0)), (3, .b (decide (e.dot.rep < (0 : Int) ∨ (16 : Int) ≤ e.dot.rep)))], [(1, ⟨0, 28, .var [.i .i64 (e.dot.rep), .i .i64 (e.dot.num), .s (e.sku), .i .i64 (e.qty)]⟩)]⟩) cx [(3, { tell := some (.b (false)) }), (8, { tell := some (.b (decide ((16 : Int) ≤ e.dot.rep))) }), (10, { tell := some (.b (decide (e.dot.rep < (0 : Int) ∨ (16 : Int) ≤ e.dot.rep))) })] [1, 3] [1] (by kernel_rfl) (by kernel_rfl) ⟨(told_false h_1), (by kernel_rfl), (by simp only [eq_false h_1, told_simp1, told_simp2, and_true, true_and, and_false, false_and, or_true, true_or, or_false, false_or, not_true_eq_false, not_false_eq_true, decide_true, decide_false, Bool.decide_eq_true])⟩ ?_
      exact ⟨rfl, rfl⟩
  ·
    refine q_seq_normal ?_
    refine st_dec (e.dot.rep < (0 : Int) ∨ (16 : Int) ≤ e.dot.rep) (by kernel_rfl) (by kernel_rfl) (fun h_2 => ?_) (fun h_2 => ?_)
    ·
      refine st_seq (by kernel_rfl) ?_
      refine st_reg (A := True) (σ' := ⟨[(2, .i .i64 ((3 : Int)))], []⟩) cx [] [2] [] (by kernel_rfl) (by kernel_rfl) trivial ?_
      refine q_seq_normal ?_
      refine st_ret (by kernel_rfl) ?_
      refine q_blk_ret ?_
      refine q_seq_ret ?_
      exact q_ret (r := .i .i64 ((3 : Int))) (obl := []) (by kernel_rfl) trivial (AVle.eq (g0 h_2))
    ·
      refine st_seq (by kernel_rfl) ?_
      refine st_join (σ' := ⟨[(1, .ptr (1) (0) (0) (0)), (14, .b (decide (e.dot.num < (1 : Int) ∨ (1000000000 : Int) < e.dot.num)))], [(1, ⟨0, 28, .var [.i .i64 (e.dot.rep), .i .i64 (e.dot.num), .s (e.sku), .i .i64 (e.qty)]⟩)]⟩) ?_ ?_
      ·
        refine st_split (e.dot.num < (1 : Int)) (fun h_4 => ?_) (fun h_4 => ?_)
        ·
          refine st_reg (A := (AV.b (decide (e.dot.num < (1 : Int))) = AV.b true) ∧ (AV.b true = AV.b (decide (e.dot.num < (1 : Int) ∨ (1000000000 : Int) < e.dot.num)))) (σ' := ⟨[(1, .ptr (1) (0) (0) (0)), (14, .b (decide (e.dot.num < (1 : Int) ∨ (1000000000 : Int) < e.dot.num)))], [(1, ⟨0, 28, .var [.i .i64 (e.dot.rep), .i .i64 (e.dot.num), .s (e.sku), .i .i64 (e.qty)]⟩)]⟩) cx [(3, { tell := some (.b (true)) }), (10, { tell := some (.b (decide (e.dot.num < (1 : Int) ∨ (1000000000 : Int) < e.dot.num))) })] [1, 14] [1] (by kernel_rfl) (by kernel_rfl) ⟨(told_true h_4), (by simp only [eq_true h_4, told_simp1, told_simp2, and_true, true_and, and_false, false_and, or_true, true_or, or_false, false_or, not_true_eq_false, not_false_eq_true, decide_true, decide_false, Bool.decide_eq_true])⟩ ?_
          exact ⟨rfl, rfl⟩
        ·
          refine st_reg (A := (AV.b (decide (e.dot.num < (1 : Int))) = AV.b false) ∧ (AV.b (decide (e.dot.num > (1000000000 : Int))) = AV.b (decide ((1000000000 : Int) < e.dot.num))) ∧ (AV.b (decide ((1000000000 : Int) < e.dot.num)) = AV.b (decide (e.dot.num < (1 : Int) ∨ (1000000000 : Int) < e.dot.num)))) (σ' := ⟨[(1, .ptr (1) (0) (0) (0)), (14, .b (decide (e.dot.num < (1 : Int) ∨ (1000000000 : Int) < e.dot.num)))], [(1, ⟨0, 28, .var [.i .i64 (e.dot.rep), .i .i64 (e.dot.num), .s (e.sku), .i .i64 (e.qty)]⟩)]⟩) cx [(3, { tell := some (.b (false)) }), (8, { tell := some (.b (decide ((1000000000 : Int) < e.dot.num))) }), (10, { tell := some (.b (decide (e.dot.num < (1 : Int) ∨ (1000000000 : Int) < e.dot.num))) })] [1, 14] [1] (by kernel_rfl) (by kernel_rfl) ⟨(told_false h_4), (by kernel_rfl), (by simp only [eq_false h_4, told_simp1, told_simp2, and_true, true_and, and_false, false_and, or_true, true_or, or_false, false_or, not_true_eq_false, not_false_eq_true, decide_true, decide_false, Bool.decide_eq_true])⟩ ?_
          exact ⟨rfl, rfl⟩
      ·
        refine q_seq_normal ?_
        refine st_dec (e.dot.num < (1 : Int) ∨ (1000000000 : Int) < e.dot.num) (by kernel_rfl) (by kernel_rfl) (fun h_5 => ?_) (fun h_5 => ?_)
        ·
          refine st_seq (by kernel_rfl) ?_
          refine st_reg (A := True) (σ' := ⟨[(2, .i .i64 ((2 : Int)))], []⟩) cx [] [2] [] (by kernel_rfl) (by kernel_rfl) trivial ?_
          refine q_seq_normal ?_
          refine st_ret (by kernel_rfl) ?_
          refine q_blk_ret ?_
          refine q_seq_ret ?_
          exact q_ret (r := .i .i64 ((2 : Int))) (obl := []) (by kernel_rfl) trivial (AVle.eq (g1 h_2 h_5))
        ·
          refine st_seq (by kernel_rfl) ?_
          refine st_reg (A := (Con Try.prog (50 : FuncId) [AV.s e.sku] (AV.b (good e.sku))) ∧ ((AV.b !good e.sku) = AV.b (decide ¬good e.sku = true))) (σ' := ⟨[(1, .ptr (1) (0) (0) (0)), (25, .b (decide ¬good e.sku = true))], [(1, ⟨0, 28, .var [.i .i64 (e.dot.rep), .i .i64 (e.dot.num), .s (e.sku), .i .i64 (e.qty)]⟩)]⟩) cx [(2, { val := some (.b (good e.sku)) }), (3, { tell := some (.b (decide ¬good e.sku = true)) })] [1, 25] [1] (by kernel_rfl) (by kernel_rfl) ⟨(con50 (e.sku)), (told_not)⟩ ?_
          refine q_seq_normal ?_
          refine st_dec (¬good e.sku = true) (by kernel_rfl) (by kernel_rfl) (fun h_6 => ?_) (fun h_6 => ?_)
          ·
            refine st_seq (by kernel_rfl) ?_
            refine st_reg (A := True) (σ' := ⟨[(2, .i .i64 ((5 : Int)))], []⟩) cx [] [2] [] (by kernel_rfl) (by kernel_rfl) trivial ?_
            refine q_seq_normal ?_
            refine st_ret (by kernel_rfl) ?_
            refine q_blk_ret ?_
            refine q_seq_ret ?_
            exact q_ret (r := .i .i64 ((5 : Int))) (obl := []) (by kernel_rfl) trivial (AVle.eq (g2 h_2 h_5 h_6))
          ·
            refine st_seq (by kernel_rfl) ?_
            refine st_join (σ' := ⟨[(30, .b (decide (e.qty < (1 : Int) ∨ (1000000 : Int) < e.qty)))], []⟩) ?_ ?_
            ·
              refine st_split (e.qty < (1 : Int)) (fun h_8 => ?_) (fun h_8 => ?_)
              ·
                refine st_reg (A := (AV.b (decide (e.qty < (1 : Int))) = AV.b true) ∧ (AV.b true = AV.b (decide (e.qty < (1 : Int) ∨ (1000000 : Int) < e.qty)))) (σ' := ⟨[(30, .b (decide (e.qty < (1 : Int) ∨ (1000000 : Int) < e.qty)))], []⟩) cx [(2, { tell := some (.b (true)) }), (8, { tell := some (.b (decide (e.qty < (1 : Int) ∨ (1000000 : Int) < e.qty))) })] [30] [] (by kernel_rfl) (by kernel_rfl) ⟨(told_true h_8), (by simp only [eq_true h_8, told_simp1, told_simp2, and_true, true_and, and_false, false_and, or_true, true_or, or_false, false_or, not_true_eq_false, not_false_eq_true, decide_true, decide_false, Bool.decide_eq_true])⟩ ?_
                exact ⟨rfl, rfl⟩
              ·
                refine st_reg (A := (AV.b (decide (e.qty < (1 : Int))) = AV.b false) ∧ (AV.b (decide (e.qty > (1000000 : Int))) = AV.b (decide ((1000000 : Int) < e.qty))) ∧ (AV.b (decide ((1000000 : Int) < e.qty)) = AV.b (decide (e.qty < (1 : Int) ∨ (1000000 : Int) < e.qty)))) (σ' := ⟨[(30, .b (decide (e.qty < (1 : Int) ∨ (1000000 : Int) < e.qty)))], []⟩) cx [(2, { tell := some (.b (false)) }), (6, { tell := some (.b (decide ((1000000 : Int) < e.qty))) }), (8, { tell := some (.b (decide (e.qty < (1 : Int) ∨ (1000000 : Int) < e.qty))) })] [30] [] (by kernel_rfl) (by kernel_rfl) ⟨(told_false h_8), (by kernel_rfl), (by simp only [eq_false h_8, told_simp1, told_simp2, and_true, true_and, and_false, false_and, or_true, true_or, or_false, false_or, not_true_eq_false, not_false_eq_true, decide_true, decide_false, Bool.decide_eq_true])⟩ ?_
                exact ⟨rfl, rfl⟩
            ·
              refine q_seq_normal ?_
              refine st_dec (e.qty < (1 : Int) ∨ (1000000 : Int) < e.qty) (by kernel_rfl) (by kernel_rfl) (fun h_9 => ?_) (fun h_9 => ?_)
              ·
                refine st_seq (by kernel_rfl) ?_
                refine st_reg (A := True) (σ' := ⟨[(2, .i .i64 ((6 : Int)))], []⟩) cx [] [2] [] (by kernel_rfl) (by kernel_rfl) trivial ?_
                refine q_seq_normal ?_
                refine st_ret (by kernel_rfl) ?_
                refine q_blk_ret ?_
                refine q_seq_ret ?_
                exact q_ret (r := .i .i64 ((6 : Int))) (obl := []) (by kernel_rfl) trivial (AVle.eq (g3 h_2 h_5 h_6 h_9))
              ·
                refine st_skip (by kernel_rfl) ?_
                refine q_blk_normal ?_
                refine q_seq_normal ?_
                refine st_seq (by kernel_rfl) ?_
                refine st_reg (A := True) (σ' := ⟨[(2, .i .i64 ((0 : Int)))], []⟩) cx [] [2] [] (by kernel_rfl) (by kernel_rfl) trivial ?_
                refine q_seq_normal ?_
                refine st_ret (by kernel_rfl) ?_
                exact q_ret (r := .i .i64 ((0 : Int))) (obl := []) (by kernel_rfl) trivial (AVle.eq (g4 h_2 h_5 h_6 h_9))
theorem con19 (e : Entry) : Con Try.prog 19 [.agg (c28 e)] (.i .i64 (entE e)) :=
  by
  refine walk19 e (fun h => ?_) (fun h k => ?_) (fun h k l => ?_) (fun h k l m => ?_) (fun h k l m => ?_) <;> unfold entE
  · rw [if_pos h]
  · rw [if_neg h, if_pos k]
  · rw [if_neg h, if_neg k, if_pos (by simpa using l)]
  · rw [if_neg h, if_neg k, if_neg (by simpa using l), if_pos m]
  · rw [if_neg h, if_neg k, if_neg (by simpa using l), if_neg m]
theorem walk48 (a : Dot) (b : Dot)
    (g0 : AV.b (decide (a.rep < b.rep ∨ a.rep = b.rep ∧ a.num < b.num)) = AV.b (dLt a b)) :
    Con Try.prog (48 : FuncId) [AV.agg (c26 a), AV.agg (c26 b)] (AV.b (dLt a b)) := by
  refine st_con tab_ok (by kernel_rfl) [.tmp 4] 24 Go.Proofs.Try.func48 (by kernel_rfl) (by kernel_rfl) ?_
  intro e0 cx
  refine st_seq (by kernel_rfl) ?_
  refine st_reg (A := True) (σ' := ⟨[(2, .ptr (2) (0) (0) (0)), (3, .ptr (3) (0) (0) (0))], [(2, ⟨0, 26, .var [.i .i64 (a.rep), .i .i64 (a.num)]⟩), (3, ⟨0, 26, .var [.i .i64 (b.rep), .i .i64 (b.num)]⟩)]⟩) cx [] [2, 3] [2, 3] (by kernel_rfl) (by kernel_rfl) trivial ?_
  refine q_seq_normal ?_
  refine st_seq (by kernel_rfl) ?_
  refine st_join (σ' := ⟨[(4, .b (decide (a.rep < b.rep ∨ a.rep = b.rep ∧ a.num < b.num)))], []⟩) ?_ ?_
  ·
    refine st_split (a.rep < b.rep) (fun h_1 => ?_) (fun h_1 => ?_)
    ·
      refine st_reg (A := (AV.b (decide (a.rep < b.rep)) = AV.b true) ∧ (AV.b true = AV.b (decide (a.rep < b.rep ∨ a.rep = b.rep ∧ a.num < b.num)))) (σ' := ⟨[(4, .b (decide (a.rep < b.rep ∨ a.rep = b.rep ∧ a.num < b.num)))], []⟩) cx [(4, { tell := some (.b (true)) }), (19, { tell := some (.b (decide (a.rep < b.rep ∨ a.rep = b.rep ∧ a.num < b.num))) })] [4] [] (by kernel_rfl) (by kernel_rfl) ⟨(told_true h_1), (by simp only [eq_true h_1, told_simp1, told_simp2, and_true, true_and, and_false, false_and, or_true, true_or, or_false, false_or, not_true_eq_false, not_false_eq_true, decide_true, decide_false, Bool.decide_eq_true])⟩ ?_
      exact ⟨rfl, rfl⟩
    ·
      refine st_split (a.rep = b.rep) (fun h_2 => ?_) (fun h_2 => ?_)
      ·
        refine st_reg (A := (AV.b (decide (a.rep < b.rep)) = AV.b false) ∧ (AV.b (a.rep == b.rep) = AV.b true) ∧ (AV.b (decide (a.num < b.num)) = AV.b (decide (a.num < b.num))) ∧ (AV.b (decide (a.num < b.num)) = AV.b (decide (a.rep < b.rep ∨ a.rep = b.rep ∧ a.num < b.num)))) (σ' := ⟨[(4, .b (decide (a.rep < b.rep ∨ a.rep = b.rep ∧ a.num < b.num)))], []⟩) cx [(4, { tell := some (.b (false)) }), (10, { tell := some (.b (true)) }), (16, { tell := some (.b (decide (a.num < b.num))) }), (19, { tell := some (.b (decide (a.rep < b.rep ∨ a.rep = b.rep ∧ a.num < b.num))) })] [4] [] (by kernel_rfl) (by kernel_rfl) ⟨(told_false h_1), (told_true h_2), (by kernel_rfl), (by simp only [eq_false h_1, eq_true h_2, told_simp1, told_simp2, and_true, true_and, and_false, false_and, or_true, true_or, or_false, false_or, not_true_eq_false, not_false_eq_true, decide_true, decide_false, Bool.decide_eq_true])⟩ ?_
        exact ⟨rfl, rfl⟩
      ·
        refine st_reg (A := (AV.b (decide (a.rep < b.rep)) = AV.b false) ∧ (AV.b (a.rep == b.rep) = AV.b false) ∧ (AV.b false = AV.b (decide (a.rep < b.rep ∨ a.rep = b.rep ∧ a.num < b.num)))) (σ' := ⟨[(4, .b (decide (a.rep < b.rep ∨ a.rep = b.rep ∧ a.num < b.num)))], []⟩) cx [(4, { tell := some (.b (false)) }), (10, { tell := some (.b (false)) }), (19, { tell := some (.b (decide (a.rep < b.rep ∨ a.rep = b.rep ∧ a.num < b.num))) })] [4] [] (by kernel_rfl) (by kernel_rfl) ⟨(told_false h_1), (told_false h_2), (by simp only [eq_false h_1, eq_false h_2, told_simp1, told_simp2, and_true, true_and, and_false, false_and, or_true, true_or, or_false, false_or, not_true_eq_false, not_false_eq_true, decide_true, decide_false, Bool.decide_eq_true])⟩ ?_
        exact ⟨rfl, rfl⟩
  ·
    refine q_seq_normal ?_
    refine st_ret (by kernel_rfl) ?_
    exact q_ret (r := .b (decide (a.rep < b.rep ∨ a.rep = b.rep ∧ a.num < b.num))) (obl := []) (by kernel_rfl) trivial (AVle.eq g0)
theorem con48 (a b : Dot) : Con Try.prog 48 [.agg (c26 a), .agg (c26 b)] (.b (dLt a b)) :=
  walk48 a b rfl
theorem walk49 (a : Dot) (b : Dot)
    (g0 : AV.b (decide (a.rep < b.rep ∨ a.rep = b.rep ∧ a.num < b.num)) = AV.b (dLt a b)) :
    Con Try.prog (49 : FuncId) [AV.agg (c26 a), AV.agg (c26 b)] (AV.b (dLt a b)) := by
  refine st_con tab_ok (by kernel_rfl) [.tmp 4] 24 Go.Proofs.Try.func49 (by kernel_rfl) (by kernel_rfl) ?_
  intro e0 cx
  refine st_seq (by kernel_rfl) ?_
  refine st_reg (A := True) (σ' := ⟨[(2, .ptr (2) (0) (0) (0)), (3, .ptr (3) (0) (0) (0))], [(2, ⟨0, 26, .var [.i .i64 (a.rep), .i .i64 (a.num)]⟩), (3, ⟨0, 26, .var [.i .i64 (b.rep), .i .i64 (b.num)]⟩)]⟩) cx [] [2, 3] [2, 3] (by kernel_rfl) (by kernel_rfl) trivial ?_
  refine q_seq_normal ?_
  refine st_seq (by kernel_rfl) ?_
  refine st_join (σ' := ⟨[(4, .b (decide (a.rep < b.rep ∨ a.rep = b.rep ∧ a.num < b.num)))], []⟩) ?_ ?_
  ·
    refine st_split (a.rep < b.rep) (fun h_1 => ?_) (fun h_1 => ?_)
    ·
      refine st_reg (A := (AV.b (decide (a.rep < b.rep)) = AV.b true) ∧ (AV.b true = AV.b (decide (a.rep < b.rep ∨ a.rep = b.rep ∧ a.num < b.num)))) (σ' := ⟨[(4, .b (decide (a.rep < b.rep ∨ a.rep = b.rep ∧ a.num < b.num)))], []⟩) cx [(4, { tell := some (.b (true)) }), (19, { tell := some (.b (decide (a.rep < b.rep ∨ a.rep = b.rep ∧ a.num < b.num))) })] [4] [] (by kernel_rfl) (by kernel_rfl) ⟨(told_true h_1), (by simp only [eq_true h_1, told_simp1, told_simp2, and_true, true_and, and_false, false_and, or_true, true_or, or_false, false_or, not_true_eq_false, not_false_eq_true, decide_true, decide_false, Bool.decide_eq_true])⟩ ?_
      exact ⟨rfl, rfl⟩
    ·
      refine st_split (a.rep = b.rep) (fun h_2 => ?_) (fun h_2 => ?_)
      ·
        refine st_reg (A := (AV.b (decide (a.rep < b.rep)) = AV.b false) ∧ (AV.b (a.rep == b.rep) = AV.b true) ∧ (AV.b (decide (a.num < b.num)) = AV.b (decide (a.num < b.num))) ∧ (AV.b (decide (a.num < b.num)) = AV.b (decide (a.rep < b.rep ∨ a.rep = b.rep ∧ a.num < b.num)))) (σ' := ⟨[(4, .b (decide (a.rep < b.rep ∨ a.rep = b.rep ∧ a.num < b.num)))], []⟩) cx [(4, { tell := some (.b (false)) }), (10, { tell := some (.b (true)) }), (16, { tell := some (.b (decide (a.num < b.num))) }), (19, { tell := some (.b (decide (a.rep < b.rep ∨ a.rep = b.rep ∧ a.num < b.num))) })] [4] [] (by kernel_rfl) (by kernel_rfl) ⟨(told_false h_1), (told_true h_2), (by kernel_rfl), (by simp only [eq_false h_1, eq_true h_2, told_simp1, told_simp2, and_true, true_and, and_false, false_and, or_true, true_or, or_false, false_or, not_true_eq_false, not_false_eq_true, decide_true, decide_false, Bool.decide_eq_true])⟩ ?_
        exact ⟨rfl, rfl⟩
      ·
        refine st_reg (A := (AV.b (decide (a.rep < b.rep)) = AV.b false) ∧ (AV.b (a.rep == b.rep) = AV.b false) ∧ (AV.b false = AV.b (decide (a.rep < b.rep ∨ a.rep = b.rep ∧ a.num < b.num)))) (σ' := ⟨[(4, .b (decide (a.rep < b.rep ∨ a.rep = b.rep ∧ a.num < b.num)))], []⟩) cx [(4, { tell := some (.b (false)) }), (10, { tell := some (.b (false)) }), (19, { tell := some (.b (decide (a.rep < b.rep ∨ a.rep = b.rep ∧ a.num < b.num))) })] [4] [] (by kernel_rfl) (by kernel_rfl) ⟨(told_false h_1), (told_false h_2), (by simp only [eq_false h_1, eq_false h_2, told_simp1, told_simp2, and_true, true_and, and_false, false_and, or_true, true_or, or_false, false_or, not_true_eq_false, not_false_eq_true, decide_true, decide_false, Bool.decide_eq_true])⟩ ?_
        exact ⟨rfl, rfl⟩
  ·
    refine q_seq_normal ?_
    refine st_ret (by kernel_rfl) ?_
    exact q_ret (r := .b (decide (a.rep < b.rep ∨ a.rep = b.rep ∧ a.num < b.num))) (obl := []) (by kernel_rfl) trivial (AVle.eq g0)
theorem con49 (a b : Dot) : Con Try.prog 49 [.agg (c26 a), .agg (c26 b)] (.b (dLt a b)) :=
  walk49 a b rfl
theorem walk16 (es : List Entry)
    (g0 : invL es (0 : Int))
    (g1 : ∀ (i_0 : Int), (0 : Int) ≤ i_0 → i_0 ≤ (↑es.length : Int) → (∀ (j : Nat), (↑j : Int) < i_0 → okAt es j = true) → i_0 < (↑es.length : Int) → ¬entE es[i_0.toNat]! = (0 : Int) ∨ (0 : Int) < i_0 ∧ ¬dLt es[(i_0 - (1 : Int)).toNat]!.dot es[i_0.toNat]!.dot = true → AV.i IntKind.i64 (1 : Int) = AV.i IntKind.i64 (lstE es))
    (g2 : ∀ (i_0 : Int), (0 : Int) ≤ i_0 → i_0 ≤ (↑es.length : Int) → (∀ (j : Nat), (↑j : Int) < i_0 → okAt es j = true) → i_0 < (↑es.length : Int) → ¬(¬entE es[i_0.toNat]! = (0 : Int) ∨ (0 : Int) < i_0 ∧ ¬dLt es[(i_0 - (1 : Int)).toNat]!.dot es[i_0.toNat]!.dot = true) → invL es (i_0 + (1 : Int)))
    (g3 : ∀ (i_0 : Int), (0 : Int) ≤ i_0 → i_0 ≤ (↑es.length : Int) → (∀ (j : Nat), (↑j : Int) < i_0 → okAt es j = true) → ¬i_0 < (↑es.length : Int) → AV.i IntKind.i64 (0 : Int) = AV.i IntKind.i64 (lstE es)) :
    Con Try.prog (16 : FuncId) [AV.sl (List.map c28 es)] (AV.i IntKind.i64 (lstE es)) := by
  refine con_lens 0 (c28) (es) (by kernel_rfl) Go.Proofs.Try.func16 (by kernel_rfl) fun hl_0 => ?_
  refine st_con tab_ok (by kernel_rfl) [.tmp 2] 32 Go.Proofs.Try.func16 (by kernel_rfl) (by kernel_rfl) ?_
  intro e0 cx
  refine st_seq (by kernel_rfl) ?_
  refine st_reg (A := True) (σ' := ⟨[(0, .sl (List.map c28 es))], []⟩) cx [] [0] [] (by kernel_rfl) (by kernel_rfl) trivial ?_
  refine q_seq_normal ?_
  refine st_seq (by kernel_rfl) ?_
  refine st_seq (by kernel_rfl) ?_
  refine st_reg (A := (AV.i IntKind.i64 (↑(List.map c28 es).length : Int) = AV.i IntKind.i64 (↑es.length : Int))) (σ' := ⟨[(0, .sl (List.map c28 es)), (5, .sl (List.map c28 es)), (6, .i .i64 ((↑es.length : Int))), (7, .i .i64 ((0 : Int)))], []⟩) cx [(1, { tell := some (.i .i64 ((↑es.length : Int))) })] [0, 5, 6, 7] [] (by kernel_rfl) (by kernel_rfl) (told_len c28 es) ?_
  refine q_seq_normal ?_
  refine st_block 0 (by kernel_rfl) ?_
  refine st_loop (X := Int) (fun x => ⟨[(0, .sl (List.map c28 es)), (5, .sl (List.map c28 es)), (6, .i .i64 ((↑es.length : Int))), (7, .i .i64 (x))], []⟩) (fun x ↦ decL es x) (fun x ↦ invL es x) [0, 5, 6, 7] [] ((0 : Int)) (by kernel_rfl) (by kernel_rfl) g0 ?_
  intro i_0 h_1
  obtain ⟨h_2, h_3, h_4⟩ : (0 : Int) ≤ i_0 ∧ i_0 ≤ (↑es.length : Int) ∧ ∀ (j : Nat), (↑j : Int) < i_0 → okAt es j = true := h_1
  refine st_seq (by kernel_rfl) ?_
  refine st_reg (A := (AV.b (decide (i_0 < (↑es.length : Int))) = AV.b (decide (i_0 < (↑es.length : Int))))) (σ' := ⟨[(0, .sl (List.map c28 es)), (5, .sl (List.map c28 es)), (6, .i .i64 ((↑es.length : Int))), (7, .i .i64 (i_0)), (8, .b (decide (i_0 < (↑es.length : Int))))], []⟩) cx [(0, { tell := some (.b (decide (i_0 < (↑es.length : Int)))) })] [0, 5, 6, 7, 8] [] (by kernel_rfl) (by kernel_rfl) (by kernel_rfl) ?_
  refine q_seq_normal ?_
  refine st_seq (by kernel_rfl) ?_
  refine st_dec (i_0 < (↑es.length : Int)) (by kernel_rfl) (by kernel_rfl) (fun h_5 => ?_) (fun h_5 => ?_)
  ·
    refine st_skip (by kernel_rfl) ?_
    refine q_seq_normal ?_
    refine st_seq (by kernel_rfl) ?_
    refine st_block 1 (by kernel_rfl) ?_
    refine st_seq (by kernel_rfl) ?_
    refine st_reg (A := ((0 : Int) ≤ i_0) ∧ ((List.map c28 es)[i_0.toNat]? = some (c28 es[i_0.toNat]!)) ∧ ((c28 es[i_0.toNat]!).length = (4 : Nat)) ∧ ((4 : Nat) ≤ [AV.i IntKind.i64 es[i_0.toNat]!.dot.rep, AV.i IntKind.i64 es[i_0.toNat]!.dot.num, AV.s es[i_0.toNat]!.sku, AV.i IntKind.i64 es[i_0.toNat]!.qty].length)) (σ' := ⟨[(0, .sl (List.map c28 es)), (5, .sl (List.map c28 es)), (6, .i .i64 ((↑es.length : Int))), (7, .i .i64 (i_0)), (4, .ptr (4) (0) (0) (0)), (3, .i .i64 (i_0))], [(4, ⟨0, 28, .var [.i .i64 (es[i_0.toNat]!.dot.rep), .i .i64 (es[i_0.toNat]!.dot.num), .s (es[i_0.toNat]!.sku), .i .i64 (es[i_0.toNat]!.qty)]⟩)]⟩) cx [(1, { row := (c28 es[i_0.toNat]!) })] [0, 5, 6, 7, 4, 3] [4] (by kernel_rfl) (by kernel_rfl) ⟨(by (with_reducible assumption)), (by (with_reducible refine get_map ?_; omega)), (by kernel_rfl), (by (simp only [List.length_append, List.length_cons, List.length_nil]; omega))⟩ ?_
    refine q_seq_normal ?_
    refine st_seq (by kernel_rfl) ?_
    refine st_join (σ' := ⟨[(0, .sl (List.map c28 es)), (5, .sl (List.map c28 es)), (6, .i .i64 ((↑es.length : Int))), (7, .i .i64 (i_0)), (30, .b (decide (¬entE es[i_0.toNat]! = (0 : Int) ∨ (0 : Int) < i_0 ∧ ¬dLt es[(i_0 - (1 : Int)).toNat]!.dot es[i_0.toNat]!.dot = true)))], []⟩) ?_ ?_
    ·
      refine st_split (¬entE es[i_0.toNat]! = (0 : Int)) (fun h_7 => ?_) (fun h_7 => ?_)
      ·
        refine st_any (A := (Con Try.prog (14 : FuncId) [AV.agg (c28 es[i_0.toNat]!)] (AV.i IntKind.i64 (entE es[i_0.toNat]!))) ∧ (AV.b (entE es[i_0.toNat]! != (0 : Int)) = AV.b true) ∧ (AV.b true = AV.b (decide (¬entE es[i_0.toNat]! = (0 : Int) ∨ (0 : Int) < i_0 ∧ ¬dLt es[(i_0 - (1 : Int)).toNat]!.dot es[i_0.toNat]!.dot = true)))) (σ' := ⟨[(0, .sl (List.map c28 es)), (5, .sl (List.map c28 es)), (6, .i .i64 ((↑es.length : Int))), (7, .i .i64 (i_0)), (30, .b (decide (¬entE es[i_0.toNat]! = (0 : Int) ∨ (0 : Int) < i_0 ∧ ¬dLt es[(i_0 - (1 : Int)).toNat]!.dot es[i_0.toNat]!.dot = true)))], []⟩) cx [(1, { val := some (.i .i64 (entE es[i_0.toNat]!)) }), (2, { tell := some (.b (true)) }), (18, { tell := some (.b (decide (¬entE es[i_0.toNat]! = (0 : Int) ∨ (0 : Int) < i_0 ∧ ¬dLt es[(i_0 - (1 : Int)).toNat]!.dot es[i_0.toNat]!.dot = true))) })] [0, 5, 6, 7, 30] [] (by kernel_rfl) (by kernel_rfl) ⟨(con14 (es[i_0.toNat]!)), (told_neqt h_7), (by simp only [eq_false h_7, told_simp1, told_simp2, and_true, true_and, and_false, false_and, or_true, true_or, or_false, false_or, not_true_eq_false, not_false_eq_true, decide_true, decide_false, Bool.decide_eq_true])⟩ ?_
        exact ⟨rfl, rfl⟩
      ·
        refine st_split ((0 : Int) < i_0) (fun h_8 => ?_) (fun h_8 => ?_)
        ·
          refine st_any (A := (Con Try.prog (14 : FuncId) [AV.agg (c28 es[i_0.toNat]!)] (AV.i IntKind.i64 (entE es[i_0.toNat]!))) ∧ (AV.b (entE es[i_0.toNat]! != (0 : Int)) = AV.b (decide ¬entE es[i_0.toNat]! = (0 : Int))) ∧ (AV.b (decide ¬entE es[i_0.toNat]! = (0 : Int)) = AV.b false) ∧ (AV.b (decide (i_0 > (0 : Int))) = AV.b true) ∧ (AV.i IntKind.i64 (IntKind.i64.wrap (i_0 - (1 : Int))) = AV.i IntKind.i64 (i_0 - (1 : Int))) ∧ ((0 : Int) ≤ i_0 - (1 : Int)) ∧ ((List.map c28 es)[(i_0 - (1 : Int)).toNat]? = some (c28 es[(i_0 - (1 : Int)).toNat]!)) ∧ ((c28 es[(i_0 - (1 : Int)).toNat]!).length = (4 : Nat)) ∧ ((2 : Nat) ≤ [AV.i IntKind.i64 es[(i_0 - (1 : Int)).toNat]!.dot.rep, AV.i IntKind.i64 es[(i_0 - (1 : Int)).toNat]!.dot.num, AV.s es[(i_0 - (1 : Int)).toNat]!.sku, AV.i IntKind.i64 es[(i_0 - (1 : Int)).toNat]!.qty].length) ∧ (Con Try.prog (48 : FuncId) [AV.agg (c26 es[(i_0 - (1 : Int)).toNat]!.dot), AV.agg (c26 es[i_0.toNat]!.dot)] (AV.b (dLt es[(i_0 - (1 : Int)).toNat]!.dot es[i_0.toNat]!.dot))) ∧ ((AV.b !dLt es[(i_0 - (1 : Int)).toNat]!.dot es[i_0.toNat]!.dot) = AV.b (decide ¬dLt es[(i_0 - (1 : Int)).toNat]!.dot es[i_0.toNat]!.dot = true)) ∧ (AV.b (decide ¬dLt es[(i_0 - (1 : Int)).toNat]!.dot es[i_0.toNat]!.dot = true) = AV.b (decide (¬entE es[i_0.toNat]! = (0 : Int) ∨ (0 : Int) < i_0 ∧ ¬dLt es[(i_0 - (1 : Int)).toNat]!.dot es[i_0.toNat]!.dot = true)))) (σ' := ⟨[(0, .sl (List.map c28 es)), (5, .sl (List.map c28 es)), (6, .i .i64 ((↑es.length : Int))), (7, .i .i64 (i_0)), (30, .b (decide (¬entE es[i_0.toNat]! = (0 : Int) ∨ (0 : Int) < i_0 ∧ ¬dLt es[(i_0 - (1 : Int)).toNat]!.dot es[i_0.toNat]!.dot = true)))], []⟩) cx [(1, { val := some (.i .i64 (entE es[i_0.toNat]!)) }), (2, { tell := some (.b (decide ¬entE es[i_0.toNat]! = (0 : Int))) }), (3, { tell := some (.b (false)) }), (5, { tell := some (.b (true)) }), (9, { tell := some (.i .i64 (i_0 - (1 : Int))) }), (10, { row := (c28 es[(i_0 - (1 : Int)).toNat]!) }), (15, { val := some (.b (dLt es[(i_0 - (1 : Int)).toNat]!.dot es[i_0.toNat]!.dot)) }), (16, { tell := some (.b (decide ¬dLt es[(i_0 - (1 : Int)).toNat]!.dot es[i_0.toNat]!.dot = true)) }), (18, { tell := some (.b (decide (¬entE es[i_0.toNat]! = (0 : Int) ∨ (0 : Int) < i_0 ∧ ¬dLt es[(i_0 - (1 : Int)).toNat]!.dot es[i_0.toNat]!.dot = true))) })] [0, 5, 6, 7, 30] [] (by kernel_rfl) (by kernel_rfl) ⟨(con14 (es[i_0.toNat]!)), (told_neq), (told_false h_7), (told_true h_8), (told_i64 (by omega) (by omega)), (by omega), (by (with_reducible refine get_map ?_; omega)), (by kernel_rfl), (by (simp only [List.length_append, List.length_cons, List.length_nil]; omega)), (con48 (es[(i_0 - (1 : Int)).toNat]!.dot) (es[i_0.toNat]!.dot)), (told_not), (by simp only [eq_false h_7, eq_true h_8, told_simp1, told_simp2, and_true, true_and, and_false, false_and, or_true, true_or, or_false, false_or, not_true_eq_false, not_false_eq_true, decide_true, decide_false, Bool.decide_eq_true])⟩ ?_
          exact ⟨rfl, rfl⟩
        ·
          refine st_any (A := (Con Try.prog (14 : FuncId) [AV.agg (c28 es[i_0.toNat]!)] (AV.i IntKind.i64 (entE es[i_0.toNat]!))) ∧ (AV.b (entE es[i_0.toNat]! != (0 : Int)) = AV.b (decide ¬entE es[i_0.toNat]! = (0 : Int))) ∧ (AV.b (decide ¬entE es[i_0.toNat]! = (0 : Int)) = AV.b false) ∧ (AV.b (decide (i_0 > (0 : Int))) = AV.b false) ∧ (AV.b false = AV.b (decide (¬entE es[i_0.toNat]! = (0 : Int) ∨ (0 : Int) < i_0 ∧ ¬dLt es[(i_0 - (1 : Int)).toNat]!.dot es[i_0.toNat]!.dot = true)))) (σ' := ⟨[(0, .sl (List.map c28 es)), (5, .sl (List.map c28 es)), (6, .i .i64 ((↑es.length : Int))), (7, .i .i64 (i_0)), (30, .b (decide (¬entE es[i_0.toNat]! = (0 : Int) ∨ (0 : Int) < i_0 ∧ ¬dLt es[(i_0 - (1 : Int)).toNat]!.dot es[i_0.toNat]!.dot = true)))], []⟩) cx [(1, { val := some (.i .i64 (entE es[i_0.toNat]!)) }), (2, { tell := some (.b (decide ¬entE es[i_0.toNat]! = (0 : Int))) }), (3, { tell := some (.b (false)) }), (5, { tell := some (.b (false)) }), (18, { tell := some (.b (decide (¬entE es[i_0.toNat]! = (0 : Int) ∨ (0 : Int) < i_0 ∧ ¬dLt es[(i_0 - (1 : Int)).toNat]!.dot es[i_0.toNat]!.dot = true))) })] [0, 5, 6, 7, 30] [] (by kernel_rfl) (by kernel_rfl) ⟨(con14 (es[i_0.toNat]!)), (told_neq), (told_false h_7), (told_false h_8), (by simp only [eq_false h_7, eq_false h_8, told_simp1, told_simp2, and_true, true_and, and_false, false_and, or_true, true_or, or_false, false_or, not_true_eq_false, not_false_eq_true, decide_true, decide_false, Bool.decide_eq_true])⟩ ?_
          exact ⟨rfl, rfl⟩
    ·
      refine q_seq_normal ?_
      refine st_dec (¬entE es[i_0.toNat]! = (0 : Int) ∨ (0 : Int) < i_0 ∧ ¬dLt es[(i_0 - (1 : Int)).toNat]!.dot es[i_0.toNat]!.dot = true) (by kernel_rfl) (by kernel_rfl) (fun h_9 => ?_) (fun h_9 => ?_)
      ·
        refine st_seq (by kernel_rfl) ?_
        refine st_reg (A := True) (σ' := ⟨[(2, .i .i64 ((1 : Int)))], []⟩) cx [] [2] [] (by kernel_rfl) (by kernel_rfl) trivial ?_
        refine q_seq_normal ?_
        refine st_ret (by kernel_rfl) ?_
        refine q_blk_ret ?_
        refine q_seq_ret ?_
        refine q_seq_ret ?_
        refine q_blk_ret ?_
        refine q_seq_ret ?_
        exact q_ret (r := .i .i64 ((1 : Int))) (obl := []) (by kernel_rfl) trivial (AVle.eq (g1 i_0 h_2 h_3 h_4 h_5 h_9))
      ·
        refine st_skip (by kernel_rfl) ?_
        refine q_blk_normal ?_
        refine q_seq_normal ?_
        refine st_reg (A := (AV.i IntKind.i64 (IntKind.i64.wrap (i_0 + (1 : Int))) = AV.i IntKind.i64 (i_0 + (1 : Int)))) (σ' := ⟨[(0, .sl (List.map c28 es)), (5, .sl (List.map c28 es)), (6, .i .i64 ((↑es.length : Int))), (7, .i .i64 (i_0 + (1 : Int)))], []⟩) cx [(0, { tell := some (.i .i64 (i_0 + (1 : Int))) })] [0, 5, 6, 7] [] (by kernel_rfl) (by kernel_rfl) (told_i64 (by omega) (by omega)) ?_
        refine q_seq_normal ?_
        exact loop_next (i_0 + (1 : Int)) (by kernel_rfl) (show ((↑es.length : Int) - (i_0 + (1 : Int))).toNat < ((↑es.length : Int) - i_0).toNat from (by omega)) (g2 i_0 h_2 h_3 h_4 h_5 h_9)
  ·
    refine st_exit 0 (by kernel_rfl) ?_
    refine q_seq_exit ?_
    refine q_seq_exit ?_
    refine q_blk_hit ?_
    refine q_seq_normal ?_
    refine st_seq (by kernel_rfl) ?_
    refine st_reg (A := True) (σ' := ⟨[(2, .i .i64 ((0 : Int)))], []⟩) cx [] [2] [] (by kernel_rfl) (by kernel_rfl) trivial ?_
    refine q_seq_normal ?_
    refine st_ret (by kernel_rfl) ?_
    exact q_ret (r := .i .i64 ((0 : Int))) (obl := []) (by kernel_rfl) trivial (AVle.eq (g3 i_0 h_2 h_3 h_4 h_5))
theorem con16 (es : List Entry) : Con Try.prog 16 [.sl (es.map c28)] (.i .i64 (lstE es)) :=
  by
  have e : ∀ {i : Int}, 0 ≤ i → (i - 1).toNat = i.toNat - 1 := fun {i} h => by omega
  refine walk16 es ⟨by omega, by omega, fun j hj => by omega⟩ (fun i h0 h1 h2 h3 h4 => ?_) (fun i h0 h1 h2 h3 h4 => ?_) (fun i h0 h1 h2 h3 => ?_)
  · rw [lstE_bad (i := i.toNat) (by omega) (not_okAt _)]
    rw [e h0] at h4
    rw [okAt_iff]; rintro ⟨a, b⟩
    rcases h4 with h4 | ⟨h4, h5⟩
    · exact h4 a
    · rcases b with b | b
      · omega
      · exact h5 b
  · rw [e h0] at h4
    refine invL_step h0 h3 h2 ((okAt_iff _ _).2 ⟨Classical.byContradiction fun a => h4 (.inl a), ?_⟩)
    by_cases c : i.toNat = 0
    · exact .inl c
    · exact .inr (Classical.byContradiction fun a => h4 (.inr ⟨by omega, a⟩))
  · rw [lstE_ok fun j hj => h2 j (by omega)]
theorem walk18 (es : List Entry)
    (g0 : invL es (0 : Int))
    (g1 : ∀ (i_0 : Int), (0 : Int) ≤ i_0 → i_0 ≤ (↑es.length : Int) → (∀ (j : Nat), (↑j : Int) < i_0 → okAt es j = true) → i_0 < (↑es.length : Int) → ¬entE es[i_0.toNat]! = (0 : Int) → AV.i IntKind.i64 (1 : Int) = AV.i IntKind.i64 (lstE es))
    (g2 : ∀ (i_0 : Int), (0 : Int) ≤ i_0 → i_0 ≤ (↑es.length : Int) → (∀ (j : Nat), (↑j : Int) < i_0 → okAt es j = true) → i_0 < (↑es.length : Int) → ¬¬entE es[i_0.toNat]! = (0 : Int) → (0 : Int) < i_0 ∧ ¬dLt es[(i_0 - (1 : Int)).toNat]!.dot es[i_0.toNat]!.dot = true → AV.i IntKind.i64 (1 : Int) = AV.i IntKind.i64 (lstE es))
    (g3 : ∀ (i_0 : Int), (0 : Int) ≤ i_0 → i_0 ≤ (↑es.length : Int) → (∀ (j : Nat), (↑j : Int) < i_0 → okAt es j = true) → i_0 < (↑es.length : Int) → ¬¬entE es[i_0.toNat]! = (0 : Int) → ¬((0 : Int) < i_0 ∧ ¬dLt es[(i_0 - (1 : Int)).toNat]!.dot es[i_0.toNat]!.dot = true) → invL es (i_0 + (1 : Int)))
    (g4 : ∀ (i_0 : Int), (0 : Int) ≤ i_0 → i_0 ≤ (↑es.length : Int) → (∀ (j : Nat), (↑j : Int) < i_0 → okAt es j = true) → ¬i_0 < (↑es.length : Int) → AV.i IntKind.i64 (0 : Int) = AV.i IntKind.i64 (lstE es)) :
    Con Try.prog (18 : FuncId) [AV.sl (List.map c28 es)] (AV.i IntKind.i64 (lstE es)) := by
  refine con_lens 0 (c28) (es) (by kernel_rfl) Go.Proofs.Try.func18 (by kernel_rfl) fun hl_0 => ?_
  refine st_con tab_ok (by kernel_rfl) [.tmp 2] 33 Go.Proofs.Try.func18 (by kernel_rfl) (by kernel_rfl) ?_
  intro e0 cx
  refine st_seq (by kernel_rfl) ?_
  refine st_reg (A := True) (σ' := ⟨[(0, .sl (List.map c28 es))], []⟩) cx [] [0] [] (by kernel_rfl) (by kernel_rfl) trivial ?_
  refine q_seq_normal ?_
  refine st_seq (by kernel_rfl) ?_
  refine st_seq (by kernel_rfl) ?_
  refine st_reg (A := True) (σ' := ⟨[(0, .sl (List.map c28 es)), (3, .i .i64 ((0 : Int)))], []⟩) cx [] [0, 3] [] (by kernel_rfl) (by kernel_rfl) trivial ?_
  refine q_seq_normal ?_
  refine st_block 0 (by kernel_rfl) ?_
  refine st_loop (X := Int) (fun x => ⟨[(0, .sl (List.map c28 es)), (3, .i .i64 (x))], []⟩) (fun x ↦ decL es x) (fun x ↦ invL es x) [0, 3] [] ((0 : Int)) (by kernel_rfl) (by kernel_rfl) g0 ?_
  intro i_0 h_1
  obtain ⟨h_2, h_3, h_4⟩ : (0 : Int) ≤ i_0 ∧ i_0 ≤ (↑es.length : Int) ∧ ∀ (j : Nat), (↑j : Int) < i_0 → okAt es j = true := h_1
  refine st_seq (by kernel_rfl) ?_
  refine st_seq (by kernel_rfl) ?_
  refine st_reg (A := (AV.i IntKind.i64 (↑(List.map c28 es).length : Int) = AV.i IntKind.i64 (↑es.length : Int)) ∧ (AV.b (decide (i_0 < (↑es.length : Int))) = AV.b (decide (i_0 < (↑es.length : Int))))) (σ' := ⟨[(0, .sl (List.map c28 es)), (3, .i .i64 (i_0)), (7, .b (decide (i_0 < (↑es.length : Int))))], []⟩) cx [(2, { tell := some (.i .i64 ((↑es.length : Int))) }), (3, { tell := some (.b (decide (i_0 < (↑es.length : Int)))) })] [0, 3, 7] [] (by kernel_rfl) (by kernel_rfl) ⟨(told_len c28 es), (by kernel_rfl)⟩ ?_
  refine q_seq_normal ?_
  refine st_dec (i_0 < (↑es.length : Int)) (by kernel_rfl) (by kernel_rfl) (fun h_5 => ?_) (fun h_5 => ?_)
  ·
    refine st_skip (by kernel_rfl) ?_
    refine q_seq_normal ?_
    refine st_seq (by kernel_rfl) ?_
    refine st_block 1 (by kernel_rfl) ?_
    refine st_seq (by kernel_rfl) ?_
    refine st_seq (by kernel_rfl) ?_
    refine st_reg (A := ((0 : Int) ≤ i_0) ∧ ((List.map c28 es)[i_0.toNat]? = some (c28 es[i_0.toNat]!)) ∧ ((c28 es[i_0.toNat]!).length = (4 : Nat)) ∧ ((4 : Nat) ≤ [AV.i IntKind.i64 es[i_0.toNat]!.dot.rep, AV.i IntKind.i64 es[i_0.toNat]!.dot.num, AV.s es[i_0.toNat]!.sku, AV.i IntKind.i64 es[i_0.toNat]!.qty].length) ∧ (Con Try.prog (19 : FuncId) [AV.agg (c28 es[i_0.toNat]!)] (AV.i IntKind.i64 (entE es[i_0.toNat]!))) ∧ (AV.b (entE es[i_0.toNat]! != (0 : Int)) = AV.b (decide ¬entE es[i_0.toNat]! = (0 : Int)))) (σ' := ⟨[(0, .sl (List.map c28 es)), (3, .i .i64 (i_0)), (15, .b (decide ¬entE es[i_0.toNat]! = (0 : Int)))], []⟩) cx [(2, { row := (c28 es[i_0.toNat]!) }), (4, { val := some (.i .i64 (entE es[i_0.toNat]!)) }), (5, { tell := some (.b (decide ¬entE es[i_0.toNat]! = (0 : Int))) })] [0, 3, 15] [] (by kernel_rfl) (by kernel_rfl) ⟨(by (with_reducible assumption)), (by (with_reducible refine get_map ?_; omega)), (by kernel_rfl), (by (simp only [List.length_append, List.length_cons, List.length_nil]; omega)), (con19 (es[i_0.toNat]!)), (told_neq)⟩ ?_
    refine q_seq_normal ?_
    refine st_dec (¬entE es[i_0.toNat]! = (0 : Int)) (by kernel_rfl) (by kernel_rfl) (fun h_6 => ?_) (fun h_6 => ?_)
    ·
      refine st_seq (by kernel_rfl) ?_
      refine st_reg (A := True) (σ' := ⟨[(2, .i .i64 ((1 : Int)))], []⟩) cx [] [2] [] (by kernel_rfl) (by kernel_rfl) trivial ?_
      refine q_seq_normal ?_
      refine st_ret (by kernel_rfl) ?_
      refine q_seq_ret ?_
      refine q_blk_ret ?_
      refine q_seq_ret ?_
      refine q_seq_ret ?_
      refine q_blk_ret ?_
      refine q_seq_ret ?_
      exact q_ret (r := .i .i64 ((1 : Int))) (obl := []) (by kernel_rfl) trivial (AVle.eq (g1 i_0 h_2 h_3 h_4 h_5 h_6))
    ·
      refine st_skip (by kernel_rfl) ?_
      refine q_seq_normal ?_
      refine st_seq (by kernel_rfl) ?_
      refine st_join (σ' := ⟨[(0, .sl (List.map c28 es)), (3, .i .i64 (i_0)), (32, .b (decide ((0 : Int) < i_0 ∧ ¬dLt es[(i_0 - (1 : Int)).toNat]!.dot es[i_0.toNat]!.dot = true)))], []⟩) ?_ ?_
      ·
        refine st_split ((0 : Int) < i_0) (fun h_8 => ?_) (fun h_8 => ?_)
        ·
          refine st_any (A := (AV.b (decide (i_0 > (0 : Int))) = AV.b true) ∧ (AV.i IntKind.i64 (IntKind.i64.wrap (i_0 - (1 : Int))) = AV.i IntKind.i64 (i_0 - (1 : Int))) ∧ ((0 : Int) ≤ i_0 - (1 : Int)) ∧ ((List.map c28 es)[(i_0 - (1 : Int)).toNat]? = some (c28 es[(i_0 - (1 : Int)).toNat]!)) ∧ ((c28 es[(i_0 - (1 : Int)).toNat]!).length = (4 : Nat)) ∧ ((2 : Nat) ≤ [AV.i IntKind.i64 es[(i_0 - (1 : Int)).toNat]!.dot.rep, AV.i IntKind.i64 es[(i_0 - (1 : Int)).toNat]!.dot.num, AV.s es[(i_0 - (1 : Int)).toNat]!.sku, AV.i IntKind.i64 es[(i_0 - (1 : Int)).toNat]!.qty].length) ∧ ((0 : Int) ≤ i_0) ∧ ((List.map c28 es)[i_0.toNat]? = some (c28 es[i_0.toNat]!)) ∧ ((c28 es[i_0.toNat]!).length = (4 : Nat)) ∧ ((2 : Nat) ≤ [AV.i IntKind.i64 es[i_0.toNat]!.dot.rep, AV.i IntKind.i64 es[i_0.toNat]!.dot.num, AV.s es[i_0.toNat]!.sku, AV.i IntKind.i64 es[i_0.toNat]!.qty].length) ∧ (Con Try.prog (49 : FuncId) [AV.agg (c26 es[(i_0 - (1 : Int)).toNat]!.dot), AV.agg (c26 es[i_0.toNat]!.dot)] (AV.b (dLt es[(i_0 - (1 : Int)).toNat]!.dot es[i_0.toNat]!.dot))) ∧ ((AV.b !dLt es[(i_0 - (1 : Int)).toNat]!.dot es[i_0.toNat]!.dot) = AV.b (decide ¬dLt es[(i_0 - (1 : Int)).toNat]!.dot es[i_0.toNat]!.dot = true)) ∧ (AV.b (decide ¬dLt es[(i_0 - (1 : Int)).toNat]!.dot es[i_0.toNat]!.dot = true) = AV.b (decide ((0 : Int) < i_0 ∧ ¬dLt es[(i_0 - (1 : Int)).toNat]!.dot es[i_0.toNat]!.dot = true)))) (σ' := ⟨[(0, .sl (List.map c28 es)), (3, .i .i64 (i_0)), (32, .b (decide ((0 : Int) < i_0 ∧ ¬dLt es[(i_0 - (1 : Int)).toNat]!.dot es[i_0.toNat]!.dot = true)))], []⟩) cx [(1, { tell := some (.b (true)) }), (5, { tell := some (.i .i64 (i_0 - (1 : Int))) }), (6, { row := (c28 es[(i_0 - (1 : Int)).toNat]!) }), (11, { row := (c28 es[i_0.toNat]!) }), (14, { val := some (.b (dLt es[(i_0 - (1 : Int)).toNat]!.dot es[i_0.toNat]!.dot)) }), (15, { tell := some (.b (decide ¬dLt es[(i_0 - (1 : Int)).toNat]!.dot es[i_0.toNat]!.dot = true)) }), (16, { tell := some (.b (decide ((0 : Int) < i_0 ∧ ¬dLt es[(i_0 - (1 : Int)).toNat]!.dot es[i_0.toNat]!.dot = true))) })] [0, 3, 32] [] (by kernel_rfl) (by kernel_rfl) ⟨(told_true h_8), (told_i64 (by omega) (by omega)), (by omega), (by (with_reducible refine get_map ?_; omega)), (by kernel_rfl), (by (simp only [List.length_append, List.length_cons, List.length_nil]; omega)), (by (with_reducible assumption)), (by (with_reducible refine get_map ?_; omega)), (by kernel_rfl), (by (simp only [List.length_append, List.length_cons, List.length_nil]; omega)), (con49 (es[(i_0 - (1 : Int)).toNat]!.dot) (es[i_0.toNat]!.dot)), (told_not), (by simp only [eq_true h_8, told_simp1, told_simp2, and_true, true_and, and_false, false_and, or_true, true_or, or_false, false_or, not_true_eq_false, not_false_eq_true, decide_true, decide_false, Bool.decide_eq_true])⟩ ?_
          exact ⟨rfl, rfl⟩
        ·
          refine st_any (A := (AV.b (decide (i_0 > (0 : Int))) = AV.b false) ∧ (AV.b false = AV.b (decide ((0 : Int) < i_0 ∧ ¬dLt es[(i_0 - (1 : Int)).toNat]!.dot es[i_0.toNat]!.dot = true)))) (σ' := ⟨[(0, .sl (List.map c28 es)), (3, .i .i64 (i_0)), (32, .b (decide ((0 : Int) < i_0 ∧ ¬dLt es[(i_0 - (1 : Int)).toNat]!.dot es[i_0.toNat]!.dot = true)))], []⟩) cx [(1, { tell := some (.b (false)) }), (16, { tell := some (.b (decide ((0 : Int) < i_0 ∧ ¬dLt es[(i_0 - (1 : Int)).toNat]!.dot es[i_0.toNat]!.dot = true))) })] [0, 3, 32] [] (by kernel_rfl) (by kernel_rfl) ⟨(told_false h_8), (by simp only [eq_false h_8, told_simp1, told_simp2, and_true, true_and, and_false, false_and, or_true, true_or, or_false, false_or, not_true_eq_false, not_false_eq_true, decide_true, decide_false, Bool.decide_eq_true])⟩ ?_
          exact ⟨rfl, rfl⟩
      ·
        refine q_seq_normal ?_
        refine st_dec ((0 : Int) < i_0 ∧ ¬dLt es[(i_0 - (1 : Int)).toNat]!.dot es[i_0.toNat]!.dot = true) (by kernel_rfl) (by kernel_rfl) (fun h_9 => ?_) (fun h_9 => ?_)
        ·
          refine st_seq (by kernel_rfl) ?_
          refine st_reg (A := True) (σ' := ⟨[(2, .i .i64 ((1 : Int)))], []⟩) cx [] [2] [] (by kernel_rfl) (by kernel_rfl) trivial ?_
          refine q_seq_normal ?_
          refine st_ret (by kernel_rfl) ?_
          refine q_blk_ret ?_
          refine q_seq_ret ?_
          refine q_seq_ret ?_
          refine q_blk_ret ?_
          refine q_seq_ret ?_
          exact q_ret (r := .i .i64 ((1 : Int))) (obl := []) (by kernel_rfl) trivial (AVle.eq (g2 i_0 h_2 h_3 h_4 h_5 h_6 h_9))
        ·
          refine st_skip (by kernel_rfl) ?_
          refine q_blk_normal ?_
          refine q_seq_normal ?_
          refine st_reg (A := (AV.i IntKind.i64 (IntKind.i64.wrap (i_0 + (1 : Int))) = AV.i IntKind.i64 (i_0 + (1 : Int)))) (σ' := ⟨[(0, .sl (List.map c28 es)), (3, .i .i64 (i_0 + (1 : Int)))], []⟩) cx [(1, { tell := some (.i .i64 (i_0 + (1 : Int))) })] [0, 3] [] (by kernel_rfl) (by kernel_rfl) (told_i64 (by omega) (by omega)) ?_
          refine q_seq_normal ?_
          exact loop_next (i_0 + (1 : Int)) (by kernel_rfl) (show ((↑es.length : Int) - (i_0 + (1 : Int))).toNat < ((↑es.length : Int) - i_0).toNat from (by omega)) (g3 i_0 h_2 h_3 h_4 h_5 h_6 h_9)
  ·
    refine st_exit 0 (by kernel_rfl) ?_
    refine q_seq_exit ?_
    refine q_seq_exit ?_
    refine q_blk_hit ?_
    refine q_seq_normal ?_
    refine st_seq (by kernel_rfl) ?_
    refine st_reg (A := True) (σ' := ⟨[(2, .i .i64 ((0 : Int)))], []⟩) cx [] [2] [] (by kernel_rfl) (by kernel_rfl) trivial ?_
    refine q_seq_normal ?_
    refine st_ret (by kernel_rfl) ?_
    exact q_ret (r := .i .i64 ((0 : Int))) (obl := []) (by kernel_rfl) trivial (AVle.eq (g4 i_0 h_2 h_3 h_4 h_5))
theorem con18 (es : List Entry) : Con Try.prog 18 [.sl (es.map c28)] (.i .i64 (lstE es)) :=
  by
  have e : ∀ {i : Int}, 0 ≤ i → (i - 1).toNat = i.toNat - 1 := fun {i} h => by omega
  refine walk18 es ⟨by omega, by omega, fun j hj => by omega⟩ (fun i h0 h1 h2 h3 h4 => ?_) (fun i h0 h1 h2 h3 h4 h5 => ?_) (fun i h0 h1 h2 h3 h4 h5 => ?_) (fun i h0 h1 h2 h3 => ?_)
  · rw [lstE_bad (i := i.toNat) (by omega) (not_okAt _)]
    rw [okAt_iff]; rintro ⟨a, b⟩; exact h4 a
  · rw [lstE_bad (i := i.toNat) (by omega) (not_okAt _)]
    rw [e h0] at h5
    rw [okAt_iff]; rintro ⟨a, b⟩
    rcases b with b | b
    · omega
    · exact h5.2 b
  · rw [e h0] at h5
    refine invL_step h0 h3 h2 ((okAt_iff _ _).2 ⟨Classical.not_not.1 h4, ?_⟩)
    by_cases c : i.toNat = 0
    · exact .inl c
    · exact .inr (Classical.byContradiction fun a => h5 ⟨by omega, a⟩)
  · rw [lstE_ok fun j hj => h2 j (by omega)]
end Go.Proofs.Ytjngmlkaijpbgaa
