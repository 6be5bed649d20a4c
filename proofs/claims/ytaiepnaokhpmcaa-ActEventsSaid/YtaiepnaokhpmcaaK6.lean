/- R34: both rows. (with texts that it needs)  -/
import Derived.ProofKit
import Derived.SizedLaws
import Derived.JoinedCond
import Derived.Deep.CondSized
import Derived.Test.YtaiepnaokhpmcaaRows
import Derived.Test.YtaiepnaokhpmcaaK5
set_option linter.unusedVariables false
set_option linter.unusedSimpArgs false
namespace Go.Proofs.Ytaiepnaokhpmcaa
open Go.E
set_option maxRecDepth 100000
set_option maxHeartbeats 4000000
theorem entE_zero {e : Entry} : entE e = 0 ↔ dotB e.dot = true ∧ good e.sku = true ∧ 1 ≤ e.qty ∧ e.qty ≤ 1000000 := by
  unfold entE dotB
  rw [decide_eq_true_iff]
  by_cases a : e.dot.rep < 0 ∨ 16 ≤ e.dot.rep
  · rw [if_pos a]; omega
  · rw [if_neg a]
    by_cases b : e.dot.num < 1 ∨ 1000000000 < e.dot.num
    · rw [if_pos b]; omega
    · rw [if_neg b]
      cases c : good e.sku with
      | false => simp
      | true =>
        rw [if_neg (by simp)]
        by_cases d : e.qty < 1 ∨ 1000000 < e.qty
        · rw [if_pos d]
          exact ⟨fun h => by omega, fun h => by have := h.2.2.1; have := h.2.2.2; omega⟩
        · rw [if_neg d]
          exact ⟨fun _ => ⟨by omega, rfl, by omega, by omega⟩, fun _ => rfl⟩
theorem rec_lt {r s : Record} : cmpRec r s < 0 ↔ sLt r.sku s.sku = true ∨ r.sku = s.sku ∧ cmpP r.past s.past < 0 := by
  unfold cmpRec
  by_cases e : cmpSt r.sku s.sku = 0
  · rw [if_neg (by simpa using e)]
    have e2 := cmpSt_zero.1 e
    constructor
    · exact fun h => .inr ⟨e2, h⟩
    · rintro (h | h)
      · rw [e2] at h; exact absurd h (sLt_irr _)
      · exact h.2
  · rw [if_pos e, cmpSt_less]
    by_cases a : sLt r.sku s.sku = true
    · rw [if_pos a]; exact ⟨fun _ => .inl a, fun _ => by omega⟩
    · rw [if_neg a]
      constructor
      · intro h
        split at h <;> omega
      · rintro (h | h)
        · exact absurd h a
        · exact absurd (cmpSt_zero.2 h.1) e
def emp (p : Past) : Bool := decide (sizeP p = 0)
def okF (f : Facts) : Bool := decide (lstE f.adds = 0 ∧ f.gone = normP f.gone ∧ recE f.recs = 0)
def szF (f : Facts) : Prop := szP f.gone ∧ szQ f.recs
theorem con53 (e : Entry) : Con Try.prog 53 [.agg (c40 e)] (.b (decide (entE e = 0))) :=
  by
  refine st_con tab_ok (by kernel_rfl) [.tmp 2] 21 Go.Proofs.Try.func53 (by kernel_rfl) (by kernel_rfl) ?_
  intro e0 cx
  refine sq ?_
  refine rg (A := True) cx [] [1] [1] trivial ?_
  refine sn ?_
  refine sq ?_
  refine st_join (σ' := ⟨[(2, .b (decide (dotB e.dot = true ∧ good e.sku = true ∧ (1 : Int) ≤ e.qty ∧ e.qty ≤ (1000000 : Int))))], []⟩) ?_ ?_
  refine st_split (dotB e.dot = true) (fun h_1 => ?_) (fun h_1 => ?_)
  refine st_split (good e.sku = true) (fun h_2 => ?_) (fun h_2 => ?_)
  refine st_split ((1 : Int) ≤ e.qty) (fun h_3 => ?_) (fun h_3 => ?_)
  refine rg (A := _ ∧ _ ∧ _ ∧ _ ∧ _ ∧ (AV.b (decide (e.qty ≤ (1000000 : Int))) = AV.b (decide (e.qty ≤ (1000000 : Int)))) ∧ (AV.b (decide (e.qty ≤ (1000000 : Int))) = AV.b (decide (dotB e.dot = true ∧ good e.sku = true ∧ (1 : Int) ≤ e.qty ∧ e.qty ≤ (1000000 : Int))))) cx [(2, { val := some (.b (dotB e.dot)), tell := some (.b (true)) }), (6, { val := some (.b (good e.sku)), tell := some (.b (true)) }), (11, { tell := some (.b (true)) }), (16, { tell := some (.b (decide (e.qty ≤ (1000000 : Int)))) }), (18, { tell := some (.b (decide (dotB e.dot = true ∧ good e.sku = true ∧ (1 : Int) ≤ e.qty ∧ e.qty ≤ (1000000 : Int)))) })] [2] [] ⟨(told_eqt h_1), (con66 (e.dot)), (told_eqt h_2), (con17 (e.sku)), (told_true h_3), (by kernel_rfl), (by simp only [eq_true h_1, eq_true h_2, eq_true h_3, told_simp1, told_simp2, and_true, true_and, and_false, false_and, or_true, true_or, or_false, false_or, not_true_eq_false, not_false_eq_true, decide_true, decide_false, Bool.decide_eq_true])⟩ ?_
  exact ⟨rfl, by kernel_rfl⟩
  refine rg (A := _ ∧ _ ∧ _ ∧ _ ∧ _ ∧ (AV.b false = AV.b (decide (dotB e.dot = true ∧ good e.sku = true ∧ (1 : Int) ≤ e.qty ∧ e.qty ≤ (1000000 : Int))))) cx [(2, { val := some (.b (dotB e.dot)), tell := some (.b (true)) }), (6, { val := some (.b (good e.sku)), tell := some (.b (true)) }), (11, { tell := some (.b (false)) }), (18, { tell := some (.b (decide (dotB e.dot = true ∧ good e.sku = true ∧ (1 : Int) ≤ e.qty ∧ e.qty ≤ (1000000 : Int)))) })] [2] [] ⟨(told_eqt h_1), (con66 (e.dot)), (told_eqt h_2), (con17 (e.sku)), (told_false h_3), (by simp only [eq_true h_1, eq_true h_2, eq_false h_3, told_simp1, told_simp2, and_true, true_and, and_false, false_and, or_true, true_or, or_false, false_or, not_true_eq_false, not_false_eq_true, decide_true, decide_false, Bool.decide_eq_true])⟩ ?_
  exact ⟨rfl, by kernel_rfl⟩
  refine rg (A := _ ∧ _ ∧ (AV.b (good e.sku) = AV.b false) ∧ _ ∧ (AV.b false = AV.b (decide (dotB e.dot = true ∧ good e.sku = true ∧ (1 : Int) ≤ e.qty ∧ e.qty ≤ (1000000 : Int))))) cx [(2, { val := some (.b (dotB e.dot)), tell := some (.b (true)) }), (6, { val := some (.b (good e.sku)), tell := some (.b (false)) }), (18, { tell := some (.b (decide (dotB e.dot = true ∧ good e.sku = true ∧ (1 : Int) ≤ e.qty ∧ e.qty ≤ (1000000 : Int)))) })] [2] [] ⟨(told_eqt h_1), (con66 (e.dot)), (told_eqn h_2), (con17 (e.sku)), (by simp only [eq_true h_1, eq_false h_2, told_simp1, told_simp2, and_true, true_and, and_false, false_and, or_true, true_or, or_false, false_or, not_true_eq_false, not_false_eq_true, decide_true, decide_false, Bool.decide_eq_true])⟩ ?_
  exact ⟨rfl, by kernel_rfl⟩
  refine rg (A := (AV.b (dotB e.dot) = AV.b false) ∧ _ ∧ (AV.b false = AV.b (decide (dotB e.dot = true ∧ good e.sku = true ∧ (1 : Int) ≤ e.qty ∧ e.qty ≤ (1000000 : Int))))) cx [(2, { val := some (.b (dotB e.dot)), tell := some (.b (false)) }), (18, { tell := some (.b (decide (dotB e.dot = true ∧ good e.sku = true ∧ (1 : Int) ≤ e.qty ∧ e.qty ≤ (1000000 : Int)))) })] [2] [] ⟨(told_eqn h_1), (con66 (e.dot)), (by simp only [eq_false h_1, told_simp1, told_simp2, and_true, true_and, and_false, false_and, or_true, true_or, or_false, false_or, not_true_eq_false, not_false_eq_true, decide_true, decide_false, Bool.decide_eq_true])⟩ ?_
  exact ⟨rfl, by kernel_rfl⟩
  refine sn ?_
  refine st_ret (by kernel_rfl) ?_
  refine q_ret (r := .b (decide (dotB e.dot = true ∧ good e.sku = true ∧ (1 : Int) ≤ e.qty ∧ e.qty ≤ (1000000 : Int)))) (obl := []) (by kernel_rfl) trivial (AVle.eq (show AV.b (decide (dotB e.dot = true ∧ good e.sku = true ∧ (1 : Int) ≤ e.qty ∧ e.qty ≤ (1000000 : Int))) = AV.b (decide (entE e = (0 : Int))) from ?g0)); rotate_left 1
  case g0 => rw [decide_eq_decide.2 entE_zero]
theorem con54 (a b : Dot) : Con Try.prog 54 [.agg (c29 a), .agg (c29 b)] (.b (dLt a b)) :=
  by
  refine st_con tab_ok (by kernel_rfl) [.tmp 4] 24 Go.Proofs.Try.func54 (by kernel_rfl) (by kernel_rfl) ?_
  intro e0 cx
  refine sq ?_
  refine rg (A := True) cx [] [2, 3] [2, 3] trivial ?_
  refine sn ?_
  refine sq ?_
  refine st_join (σ' := ⟨[(4, .b (decide (a.rep < b.rep ∨ a.rep = b.rep ∧ a.num < b.num)))], []⟩) ?_ ?_
  refine st_split (a.rep < b.rep) (fun h_1 => ?_) (fun h_1 => ?_)
  refine rg (A := _ ∧ (AV.b true = AV.b (decide (a.rep < b.rep ∨ a.rep = b.rep ∧ a.num < b.num)))) cx [(4, { tell := some (.b (true)) }), (19, { tell := some (.b (decide (a.rep < b.rep ∨ a.rep = b.rep ∧ a.num < b.num))) })] [4] [] ⟨(told_true h_1), (by simp only [eq_true h_1, told_simp1, told_simp2, and_true, true_and, and_false, false_and, or_true, true_or, or_false, false_or, not_true_eq_false, not_false_eq_true, decide_true, decide_false, Bool.decide_eq_true])⟩ ?_
  exact ⟨rfl, by kernel_rfl⟩
  refine st_split (a.rep = b.rep) (fun h_2 => ?_) (fun h_2 => ?_)
  refine rg (A := _ ∧ _ ∧ (AV.b (decide (a.num < b.num)) = AV.b (decide (a.num < b.num))) ∧ (AV.b (decide (a.num < b.num)) = AV.b (decide (a.rep < b.rep ∨ a.rep = b.rep ∧ a.num < b.num)))) cx [(4, { tell := some (.b (false)) }), (10, { tell := some (.b (true)) }), (16, { tell := some (.b (decide (a.num < b.num))) }), (19, { tell := some (.b (decide (a.rep < b.rep ∨ a.rep = b.rep ∧ a.num < b.num))) })] [4] [] ⟨(told_false h_1), (told_true h_2), (by kernel_rfl), (by simp only [eq_false h_1, eq_true h_2, told_simp1, told_simp2, and_true, true_and, and_false, false_and, or_true, true_or, or_false, false_or, not_true_eq_false, not_false_eq_true, decide_true, decide_false, Bool.decide_eq_true])⟩ ?_
  exact ⟨rfl, by kernel_rfl⟩
  refine rg (A := _ ∧ _ ∧ (AV.b false = AV.b (decide (a.rep < b.rep ∨ a.rep = b.rep ∧ a.num < b.num)))) cx [(4, { tell := some (.b (false)) }), (10, { tell := some (.b (false)) }), (19, { tell := some (.b (decide (a.rep < b.rep ∨ a.rep = b.rep ∧ a.num < b.num))) })] [4] [] ⟨(told_false h_1), (told_false h_2), (by simp only [eq_false h_1, eq_false h_2, told_simp1, told_simp2, and_true, true_and, and_false, false_and, or_true, true_or, or_false, false_or, not_true_eq_false, not_false_eq_true, decide_true, decide_false, Bool.decide_eq_true])⟩ ?_
  exact ⟨rfl, by kernel_rfl⟩
  refine sn ?_
  refine st_ret (by kernel_rfl) ?_
  refine q_ret (r := .b (decide (a.rep < b.rep ∨ a.rep = b.rep ∧ a.num < b.num))) (obl := []) (by kernel_rfl) trivial (AVle.eq (show AV.b (decide (a.rep < b.rep ∨ a.rep = b.rep ∧ a.num < b.num)) = AV.b (dLt a b) from ?g0)); rotate_left 1
  case g0 => exact rfl
theorem con37 (es : List Entry) : Con Try.prog 37 [.sl (es.map c40)] (.b (decide (lstE es = 0))) :=
  by
  have e : ∀ {i : Int}, 0 ≤ i → (i - 1).toNat = i.toNat - 1 := fun {i} h => by omega
  refine con_lens 0 (c40) (es) (by kernel_rfl) Go.Proofs.Try.func37 (by kernel_rfl) fun hl_0 => ?_
  refine st_con tab_ok (by kernel_rfl) [.tmp 2] 35 Go.Proofs.Try.func37 (by kernel_rfl) (by kernel_rfl) ?_
  intro e0 cx
  refine sq ?_
  refine rg (A := True) cx [] [0] [] trivial ?_
  refine sn ?_
  refine sq ?_
  refine sq ?_
  refine rg (A := True) cx [] [0, 3] [] trivial ?_
  refine sn ?_
  refine st_block 0 (by kernel_rfl) ?_
  refine st_loop (X := Int) (fun x => ⟨[(0, .sl (List.map c40 es)), (3, .i .i64 (x))], []⟩) (fun x ↦ decL es x) (fun x ↦ invL es x) [0, 3] [] ((0 : Int)) (by kernel_rfl) (by kernel_rfl) (show invL es (0 : Int) from ?g0) ?_; rotate_left 1
  intro i_0 h_1
  obtain ⟨h_2, h_3, h_4⟩ : (0 : Int) ≤ i_0 ∧ i_0 ≤ (↑es.length : Int) ∧ ∀ (j : Nat), (↑j : Int) < i_0 → okAt es j = true := h_1
  refine sq ?_
  refine sq ?_
  refine rg (A := _ ∧ (AV.b (decide (i_0 < (↑es.length : Int))) = AV.b (decide (i_0 < (↑es.length : Int))))) cx [(2, { tell := some (.i .i64 ((↑es.length : Int))) }), (3, { tell := some (.b (decide (i_0 < (↑es.length : Int)))) })] [0, 3, 7] [] ⟨(told_len c40 es), (by kernel_rfl)⟩ ?_
  refine sn ?_
  refine st_dec (i_0 < (↑es.length : Int)) (by kernel_rfl) (by kernel_rfl) (fun h_5 => ?_) (fun h_5 => ?_)
  refine st_skip (by kernel_rfl) ?_
  refine sn ?_
  refine sq ?_
  refine st_block 1 (by kernel_rfl) ?_
  refine sq ?_
  refine st_join (σ' := ⟨[(0, .sl (List.map c40 es)), (3, .i .i64 (i_0)), (34, .b (decide (¬entE es[i_0.toNat]! = (0 : Int) ∨ (0 : Int) < i_0 ∧ ¬dLt es[(i_0 - (1 : Int)).toNat]!.dot es[i_0.toNat]!.dot = true)))], []⟩) ?_ ?_
  refine st_split (¬entE es[i_0.toNat]! = (0 : Int)) (fun h_7 => ?_) (fun h_7 => ?_)
  refine ra (A := ((0 : Int) ≤ i_0) ∧ ((List.map c40 es)[i_0.toNat]? = some (c40 es[i_0.toNat]!)) ∧ ((c40 es[i_0.toNat]!).length = (4 : Nat)) ∧ ((4 : Nat) ≤ [AV.i IntKind.i64 es[i_0.toNat]!.dot.rep, AV.i IntKind.i64 es[i_0.toNat]!.dot.num, AV.s es[i_0.toNat]!.sku, AV.i IntKind.i64 es[i_0.toNat]!.qty].length) ∧ _ ∧ _ ∧ (AV.b true = AV.b (decide (¬entE es[i_0.toNat]! = (0 : Int) ∨ (0 : Int) < i_0 ∧ ¬dLt es[(i_0 - (1 : Int)).toNat]!.dot es[i_0.toNat]!.dot = true)))) cx [(2, { row := (c40 es[i_0.toNat]!) }), (4, { val := some (.b (decide (entE es[i_0.toNat]! = (0 : Int)))), tell := some (.b (false)) }), (24, { tell := some (.b (decide (¬entE es[i_0.toNat]! = (0 : Int) ∨ (0 : Int) < i_0 ∧ ¬dLt es[(i_0 - (1 : Int)).toNat]!.dot es[i_0.toNat]!.dot = true))) })] [0, 3, 34] [] ⟨(by (with_reducible assumption)), (by (with_reducible refine get_map ?_; omega)), (by kernel_rfl), (by (simp only [List.length_append, List.length_cons, List.length_nil]; omega)), (told_false h_7), (con53 (es[i_0.toNat]!)), (by simp only [eq_false h_7, told_simp1, told_simp2, and_true, true_and, and_false, false_and, or_true, true_or, or_false, false_or, not_true_eq_false, not_false_eq_true, decide_true, decide_false, Bool.decide_eq_true])⟩ ?_
  exact ⟨rfl, by kernel_rfl⟩
  refine st_split ((0 : Int) < i_0) (fun h_8 => ?_) (fun h_8 => ?_)
  refine ra (A := ((0 : Int) ≤ i_0) ∧ ((List.map c40 es)[i_0.toNat]? = some (c40 es[i_0.toNat]!)) ∧ ((c40 es[i_0.toNat]!).length = (4 : Nat)) ∧ ((4 : Nat) ≤ [AV.i IntKind.i64 es[i_0.toNat]!.dot.rep, AV.i IntKind.i64 es[i_0.toNat]!.dot.num, AV.s es[i_0.toNat]!.sku, AV.i IntKind.i64 es[i_0.toNat]!.qty].length) ∧ _ ∧ ((AV.b !decide (entE es[i_0.toNat]! = (0 : Int))) = AV.b (decide ¬entE es[i_0.toNat]! = (0 : Int))) ∧ _ ∧ _ ∧ (AV.i IntKind.i64 (IntKind.i64.wrap (i_0 - (1 : Int))) = AV.i IntKind.i64 (i_0 - (1 : Int))) ∧ ((0 : Int) ≤ i_0 - (1 : Int)) ∧ ((List.map c40 es)[(i_0 - (1 : Int)).toNat]? = some (c40 es[(i_0 - (1 : Int)).toNat]!)) ∧ ((c40 es[(i_0 - (1 : Int)).toNat]!).length = (4 : Nat)) ∧ ((2 : Nat) ≤ [AV.i IntKind.i64 es[(i_0 - (1 : Int)).toNat]!.dot.rep, AV.i IntKind.i64 es[(i_0 - (1 : Int)).toNat]!.dot.num, AV.s es[(i_0 - (1 : Int)).toNat]!.sku, AV.i IntKind.i64 es[(i_0 - (1 : Int)).toNat]!.qty].length) ∧ ((0 : Int) ≤ i_0) ∧ ((List.map c40 es)[i_0.toNat]? = some (c40 es[i_0.toNat]!)) ∧ ((c40 es[i_0.toNat]!).length = (4 : Nat)) ∧ ((2 : Nat) ≤ [AV.i IntKind.i64 es[i_0.toNat]!.dot.rep, AV.i IntKind.i64 es[i_0.toNat]!.dot.num, AV.s es[i_0.toNat]!.sku, AV.i IntKind.i64 es[i_0.toNat]!.qty].length) ∧ _ ∧ ((AV.b !dLt es[(i_0 - (1 : Int)).toNat]!.dot es[i_0.toNat]!.dot) = AV.b (decide ¬dLt es[(i_0 - (1 : Int)).toNat]!.dot es[i_0.toNat]!.dot = true)) ∧ (AV.b (decide ¬dLt es[(i_0 - (1 : Int)).toNat]!.dot es[i_0.toNat]!.dot = true) = AV.b (decide (¬entE es[i_0.toNat]! = (0 : Int) ∨ (0 : Int) < i_0 ∧ ¬dLt es[(i_0 - (1 : Int)).toNat]!.dot es[i_0.toNat]!.dot = true)))) cx [(2, { row := (c40 es[i_0.toNat]!) }), (4, { val := some (resC (con53 (es[i_0.toNat]!))) }), (5, { tell := some (.b (decide ¬entE es[i_0.toNat]! = (0 : Int))) }), (6, { tell := some (.b (false)) }), (8, { tell := some (.b (true)) }), (12, { tell := some (.i .i64 (i_0 - (1 : Int))) }), (13, { row := (c40 es[(i_0 - (1 : Int)).toNat]!) }), (18, { row := (c40 es[i_0.toNat]!) }), (21, { val := some (.b (dLt es[(i_0 - (1 : Int)).toNat]!.dot es[i_0.toNat]!.dot)) }), (22, { tell := some (.b (decide ¬dLt es[(i_0 - (1 : Int)).toNat]!.dot es[i_0.toNat]!.dot = true)) }), (24, { tell := some (.b (decide (¬entE es[i_0.toNat]! = (0 : Int) ∨ (0 : Int) < i_0 ∧ ¬dLt es[(i_0 - (1 : Int)).toNat]!.dot es[i_0.toNat]!.dot = true))) })] [0, 3, 34] [] ⟨(by (with_reducible assumption)), (by (with_reducible refine get_map ?_; omega)), (by kernel_rfl), (by (simp only [List.length_append, List.length_cons, List.length_nil]; omega)), (con53 (es[i_0.toNat]!)), (told_notd), (told_false h_7), (told_true h_8), (told_i64 (by omega) (by omega)), (by omega), (by (with_reducible refine get_map ?_; omega)), (by kernel_rfl), (by (simp only [List.length_append, List.length_cons, List.length_nil]; omega)), (by (with_reducible assumption)), (by (with_reducible refine get_map ?_; omega)), (by kernel_rfl), (by (simp only [List.length_append, List.length_cons, List.length_nil]; omega)), (con54 (es[(i_0 - (1 : Int)).toNat]!.dot) (es[i_0.toNat]!.dot)), (told_not), (by first | (simp only [eq_false h_7, eq_true h_8, told_simp1, told_simp2, and_true, true_and, and_false, false_and, or_true, true_or, or_false, false_or, not_true_eq_false, not_false_eq_true, decide_true, decide_false, Bool.decide_eq_true]; done) | simp_all)⟩ ?_
  exact ⟨rfl, by kernel_rfl⟩
  refine ra (A := ((0 : Int) ≤ i_0) ∧ ((List.map c40 es)[i_0.toNat]? = some (c40 es[i_0.toNat]!)) ∧ ((c40 es[i_0.toNat]!).length = (4 : Nat)) ∧ ((4 : Nat) ≤ [AV.i IntKind.i64 es[i_0.toNat]!.dot.rep, AV.i IntKind.i64 es[i_0.toNat]!.dot.num, AV.s es[i_0.toNat]!.sku, AV.i IntKind.i64 es[i_0.toNat]!.qty].length) ∧ _ ∧ ((AV.b !decide (entE es[i_0.toNat]! = (0 : Int))) = AV.b (decide ¬entE es[i_0.toNat]! = (0 : Int))) ∧ _ ∧ _ ∧ (AV.b false = AV.b (decide (¬entE es[i_0.toNat]! = (0 : Int) ∨ (0 : Int) < i_0 ∧ ¬dLt es[(i_0 - (1 : Int)).toNat]!.dot es[i_0.toNat]!.dot = true)))) cx [(2, { row := (c40 es[i_0.toNat]!) }), (4, { val := some (resC (con53 (es[i_0.toNat]!))) }), (5, { tell := some (.b (decide ¬entE es[i_0.toNat]! = (0 : Int))) }), (6, { tell := some (.b (false)) }), (8, { tell := some (.b (false)) }), (24, { tell := some (.b (decide (¬entE es[i_0.toNat]! = (0 : Int) ∨ (0 : Int) < i_0 ∧ ¬dLt es[(i_0 - (1 : Int)).toNat]!.dot es[i_0.toNat]!.dot = true))) })] [0, 3, 34] [] ⟨(by (with_reducible assumption)), (by (with_reducible refine get_map ?_; omega)), (by kernel_rfl), (by (simp only [List.length_append, List.length_cons, List.length_nil]; omega)), (con53 (es[i_0.toNat]!)), (told_notd), (told_false h_7), (told_false h_8), (by first | (simp only [eq_false h_7, eq_false h_8, told_simp1, told_simp2, and_true, true_and, and_false, false_and, or_true, true_or, or_false, false_or, not_true_eq_false, not_false_eq_true, decide_true, decide_false, Bool.decide_eq_true]; done) | simp_all)⟩ ?_
  exact ⟨rfl, by kernel_rfl⟩
  refine sn ?_
  refine st_dec (¬entE es[i_0.toNat]! = (0 : Int) ∨ (0 : Int) < i_0 ∧ ¬dLt es[(i_0 - (1 : Int)).toNat]!.dot es[i_0.toNat]!.dot = true) (by kernel_rfl) (by kernel_rfl) (fun h_9 => ?_) (fun h_9 => ?_)
  refine sq ?_
  refine rg (A := True) cx [] [2] [] trivial ?_
  refine sn ?_
  refine st_ret (by kernel_rfl) ?_
  refine q_blk_ret ?_
  refine q_seq_ret ?_
  refine q_seq_ret ?_
  refine q_blk_ret ?_
  refine q_seq_ret ?_
  refine q_ret (r := .b (false)) (obl := []) (by kernel_rfl) trivial (AVle.eq (show AV.b false = AV.b (decide (lstE es = (0 : Int))) from ?g1)); rotate_left 1
  refine st_skip (by kernel_rfl) ?_
  refine q_blk_normal ?_
  refine sn ?_
  refine rg (A := (AV.i IntKind.i64 (IntKind.i64.wrap (i_0 + (1 : Int))) = AV.i IntKind.i64 (i_0 + (1 : Int)))) cx [(1, { tell := some (.i .i64 (i_0 + (1 : Int))) })] [0, 3] [] (told_i64 (by omega) (by omega)) ?_
  refine sn ?_
  refine loop_next (i_0 + (1 : Int)) (by kernel_rfl) (show ((↑es.length : Int) - (i_0 + (1 : Int))).toNat < ((↑es.length : Int) - i_0).toNat from (by omega)) (show invL es (i_0 + (1 : Int)) from ?g2); rotate_left 1
  refine st_exit 0 (by kernel_rfl) ?_
  refine q_seq_exit ?_
  refine q_seq_exit ?_
  refine q_blk_hit ?_
  refine sn ?_
  refine sq ?_
  refine rg (A := True) cx [] [2] [] trivial ?_
  refine sn ?_
  refine st_ret (by kernel_rfl) ?_
  refine q_ret (r := .b (true)) (obl := []) (by kernel_rfl) trivial (AVle.eq (show AV.b true = AV.b (decide (lstE es = (0 : Int))) from ?g3)); rotate_left 1
  rotate_left
  revert i_0 h_2 h_3 h_4 h_5 h_9; rotate_left
  revert i_0 h_2 h_3 h_4 h_5 h_9; rotate_left
  revert i_0 h_2 h_3 h_4 h_5; rotate_left
  case g0 => exact ⟨by omega, by omega, fun j hj => by omega⟩
  case g1 =>
    intro i h0 h1 h2 h3 h4
    rw [lstE_bad (i := i.toNat) (by omega) (not_okAt _)]
    · rfl
    rw [e h0] at h4
    rw [okAt_iff]; rintro ⟨a, b⟩
    rcases h4 with h4 | ⟨h4, h5⟩
    · exact h4 a
    · rcases b with b | b
      · omega
      · exact h5 b
  case g2 =>
    intro i h0 h1 h2 h3 h4
    rw [e h0] at h4
    refine invL_step h0 h3 h2 ((okAt_iff _ _).2 ⟨Classical.byContradiction fun a => h4 (.inl a), ?_⟩)
    by_cases c : i.toNat = 0
    · exact .inl c
    · exact .inr (Classical.byContradiction fun a => h4 (.inr ⟨by omega, a⟩))
  case g3 => intro i h0 h1 h2 h3; rw [lstE_ok fun j hj => h2 j (by omega)]; rfl
theorem con55 (r : Record) (hb : szP r.past) : Con Try.prog 55 [.agg (c78 r)] (.b (decide (ckR r = 0))) :=
  by
  refine st_con tab_ok (by kernel_rfl) [.tmp 2] 22 Go.Proofs.Try.func55 (by kernel_rfl) (by kernel_rfl) ?_
  intro e0 cx
  refine sq ?_
  refine rg (A := True) cx [] [1] [1] trivial ?_
  refine sn ?_
  refine sq ?_
  refine st_join (σ' := ⟨[(2, .b (decide (r.sku = { data := #[] : ByteArray } ∧ r.past = normP r.past ∧ ¬sizeP r.past = (0 : Int) ∨ ¬r.sku = { data := #[] : ByteArray } ∧ good r.sku = true ∧ r.past = normP r.past ∧ ¬sizeP r.past = (0 : Int))))], []⟩) ?_ ?_
  refine st_split (r.sku = { data := #[] : ByteArray }) (fun h_1 => ?_) (fun h_1 => ?_)
  refine st_split (r.past = normP r.past) (fun h_2 => ?_) (fun h_2 => ?_)
  refine rg (A := (AV.b (r.sku.toList == { data := #[] : ByteArray }.toList) = AV.b true) ∧ _ ∧ _ ∧ _ ∧ ((AV.b !decide (sizeP r.past = (0 : Int))) = AV.b (decide ¬sizeP r.past = (0 : Int))) ∧ (AV.b (decide ¬sizeP r.past = (0 : Int)) = AV.b (decide (r.sku = { data := #[] : ByteArray } ∧ r.past = normP r.past ∧ ¬sizeP r.past = (0 : Int) ∨ ¬r.sku = { data := #[] : ByteArray } ∧ good r.sku = true ∧ r.past = normP r.past ∧ ¬sizeP r.past = (0 : Int))))) cx [(2, { tell := some (.b (true)) }), (11, { val := some (.b (decide (r.past = normP r.past))), tell := some (.b (true)) }), (16, { val := some (.b (decide (sizeP r.past = (0 : Int)))) }), (17, { tell := some (.b (decide ¬sizeP r.past = (0 : Int))) }), (19, { tell := some (.b (decide (r.sku = { data := #[] : ByteArray } ∧ r.past = normP r.past ∧ ¬sizeP r.past = (0 : Int) ∨ ¬r.sku = { data := #[] : ByteArray } ∧ good r.sku = true ∧ r.past = normP r.past ∧ ¬sizeP r.past = (0 : Int)))) })] [2] [] ⟨(told_seqt h_1), (told_true h_2), (con16 (r.past) ?g0 ?g1), (con23 (r.past) ?g2), (told_notd), (by simp only [eq_true h_1, eq_true h_2, told_simp1, told_simp2, and_true, true_and, and_false, false_and, or_true, true_or, or_false, false_or, not_true_eq_false, not_false_eq_true, decide_true, decide_false, Bool.decide_eq_true])⟩ ?_; rotate_left 3
  exact ⟨rfl, by kernel_rfl⟩
  refine rg (A := (AV.b (r.sku.toList == { data := #[] : ByteArray }.toList) = AV.b true) ∧ _ ∧ _ ∧ (AV.b false = AV.b (decide (r.sku = { data := #[] : ByteArray } ∧ r.past = normP r.past ∧ ¬sizeP r.past = (0 : Int) ∨ ¬r.sku = { data := #[] : ByteArray } ∧ good r.sku = true ∧ r.past = normP r.past ∧ ¬sizeP r.past = (0 : Int))))) cx [(2, { tell := some (.b (true)) }), (11, { val := some (.b (decide (r.past = normP r.past))), tell := some (.b (false)) }), (19, { tell := some (.b (decide (r.sku = { data := #[] : ByteArray } ∧ r.past = normP r.past ∧ ¬sizeP r.past = (0 : Int) ∨ ¬r.sku = { data := #[] : ByteArray } ∧ good r.sku = true ∧ r.past = normP r.past ∧ ¬sizeP r.past = (0 : Int)))) })] [2] [] ⟨(told_seqt h_1), (told_false h_2), (con16 (r.past) ?g3 ?g4), (by simp only [eq_true h_1, eq_false h_2, told_simp1, told_simp2, and_true, true_and, and_false, false_and, or_true, true_or, or_false, false_or, not_true_eq_false, not_false_eq_true, decide_true, decide_false, Bool.decide_eq_true])⟩ ?_; rotate_left 2
  exact ⟨rfl, by kernel_rfl⟩
  refine st_split (good r.sku = true) (fun h_3 => ?_) (fun h_3 => ?_)
  refine st_split (r.past = normP r.past) (fun h_4 => ?_) (fun h_4 => ?_)
  refine rg (A := (AV.b (r.sku.toList == { data := #[] : ByteArray }.toList) = AV.b false) ∧ _ ∧ _ ∧ _ ∧ _ ∧ _ ∧ ((AV.b !decide (sizeP r.past = (0 : Int))) = AV.b (decide ¬sizeP r.past = (0 : Int))) ∧ (AV.b (decide ¬sizeP r.past = (0 : Int)) = AV.b (decide (r.sku = { data := #[] : ByteArray } ∧ r.past = normP r.past ∧ ¬sizeP r.past = (0 : Int) ∨ ¬r.sku = { data := #[] : ByteArray } ∧ good r.sku = true ∧ r.past = normP r.past ∧ ¬sizeP r.past = (0 : Int))))) cx [(2, { tell := some (.b (false)) }), (6, { val := some (.b (good r.sku)), tell := some (.b (true)) }), (11, { val := some (.b (decide (r.past = normP r.past))), tell := some (.b (true)) }), (16, { val := some (.b (decide (sizeP r.past = (0 : Int)))) }), (17, { tell := some (.b (decide ¬sizeP r.past = (0 : Int))) }), (19, { tell := some (.b (decide (r.sku = { data := #[] : ByteArray } ∧ r.past = normP r.past ∧ ¬sizeP r.past = (0 : Int) ∨ ¬r.sku = { data := #[] : ByteArray } ∧ good r.sku = true ∧ r.past = normP r.past ∧ ¬sizeP r.past = (0 : Int)))) })] [2] [] ⟨(told_seqf h_1), (told_eqt h_3), (con17 (r.sku)), (told_true h_4), (con16 (r.past) ?g5 ?g6), (con23 (r.past) ?g7), (told_notd), (by simp only [eq_false h_1, eq_true h_3, eq_true h_4, told_simp1, told_simp2, and_true, true_and, and_false, false_and, or_true, true_or, or_false, false_or, not_true_eq_false, not_false_eq_true, decide_true, decide_false, Bool.decide_eq_true])⟩ ?_; rotate_left 3
  exact ⟨rfl, by kernel_rfl⟩
  refine rg (A := (AV.b (r.sku.toList == { data := #[] : ByteArray }.toList) = AV.b false) ∧ _ ∧ _ ∧ _ ∧ _ ∧ (AV.b false = AV.b (decide (r.sku = { data := #[] : ByteArray } ∧ r.past = normP r.past ∧ ¬sizeP r.past = (0 : Int) ∨ ¬r.sku = { data := #[] : ByteArray } ∧ good r.sku = true ∧ r.past = normP r.past ∧ ¬sizeP r.past = (0 : Int))))) cx [(2, { tell := some (.b (false)) }), (6, { val := some (.b (good r.sku)), tell := some (.b (true)) }), (11, { val := some (.b (decide (r.past = normP r.past))), tell := some (.b (false)) }), (19, { tell := some (.b (decide (r.sku = { data := #[] : ByteArray } ∧ r.past = normP r.past ∧ ¬sizeP r.past = (0 : Int) ∨ ¬r.sku = { data := #[] : ByteArray } ∧ good r.sku = true ∧ r.past = normP r.past ∧ ¬sizeP r.past = (0 : Int)))) })] [2] [] ⟨(told_seqf h_1), (told_eqt h_3), (con17 (r.sku)), (told_false h_4), (con16 (r.past) ?g8 ?g9), (by simp only [eq_false h_1, eq_true h_3, eq_false h_4, told_simp1, told_simp2, and_true, true_and, and_false, false_and, or_true, true_or, or_false, false_or, not_true_eq_false, not_false_eq_true, decide_true, decide_false, Bool.decide_eq_true])⟩ ?_; rotate_left 2
  exact ⟨rfl, by kernel_rfl⟩
  refine rg (A := (AV.b (r.sku.toList == { data := #[] : ByteArray }.toList) = AV.b false) ∧ (AV.b (good r.sku) = AV.b false) ∧ _ ∧ (AV.b false = AV.b (decide (r.sku = { data := #[] : ByteArray } ∧ r.past = normP r.past ∧ ¬sizeP r.past = (0 : Int) ∨ ¬r.sku = { data := #[] : ByteArray } ∧ good r.sku = true ∧ r.past = normP r.past ∧ ¬sizeP r.past = (0 : Int))))) cx [(2, { tell := some (.b (false)) }), (6, { val := some (.b (good r.sku)), tell := some (.b (false)) }), (19, { tell := some (.b (decide (r.sku = { data := #[] : ByteArray } ∧ r.past = normP r.past ∧ ¬sizeP r.past = (0 : Int) ∨ ¬r.sku = { data := #[] : ByteArray } ∧ good r.sku = true ∧ r.past = normP r.past ∧ ¬sizeP r.past = (0 : Int)))) })] [2] [] ⟨(told_seqf h_1), (told_eqn h_3), (con17 (r.sku)), (by simp only [eq_false h_1, eq_false h_3, told_simp1, told_simp2, and_true, true_and, and_false, false_and, or_true, true_or, or_false, false_or, not_true_eq_false, not_false_eq_true, decide_true, decide_false, Bool.decide_eq_true])⟩ ?_
  exact ⟨rfl, by kernel_rfl⟩
  refine sn ?_
  refine st_ret (by kernel_rfl) ?_
  refine q_ret (r := .b (decide (r.sku = { data := #[] : ByteArray } ∧ r.past = normP r.past ∧ ¬sizeP r.past = (0 : Int) ∨ ¬r.sku = { data := #[] : ByteArray } ∧ good r.sku = true ∧ r.past = normP r.past ∧ ¬sizeP r.past = (0 : Int)))) (obl := []) (by kernel_rfl) trivial (AVle.eq (show AV.b (decide (r.sku = { data := #[] : ByteArray } ∧ r.past = normP r.past ∧ ¬sizeP r.past = (0 : Int) ∨ ¬r.sku = { data := #[] : ByteArray } ∧ good r.sku = true ∧ r.past = normP r.past ∧ ¬sizeP r.past = (0 : Int))) = AV.b (decide (ckR r = (0 : Int))) from ?g10)); rotate_left 1
  revert h_1 h_2; rotate_left
  revert h_1 h_2; rotate_left
  revert h_1 h_2; rotate_left
  revert h_1 h_2; rotate_left
  revert h_1 h_2; rotate_left
  revert h_1 h_3 h_4; rotate_left
  revert h_1 h_3 h_4; rotate_left
  revert h_1 h_3 h_4; rotate_left
  revert h_1 h_3 h_4; rotate_left
  revert h_1 h_3 h_4; rotate_left
  rotate_left
  case g10 =>
    refine congrArg AV.b (decide_eq_decide.2 (Iff.trans ?_ ck_ok.symm))
    show (r.sku = noneS ∧ _ ∨ ¬ r.sku = noneS ∧ _) ↔ _
    by_cases c : r.sku = noneS
    · simp [c]
    · simp [c]
  all_goals (intros; first | exact hb.1 | exact hb.2)
theorem con38 (rs : List Record) (hb : szQ rs) : Con Try.prog 38 [.sl (rs.map c78)] (.b (decide (recE rs = 0))) :=
  by
  have e : ∀ {i : Int}, 0 ≤ i → (i - 1).toNat = i.toNat - 1 := fun {i} h => by omega
  have L : ∀ {r s : Record}, (¬ (sLt r.sku s.sku = true ∨ r.sku = s.sku) ∨ r.sku = s.sku ∧ 0 ≤ cmpP r.past s.past) ↔ ¬ cmpRec r s < 0 := by
    intro r s
    rw [rec_lt]
    constructor
    · rintro (h | ⟨h1, h2⟩) (k | ⟨k1, k2⟩)
      · exact h (.inl k)
      · exact h (.inr k1)
      · rw [h1] at k; exact sLt_irr _ k
      · omega
    · intro h
      by_cases c : r.sku = s.sku
      · exact .inr ⟨c, Int.not_lt.1 fun k => h (.inr ⟨c, k⟩)⟩
      · exact .inl fun k => by
          rcases k with k | k
          · exact h (.inl k)
          · exact c k
  refine con_lens 0 (c78) (rs) (by kernel_rfl) Go.Proofs.Try.func38 (by kernel_rfl) fun hl_0 => ?_
  refine st_con tab_ok (by kernel_rfl) [.tmp 2] 49 Go.Proofs.Try.func38 (by kernel_rfl) (by kernel_rfl) ?_
  intro e0 cx
  refine sq ?_
  refine rg (A := True) cx [] [0] [] trivial ?_
  refine sn ?_
  refine sq ?_
  refine sq ?_
  refine rg (A := True) cx [] [0, 3] [] trivial ?_
  refine sn ?_
  refine st_block 0 (by kernel_rfl) ?_
  refine st_loop (X := Int) (fun x => ⟨[(0, .sl (List.map c78 rs)), (3, .i .i64 (x))], []⟩) (fun x ↦ decKc rs x) (fun x ↦ invKc rs x) [0, 3] [] ((0 : Int)) (by kernel_rfl) (by kernel_rfl) (show invKc rs (0 : Int) from ?g0) ?_; rotate_left 1
  intro i_0 h_1
  obtain ⟨h_2, h_3, h_4⟩ : (0 : Int) ≤ i_0 ∧ i_0 ≤ (↑rs.length : Int) ∧ ∀ (j : Nat), (↑j : Int) < i_0 → okRs rs j = true := h_1
  refine sq ?_
  refine sq ?_
  refine rg (A := _ ∧ (AV.b (decide (i_0 < (↑rs.length : Int))) = AV.b (decide (i_0 < (↑rs.length : Int))))) cx [(2, { tell := some (.i .i64 ((↑rs.length : Int))) }), (3, { tell := some (.b (decide (i_0 < (↑rs.length : Int)))) })] [0, 3, 9] [] ⟨(told_len c78 rs), (by kernel_rfl)⟩ ?_
  refine sn ?_
  refine st_dec (i_0 < (↑rs.length : Int)) (by kernel_rfl) (by kernel_rfl) (fun h_5 => ?_) (fun h_5 => ?_)
  refine st_skip (by kernel_rfl) ?_
  refine sn ?_
  refine sq ?_
  refine st_block 1 (by kernel_rfl) ?_
  refine sq ?_
  refine sq ?_
  refine rg (A := ((0 : Int) ≤ i_0) ∧ ((List.map c78 rs)[i_0.toNat]? = some (c78 rs[i_0.toNat]!)) ∧ ((c78 rs[i_0.toNat]!).length = (3 : Nat)) ∧ ((3 : Nat) ≤ [AV.s rs[i_0.toNat]!.sku, AV.sl (List.map c3 rs[i_0.toNat]!.past.vec), AV.sl (List.map c50 rs[i_0.toNat]!.past.cloud)].length) ∧ _ ∧ ((AV.b !decide (ckR rs[i_0.toNat]! = (0 : Int))) = AV.b (decide ¬ckR rs[i_0.toNat]! = (0 : Int)))) cx [(2, { row := (c78 rs[i_0.toNat]!) }), (4, { val := some (.b (decide (ckR rs[i_0.toNat]! = (0 : Int)))) }), (5, { tell := some (.b (decide ¬ckR rs[i_0.toNat]! = (0 : Int))) })] [0, 3, 17] [] ⟨(by (with_reducible assumption)), (by (with_reducible refine get_map ?_; omega)), (by kernel_rfl), (by (simp only [List.length_append, List.length_cons, List.length_nil]; omega)), (con55 (rs[i_0.toNat]!) ?g1), (told_notd)⟩ ?_; rotate_left 1
  refine sn ?_
  refine st_dec (¬ckR rs[i_0.toNat]! = (0 : Int)) (by kernel_rfl) (by kernel_rfl) (fun h_6 => ?_) (fun h_6 => ?_)
  refine sq ?_
  refine rg (A := True) cx [] [2] [] trivial ?_
  refine sn ?_
  refine st_ret (by kernel_rfl) ?_
  refine q_seq_ret ?_
  refine q_blk_ret ?_
  refine q_seq_ret ?_
  refine q_seq_ret ?_
  refine q_blk_ret ?_
  refine q_seq_ret ?_
  refine q_ret (r := .b (false)) (obl := []) (by kernel_rfl) trivial (AVle.eq (show AV.b false = AV.b (decide (recE rs = (0 : Int))) from ?g2)); rotate_left 1
  refine st_skip (by kernel_rfl) ?_
  refine sn ?_
  refine sq ?_
  refine rg (A := (AV.b (decide (i_0 > (0 : Int))) = AV.b (decide ((0 : Int) < i_0)))) cx [(1, { tell := some (.b (decide ((0 : Int) < i_0))) })] [0, 3, 19] [] (by kernel_rfl) ?_
  refine sn ?_
  refine st_dec ((0 : Int) < i_0) (by kernel_rfl) (by kernel_rfl) (fun h_7 => ?_) (fun h_7 => ?_)
  refine sq ?_
  refine ra (A := (AV.i IntKind.i64 (IntKind.i64.wrap (i_0 - (1 : Int))) = AV.i IntKind.i64 (i_0 - (1 : Int))) ∧ ((0 : Int) ≤ i_0 - (1 : Int)) ∧ ((List.map c78 rs)[(i_0 - (1 : Int)).toNat]? = some (c78 rs[(i_0 - (1 : Int)).toNat]!)) ∧ ((c78 rs[(i_0 - (1 : Int)).toNat]!).length = (3 : Nat)) ∧ ((3 : Nat) ≤ [AV.s rs[(i_0 - (1 : Int)).toNat]!.sku, AV.sl (List.map c3 rs[(i_0 - (1 : Int)).toNat]!.past.vec), AV.sl (List.map c50 rs[(i_0 - (1 : Int)).toNat]!.past.cloud)].length) ∧ ((0 : Int) ≤ i_0) ∧ ((List.map c78 rs)[i_0.toNat]? = some (c78 rs[i_0.toNat]!)) ∧ ((c78 rs[i_0.toNat]!).length = (3 : Nat)) ∧ ((3 : Nat) ≤ [AV.s rs[i_0.toNat]!.sku, AV.sl (List.map c3 rs[i_0.toNat]!.past.vec), AV.sl (List.map c50 rs[i_0.toNat]!.past.cloud)].length)) cx [(2, { tell := some (.i .i64 (i_0 - (1 : Int))) }), (3, { row := (c78 rs[(i_0 - (1 : Int)).toNat]!) }), (7, { row := (c78 rs[i_0.toNat]!) })] [0, 3, 4, 5] [4, 5] ⟨(told_i64 (by omega) (by omega)), (by omega), (by (with_reducible refine get_map ?_; omega)), (by kernel_rfl), (by (simp only [List.length_append, List.length_cons, List.length_nil]; omega)), (by (with_reducible assumption)), (by (with_reducible refine get_map ?_; omega)), (by kernel_rfl), (by (simp only [List.length_append, List.length_cons, List.length_nil]; omega))⟩ ?_
  refine sn ?_
  refine sq ?_
  refine st_join (σ' := ⟨[(0, .sl (List.map c78 rs)), (3, .i .i64 (i_0)), (48, .b (decide (¬(sLt rs[(i_0 - (1 : Int)).toNat]!.sku rs[i_0.toNat]!.sku = true ∨ rs[(i_0 - (1 : Int)).toNat]!.sku = rs[i_0.toNat]!.sku) ∨ rs[(i_0 - (1 : Int)).toNat]!.sku = rs[i_0.toNat]!.sku ∧ (0 : Int) ≤ cmpP rs[(i_0 - (1 : Int)).toNat]!.past rs[i_0.toNat]!.past)))], []⟩) ?_ ?_
  refine st_split (¬(sLt rs[(i_0 - (1 : Int)).toNat]!.sku rs[i_0.toNat]!.sku = true ∨ rs[(i_0 - (1 : Int)).toNat]!.sku = rs[i_0.toNat]!.sku)) (fun h_9 => ?_) (fun h_9 => ?_)
  refine rg (A := ((AV.b !(Op.bytesLess rs[(i_0 - (1 : Int)).toNat]!.sku.toList rs[i_0.toNat]!.sku.toList || rs[(i_0 - (1 : Int)).toNat]!.sku.toList == rs[i_0.toNat]!.sku.toList)) = AV.b (decide ¬(sLt rs[(i_0 - (1 : Int)).toNat]!.sku rs[i_0.toNat]!.sku = true ∨ rs[(i_0 - (1 : Int)).toNat]!.sku = rs[i_0.toNat]!.sku))) ∧ _ ∧ (AV.b true = AV.b (decide (¬(sLt rs[(i_0 - (1 : Int)).toNat]!.sku rs[i_0.toNat]!.sku = true ∨ rs[(i_0 - (1 : Int)).toNat]!.sku = rs[i_0.toNat]!.sku) ∨ rs[(i_0 - (1 : Int)).toNat]!.sku = rs[i_0.toNat]!.sku ∧ (0 : Int) ≤ cmpP rs[(i_0 - (1 : Int)).toNat]!.past rs[i_0.toNat]!.past)))) cx [(4, { tell := some (.b (decide ¬(sLt rs[(i_0 - (1 : Int)).toNat]!.sku rs[i_0.toNat]!.sku = true ∨ rs[(i_0 - (1 : Int)).toNat]!.sku = rs[i_0.toNat]!.sku))) }), (5, { tell := some (.b (true)) }), (19, { tell := some (.b (decide (¬(sLt rs[(i_0 - (1 : Int)).toNat]!.sku rs[i_0.toNat]!.sku = true ∨ rs[(i_0 - (1 : Int)).toNat]!.sku = rs[i_0.toNat]!.sku) ∨ rs[(i_0 - (1 : Int)).toNat]!.sku = rs[i_0.toNat]!.sku ∧ (0 : Int) ≤ cmpP rs[(i_0 - (1 : Int)).toNat]!.past rs[i_0.toNat]!.past))) })] [0, 3, 48] [] ⟨(told_sgt), (told_true h_9), (by simp only [eq_false h_9, told_simp1, told_simp2, and_true, true_and, and_false, false_and, or_true, true_or, or_false, false_or, not_true_eq_false, not_false_eq_true, decide_true, decide_false, Bool.decide_eq_true])⟩ ?_
  exact ⟨rfl, by kernel_rfl⟩
  refine st_split (rs[(i_0 - (1 : Int)).toNat]!.sku = rs[i_0.toNat]!.sku) (fun h_10 => ?_) (fun h_10 => ?_)
  refine rg (A := ((AV.b !(Op.bytesLess rs[(i_0 - (1 : Int)).toNat]!.sku.toList rs[i_0.toNat]!.sku.toList || rs[(i_0 - (1 : Int)).toNat]!.sku.toList == rs[i_0.toNat]!.sku.toList)) = AV.b (decide ¬(sLt rs[(i_0 - (1 : Int)).toNat]!.sku rs[i_0.toNat]!.sku = true ∨ rs[(i_0 - (1 : Int)).toNat]!.sku = rs[i_0.toNat]!.sku))) ∧ _ ∧ (AV.b (rs[(i_0 - (1 : Int)).toNat]!.sku.toList == rs[i_0.toNat]!.sku.toList) = AV.b true) ∧ _ ∧ (AV.b (decide (cmpP rs[(i_0 - (1 : Int)).toNat]!.past rs[i_0.toNat]!.past ≥ (0 : Int))) = AV.b (decide ((0 : Int) ≤ cmpP rs[(i_0 - (1 : Int)).toNat]!.past rs[i_0.toNat]!.past))) ∧ (AV.b (decide ((0 : Int) ≤ cmpP rs[(i_0 - (1 : Int)).toNat]!.past rs[i_0.toNat]!.past)) = AV.b (decide (¬(sLt rs[(i_0 - (1 : Int)).toNat]!.sku rs[i_0.toNat]!.sku = true ∨ rs[(i_0 - (1 : Int)).toNat]!.sku = rs[i_0.toNat]!.sku) ∨ rs[(i_0 - (1 : Int)).toNat]!.sku = rs[i_0.toNat]!.sku ∧ (0 : Int) ≤ cmpP rs[(i_0 - (1 : Int)).toNat]!.past rs[i_0.toNat]!.past)))) cx [(4, { tell := some (.b (decide ¬(sLt rs[(i_0 - (1 : Int)).toNat]!.sku rs[i_0.toNat]!.sku = true ∨ rs[(i_0 - (1 : Int)).toNat]!.sku = rs[i_0.toNat]!.sku))) }), (5, { tell := some (.b (false)) }), (10, { tell := some (.b (true)) }), (16, { val := some (.i .i64 (cmpP rs[(i_0 - (1 : Int)).toNat]!.past rs[i_0.toNat]!.past)) }), (17, { tell := some (.b (decide ((0 : Int) ≤ cmpP rs[(i_0 - (1 : Int)).toNat]!.past rs[i_0.toNat]!.past))) }), (19, { tell := some (.b (decide (¬(sLt rs[(i_0 - (1 : Int)).toNat]!.sku rs[i_0.toNat]!.sku = true ∨ rs[(i_0 - (1 : Int)).toNat]!.sku = rs[i_0.toNat]!.sku) ∨ rs[(i_0 - (1 : Int)).toNat]!.sku = rs[i_0.toNat]!.sku ∧ (0 : Int) ≤ cmpP rs[(i_0 - (1 : Int)).toNat]!.past rs[i_0.toNat]!.past))) })] [0, 3, 48] [] ⟨(told_sgt), (told_false h_9), (told_seqt h_10), (con56 (rs[(i_0 - (1 : Int)).toNat]!.past) (rs[i_0.toNat]!.past) ?g3 ?g4), (by kernel_rfl), (by first | (simp only [eq_false h_9, eq_true h_10, told_simp1, told_simp2, and_true, true_and, and_false, false_and, or_true, true_or, or_false, false_or, not_true_eq_false, not_false_eq_true, decide_true, decide_false, Bool.decide_eq_true]; done) | simp_all)⟩ ?_; rotate_left 2
  exact ⟨rfl, by kernel_rfl⟩
  refine rg (A := ((AV.b !(Op.bytesLess rs[(i_0 - (1 : Int)).toNat]!.sku.toList rs[i_0.toNat]!.sku.toList || rs[(i_0 - (1 : Int)).toNat]!.sku.toList == rs[i_0.toNat]!.sku.toList)) = AV.b (decide ¬(sLt rs[(i_0 - (1 : Int)).toNat]!.sku rs[i_0.toNat]!.sku = true ∨ rs[(i_0 - (1 : Int)).toNat]!.sku = rs[i_0.toNat]!.sku))) ∧ _ ∧ (AV.b (rs[(i_0 - (1 : Int)).toNat]!.sku.toList == rs[i_0.toNat]!.sku.toList) = AV.b false) ∧ (AV.b false = AV.b (decide (¬(sLt rs[(i_0 - (1 : Int)).toNat]!.sku rs[i_0.toNat]!.sku = true ∨ rs[(i_0 - (1 : Int)).toNat]!.sku = rs[i_0.toNat]!.sku) ∨ rs[(i_0 - (1 : Int)).toNat]!.sku = rs[i_0.toNat]!.sku ∧ (0 : Int) ≤ cmpP rs[(i_0 - (1 : Int)).toNat]!.past rs[i_0.toNat]!.past)))) cx [(4, { tell := some (.b (decide ¬(sLt rs[(i_0 - (1 : Int)).toNat]!.sku rs[i_0.toNat]!.sku = true ∨ rs[(i_0 - (1 : Int)).toNat]!.sku = rs[i_0.toNat]!.sku))) }), (5, { tell := some (.b (false)) }), (10, { tell := some (.b (false)) }), (19, { tell := some (.b (decide (¬(sLt rs[(i_0 - (1 : Int)).toNat]!.sku rs[i_0.toNat]!.sku = true ∨ rs[(i_0 - (1 : Int)).toNat]!.sku = rs[i_0.toNat]!.sku) ∨ rs[(i_0 - (1 : Int)).toNat]!.sku = rs[i_0.toNat]!.sku ∧ (0 : Int) ≤ cmpP rs[(i_0 - (1 : Int)).toNat]!.past rs[i_0.toNat]!.past))) })] [0, 3, 48] [] ⟨(told_sgt), (told_false h_9), (told_seqf h_10), (by first | (simp only [eq_false h_9, eq_false h_10, told_simp1, told_simp2, and_true, true_and, and_false, false_and, or_true, true_or, or_false, false_or, not_true_eq_false, not_false_eq_true, decide_true, decide_false, Bool.decide_eq_true]; done) | simp_all)⟩ ?_
  exact ⟨rfl, by kernel_rfl⟩
  refine sn ?_
  refine st_dec (¬(sLt rs[(i_0 - (1 : Int)).toNat]!.sku rs[i_0.toNat]!.sku = true ∨ rs[(i_0 - (1 : Int)).toNat]!.sku = rs[i_0.toNat]!.sku) ∨ rs[(i_0 - (1 : Int)).toNat]!.sku = rs[i_0.toNat]!.sku ∧ (0 : Int) ≤ cmpP rs[(i_0 - (1 : Int)).toNat]!.past rs[i_0.toNat]!.past) (by kernel_rfl) (by kernel_rfl) (fun h_11 => ?_) (fun h_11 => ?_)
  refine sq ?_
  refine rg (A := True) cx [] [2] [] trivial ?_
  refine sn ?_
  refine st_ret (by kernel_rfl) ?_
  refine q_blk_ret ?_
  refine q_seq_ret ?_
  refine q_seq_ret ?_
  refine q_blk_ret ?_
  refine q_seq_ret ?_
  refine q_ret (r := .b (false)) (obl := []) (by kernel_rfl) trivial (AVle.eq (show AV.b false = AV.b (decide (recE rs = (0 : Int))) from ?g5)); rotate_left 1
  refine st_skip (by kernel_rfl) ?_
  refine q_blk_normal ?_
  refine sn ?_
  refine rg (A := (AV.i IntKind.i64 (IntKind.i64.wrap (i_0 + (1 : Int))) = AV.i IntKind.i64 (i_0 + (1 : Int)))) cx [(1, { tell := some (.i .i64 (i_0 + (1 : Int))) })] [0, 3] [] (told_i64 (by omega) (by omega)) ?_
  refine sn ?_
  refine loop_next (i_0 + (1 : Int)) (by kernel_rfl) (show ((↑rs.length : Int) - (i_0 + (1 : Int))).toNat < ((↑rs.length : Int) - i_0).toNat from (by omega)) (show invKc rs (i_0 + (1 : Int)) from ?g6); rotate_left 1
  refine st_skip (by kernel_rfl) ?_
  refine q_blk_normal ?_
  refine sn ?_
  refine rg (A := (AV.i IntKind.i64 (IntKind.i64.wrap (i_0 + (1 : Int))) = AV.i IntKind.i64 (i_0 + (1 : Int)))) cx [(1, { tell := some (.i .i64 (i_0 + (1 : Int))) })] [0, 3] [] (told_i64 (by omega) (by omega)) ?_
  refine sn ?_
  refine loop_next (i_0 + (1 : Int)) (by kernel_rfl) (show ((↑rs.length : Int) - (i_0 + (1 : Int))).toNat < ((↑rs.length : Int) - i_0).toNat from (by omega)) (show invKc rs (i_0 + (1 : Int)) from ?g7); rotate_left 1
  refine st_exit 0 (by kernel_rfl) ?_
  refine q_seq_exit ?_
  refine q_seq_exit ?_
  refine q_blk_hit ?_
  refine sn ?_
  refine sq ?_
  refine rg (A := True) cx [] [2] [] trivial ?_
  refine sn ?_
  refine st_ret (by kernel_rfl) ?_
  refine q_ret (r := .b (true)) (obl := []) (by kernel_rfl) trivial (AVle.eq (show AV.b true = AV.b (decide (recE rs = (0 : Int))) from ?g8)); rotate_left 1
  rotate_left
  revert i_0 h_2 h_3 h_4 h_5; rotate_left
  revert i_0 h_2 h_3 h_4 h_5 h_6; rotate_left
  revert i_0 h_2 h_3 h_4 h_5 h_6 h_7 h_9 h_10; rotate_left
  revert i_0 h_2 h_3 h_4 h_5 h_6 h_7 h_9 h_10; rotate_left
  revert i_0 h_2 h_3 h_4 h_5 h_6 h_7 h_11; rotate_left
  revert i_0 h_2 h_3 h_4 h_5 h_6 h_7 h_11; rotate_left
  revert i_0 h_2 h_3 h_4 h_5 h_6 h_7; rotate_left
  revert i_0 h_2 h_3 h_4 h_5; rotate_left
  case g0 => exact ⟨by omega, by omega, fun j hj => by omega⟩
  case g1 => intro i h0 h1 h2 h3; exact szQ_at hb h0 h3
  case g2 =>
    intro i h0 h1 h2 h3 h4
    rw [recE_bad (i := i.toNat) (by omega)]
    · rfl
    · rw [okRs_iff]
      exact fun c => h4 c.1
  case g3 => intro i h0 h1 h2 h3 h4 h5 h6 h7; exact (szQ_at' hb h5 h3).1
  case g4 => intro i h0 h1 h2 h3 h4 h5 h6 h7; exact (szQ_at hb h0 h3).1
  case g5 =>
    intro i h0 h1 h2 h3 h4 h5 h6
    rw [recE_bad (i := i.toNat) (by omega)]
    · rfl
    · rw [L, e h0] at h6
      rw [okRs_iff]
      rintro ⟨a, b⟩
      rcases b with b | b
      · omega
      · exact h6 b
  case g6 =>
    intro i h0 h1 h2 h3 h4 h5 h6
    rw [L, e h0] at h6
    exact invKc_step h0 h3 h2 ((okRs_iff _ _).2 ⟨Classical.not_not.1 h4, .inr (Classical.not_not.1 h6)⟩)
  case g7 =>
    intro i h0 h1 h2 h3 h4 h5
    exact invKc_step h0 h3 h2 ((okRs_iff _ _).2 ⟨Classical.not_not.1 h4, .inl (by omega)⟩)
  case g8 => intro i h0 h1 h2 h3; rw [recE_ok fun j hj => h2 j (by omega)]; rfl
theorem con22 (f : Facts) (hb : szF f) : Con Try.prog 22 [.agg (c38 f)] (.b (okF f)) :=
  by
  refine st_con tab_ok (by kernel_rfl) [.tmp 2] 16 Go.Proofs.Try.func22 (by kernel_rfl) (by kernel_rfl) ?_
  intro e0 cx
  refine sq ?_
  refine rg (A := True) cx [] [1] [1] trivial ?_
  refine sn ?_
  refine sq ?_
  refine st_join (σ' := ⟨[(2, .b (decide (lstE f.adds = (0 : Int) ∧ f.gone = normP f.gone ∧ recE f.recs = (0 : Int))))], []⟩) ?_ ?_
  refine st_split (lstE f.adds = (0 : Int)) (fun h_1 => ?_) (fun h_1 => ?_)
  refine st_split (f.gone = normP f.gone) (fun h_2 => ?_) (fun h_2 => ?_)
  refine rg (A := _ ∧ _ ∧ _ ∧ _ ∧ _ ∧ (AV.b (decide (recE f.recs = (0 : Int))) = AV.b (decide (lstE f.adds = (0 : Int) ∧ f.gone = normP f.gone ∧ recE f.recs = (0 : Int))))) cx [(2, { val := some (.b (decide (lstE f.adds = (0 : Int)))), tell := some (.b (true)) }), (6, { val := some (.b (decide (f.gone = normP f.gone))), tell := some (.b (true)) }), (11, { val := some (.b (decide (recE f.recs = (0 : Int)))) }), (13, { tell := some (.b (decide (lstE f.adds = (0 : Int) ∧ f.gone = normP f.gone ∧ recE f.recs = (0 : Int)))) })] [2] [] ⟨(told_true h_1), (con37 (f.adds)), (told_true h_2), (con16 (f.gone) ?g0 ?g1), (con38 (f.recs) ?g2), (by simp only [eq_true h_1, eq_true h_2, told_simp1, told_simp2, and_true, true_and, and_false, false_and, or_true, true_or, or_false, false_or, not_true_eq_false, not_false_eq_true, decide_true, decide_false, Bool.decide_eq_true])⟩ ?_; rotate_left 3
  exact ⟨rfl, by kernel_rfl⟩
  refine rg (A := _ ∧ _ ∧ _ ∧ _ ∧ (AV.b false = AV.b (decide (lstE f.adds = (0 : Int) ∧ f.gone = normP f.gone ∧ recE f.recs = (0 : Int))))) cx [(2, { val := some (.b (decide (lstE f.adds = (0 : Int)))), tell := some (.b (true)) }), (6, { val := some (.b (decide (f.gone = normP f.gone))), tell := some (.b (false)) }), (13, { tell := some (.b (decide (lstE f.adds = (0 : Int) ∧ f.gone = normP f.gone ∧ recE f.recs = (0 : Int)))) })] [2] [] ⟨(told_true h_1), (con37 (f.adds)), (told_false h_2), (con16 (f.gone) ?g3 ?g4), (by simp only [eq_true h_1, eq_false h_2, told_simp1, told_simp2, and_true, true_and, and_false, false_and, or_true, true_or, or_false, false_or, not_true_eq_false, not_false_eq_true, decide_true, decide_false, Bool.decide_eq_true])⟩ ?_; rotate_left 2
  exact ⟨rfl, by kernel_rfl⟩
  refine rg (A := _ ∧ _ ∧ (AV.b false = AV.b (decide (lstE f.adds = (0 : Int) ∧ f.gone = normP f.gone ∧ recE f.recs = (0 : Int))))) cx [(2, { val := some (.b (decide (lstE f.adds = (0 : Int)))), tell := some (.b (false)) }), (13, { tell := some (.b (decide (lstE f.adds = (0 : Int) ∧ f.gone = normP f.gone ∧ recE f.recs = (0 : Int)))) })] [2] [] ⟨(told_false h_1), (con37 (f.adds)), (by simp only [eq_false h_1, told_simp1, told_simp2, and_true, true_and, and_false, false_and, or_true, true_or, or_false, false_or, not_true_eq_false, not_false_eq_true, decide_true, decide_false, Bool.decide_eq_true])⟩ ?_
  exact ⟨rfl, by kernel_rfl⟩
  refine sn ?_
  refine st_ret (by kernel_rfl) ?_
  refine q_ret (r := .b (decide (lstE f.adds = (0 : Int) ∧ f.gone = normP f.gone ∧ recE f.recs = (0 : Int)))) (obl := []) (by kernel_rfl) trivial (AVle.eq (show AV.b (decide (lstE f.adds = (0 : Int) ∧ f.gone = normP f.gone ∧ recE f.recs = (0 : Int))) = AV.b (okF f) from ?g5)); rotate_left 1
  revert h_1 h_2; rotate_left
  revert h_1 h_2; rotate_left
  revert h_1 h_2; rotate_left
  revert h_1 h_2; rotate_left
  revert h_1 h_2; rotate_left
  rotate_left
  case g2 => intros; exact hb.2
  case g5 => rfl
  all_goals (intros; first | exact hb.1.1 | exact hb.1.2)
theorem con19 (f : Facts) (hb : szF f) : Con Try.prog 19 [.agg (c38 f)] (.b (okF f)) :=
  by
  refine st_con tab_ok (by kernel_rfl) [.tmp 2] 18 Go.Proofs.Try.func19 (by kernel_rfl) (by kernel_rfl) ?_
  intro e0 cx
  refine sq ?_
  refine rg (A := True) cx [] [1] [1] trivial ?_
  refine sn ?_
  refine sq ?_
  refine st_join (σ' := ⟨[(2, .b (decide (lstE f.adds = (0 : Int) ∧ f.gone = normP f.gone ∧ recE f.recs = (0 : Int))))], []⟩) ?_ ?_
  refine st_split (lstE f.adds = (0 : Int)) (fun h_1 => ?_) (fun h_1 => ?_)
  refine st_split (f.gone = normP f.gone) (fun h_2 => ?_) (fun h_2 => ?_)
  refine rg (A := _ ∧ _ ∧ _ ∧ _ ∧ _ ∧ (AV.b (recE f.recs == (0 : Int)) = AV.b (decide (recE f.recs = (0 : Int)))) ∧ (AV.b (decide (recE f.recs = (0 : Int))) = AV.b (decide (lstE f.adds = (0 : Int) ∧ f.gone = normP f.gone ∧ recE f.recs = (0 : Int))))) cx [(2, { val := some (.i .i64 (lstE f.adds)) }), (3, { tell := some (.b (true)) }), (7, { val := some (.b (decide (f.gone = normP f.gone))), tell := some (.b (true)) }), (12, { val := some (.i .i64 (recE f.recs)) }), (13, { tell := some (.b (decide (recE f.recs = (0 : Int)))) }), (15, { tell := some (.b (decide (lstE f.adds = (0 : Int) ∧ f.gone = normP f.gone ∧ recE f.recs = (0 : Int)))) })] [2] [] ⟨(con32 (f.adds)), (told_true h_1), (told_true h_2), (con13 (f.gone) ?g0), (con33 (f.recs) ?g1), (by kernel_rfl), (by simp only [eq_true h_1, eq_true h_2, told_simp1, told_simp2, and_true, true_and, and_false, false_and, or_true, true_or, or_false, false_or, not_true_eq_false, not_false_eq_true, decide_true, decide_false, Bool.decide_eq_true])⟩ ?_; rotate_left 2
  exact ⟨rfl, by kernel_rfl⟩
  refine rg (A := _ ∧ _ ∧ _ ∧ _ ∧ (AV.b false = AV.b (decide (lstE f.adds = (0 : Int) ∧ f.gone = normP f.gone ∧ recE f.recs = (0 : Int))))) cx [(2, { val := some (.i .i64 (lstE f.adds)) }), (3, { tell := some (.b (true)) }), (7, { val := some (.b (decide (f.gone = normP f.gone))), tell := some (.b (false)) }), (15, { tell := some (.b (decide (lstE f.adds = (0 : Int) ∧ f.gone = normP f.gone ∧ recE f.recs = (0 : Int)))) })] [2] [] ⟨(con32 (f.adds)), (told_true h_1), (told_false h_2), (con13 (f.gone) ?g2), (by simp only [eq_true h_1, eq_false h_2, told_simp1, told_simp2, and_true, true_and, and_false, false_and, or_true, true_or, or_false, false_or, not_true_eq_false, not_false_eq_true, decide_true, decide_false, Bool.decide_eq_true])⟩ ?_; rotate_left 1
  exact ⟨rfl, by kernel_rfl⟩
  refine rg (A := _ ∧ _ ∧ (AV.b false = AV.b (decide (lstE f.adds = (0 : Int) ∧ f.gone = normP f.gone ∧ recE f.recs = (0 : Int))))) cx [(2, { val := some (.i .i64 (lstE f.adds)) }), (3, { tell := some (.b (false)) }), (15, { tell := some (.b (decide (lstE f.adds = (0 : Int) ∧ f.gone = normP f.gone ∧ recE f.recs = (0 : Int)))) })] [2] [] ⟨(con32 (f.adds)), (told_false h_1), (by simp only [eq_false h_1, told_simp1, told_simp2, and_true, true_and, and_false, false_and, or_true, true_or, or_false, false_or, not_true_eq_false, not_false_eq_true, decide_true, decide_false, Bool.decide_eq_true])⟩ ?_
  exact ⟨rfl, by kernel_rfl⟩
  refine sn ?_
  refine st_ret (by kernel_rfl) ?_
  refine q_ret (r := .b (decide (lstE f.adds = (0 : Int) ∧ f.gone = normP f.gone ∧ recE f.recs = (0 : Int)))) (obl := []) (by kernel_rfl) trivial (AVle.eq (show AV.b (decide (lstE f.adds = (0 : Int) ∧ f.gone = normP f.gone ∧ recE f.recs = (0 : Int))) = AV.b (okF f) from ?g3)); rotate_left 1
  revert h_1 h_2; rotate_left
  revert h_1 h_2; rotate_left
  revert h_1 h_2; rotate_left
  rotate_left
  case g0 => intros; exact hb.1.1
  case g1 => intros; exact szQ_s hb.2
  case g2 => intros; exact hb.1.1
  case g3 => rfl
end Go.Proofs.Ytaiepnaokhpmcaa
namespace Go.Proofs.Ytaiepnaokhpmcaa
open Go.E
set_option maxRecDepth 100000
set_option maxHeartbeats 4000000
def actE (a : Actn) : Int := if a.kind < 1 ∨ 6 < a.kind then 7 else if (a.kind = 4 ∨ a.kind = 6) ∧ ¬ a.past = normP a.past then 1 else if a.kind ≤ 4 ∧ good a.sku = false then 5 else if a.kind ≤ 2 ∧ (a.qty < 1 ∨ 1000000 < a.qty) then 6 else 0
def nxtV (p : Past) (rep count : Int) : Dot × Int := if ¬ p = normP p then (default, 1) else nextP p rep count
def empF (f : Facts) : Bool := decide (f.adds.length = 0 ∧ f.recs.length = 0 ∧ sizeP f.gone = 0)
def evE (f : Facts) : Int := if okF f = false then 1 else if f.adds.length = 1 ∧ f.recs.length = 0 then (if lastP f.gone f.adds[0]!.dot.rep < f.adds[0]!.dot.num then 0 else 2)
  else if f.adds.length = 0 ∧ f.recs.length = 0 then 0 else if f.adds.length = 0 ∧ f.recs.length = 1 ∧ sizeP f.gone = 0 then 0 else 2
theorem no_true {b : Bool} (h : ¬ b = true) : b = false := by cases b <;> simp_all
theorem yes_true {b : Bool} (h : ¬ ¬ b = true) : ¬ b = false := by cases b <;> simp_all
theorem head_get {es : List Entry} (h : (es.length : Int) = 1) : (es.map c40)[Int.toNat 0]? = some (c40 es[0]!) := by
  cases es with
  | nil => simp at h
  | cons e es => rfl
theorem con6 (a : Actn) (hb : szP a.past) : Con Try.prog 6 [.agg (c27 a)] (.i .i64 (actE a)) :=
  by
  refine st_con tab_ok (by kernel_rfl) [.tmp 2] 69 Go.Proofs.Try.func6 (by kernel_rfl) (by kernel_rfl) ?_
  intro e0 cx
  refine sq ?_
  refine rg (A := True) cx [] [1] [1] trivial ?_
  refine sn ?_
  refine sq ?_
  refine sq ?_
  refine st_join (σ' := ⟨[(1, .ptr (1) (0) (0) (0)), (13, .b (decide (a.kind < (1 : Int) ∨ (6 : Int) < a.kind)))], [(1, ⟨0, 27, .var [.i .i64 (a.kind), .s (a.sku), .i .i64 (a.qty), .sl (List.map c3 a.past.vec), .sl (List.map c50 a.past.cloud)]⟩)]⟩) ?_ ?_
  refine st_split (a.kind < (1 : Int)) (fun h_1 => ?_) (fun h_1 => ?_)
  refine rg (A := _ ∧ (AV.b true = AV.b (decide (a.kind < (1 : Int) ∨ (6 : Int) < a.kind)))) cx [(2, { tell := some (.b (true)) }), (7, { tell := some (.b (decide (a.kind < (1 : Int) ∨ (6 : Int) < a.kind))) })] [1, 13] [1] ⟨(told_true h_1), (by simp only [eq_true h_1, told_simp1, told_simp2, and_true, true_and, and_false, false_and, or_true, true_or, or_false, false_or, not_true_eq_false, not_false_eq_true, decide_true, decide_false, Bool.decide_eq_true])⟩ ?_
  exact ⟨rfl, by kernel_rfl⟩
  refine rg (A := _ ∧ (AV.b (decide (a.kind > (6 : Int))) = AV.b (decide ((6 : Int) < a.kind))) ∧ (AV.b (decide ((6 : Int) < a.kind)) = AV.b (decide (a.kind < (1 : Int) ∨ (6 : Int) < a.kind)))) cx [(2, { tell := some (.b (false)) }), (6, { tell := some (.b (decide ((6 : Int) < a.kind))) }), (7, { tell := some (.b (decide (a.kind < (1 : Int) ∨ (6 : Int) < a.kind))) })] [1, 13] [1] ⟨(told_false h_1), (by kernel_rfl), (by simp only [eq_false h_1, told_simp1, told_simp2, and_true, true_and, and_false, false_and, or_true, true_or, or_false, false_or, not_true_eq_false, not_false_eq_true, decide_true, decide_false, Bool.decide_eq_true])⟩ ?_
  exact ⟨rfl, by kernel_rfl⟩
  refine sn ?_
  refine st_dec (a.kind < (1 : Int) ∨ (6 : Int) < a.kind) (by kernel_rfl) (by kernel_rfl) (fun h_2 => ?_) (fun h_2 => ?_)
  refine sq ?_
  refine rg (A := True) cx [] [2] [] trivial ?_
  refine sn ?_
  refine st_ret (by kernel_rfl) ?_
  refine q_seq_ret ?_
  refine q_ret (r := .i .i64 ((7 : Int))) (obl := []) (by kernel_rfl) trivial (AVle.eq (show AV.i IntKind.i64 (7 : Int) = AV.i IntKind.i64 (actE a) from ?g0)); rotate_left 1
  refine st_skip (by kernel_rfl) ?_
  refine sn ?_
  refine sq ?_
  refine st_join (σ' := ⟨[(1, .ptr (1) (0) (0) (0)), (3, .b (decide (a.kind = (4 : Int) ∨ a.kind = (6 : Int))))], [(1, ⟨0, 27, .var [.i .i64 (a.kind), .s (a.sku), .i .i64 (a.qty), .sl (List.map c3 a.past.vec), .sl (List.map c50 a.past.cloud)]⟩)]⟩) ?_ ?_
  refine st_split (a.kind = (4 : Int)) (fun h_4 => ?_) (fun h_4 => ?_)
  refine rg (A := _ ∧ (AV.b true = AV.b (decide (a.kind = (4 : Int) ∨ a.kind = (6 : Int))))) cx [(2, { tell := some (.b (true)) }), (8, { tell := some (.b (decide (a.kind = (4 : Int) ∨ a.kind = (6 : Int)))) })] [1, 3] [1] ⟨(told_true h_4), (by simp only [eq_true h_4, told_simp1, told_simp2, and_true, true_and, and_false, false_and, or_true, true_or, or_false, false_or, not_true_eq_false, not_false_eq_true, decide_true, decide_false, Bool.decide_eq_true])⟩ ?_
  exact ⟨rfl, by kernel_rfl⟩
  refine rg (A := _ ∧ (AV.b (a.kind == (6 : Int)) = AV.b (decide (a.kind = (6 : Int)))) ∧ (AV.b (decide (a.kind = (6 : Int))) = AV.b (decide (a.kind = (4 : Int) ∨ a.kind = (6 : Int))))) cx [(2, { tell := some (.b (false)) }), (6, { tell := some (.b (decide (a.kind = (6 : Int)))) }), (8, { tell := some (.b (decide (a.kind = (4 : Int) ∨ a.kind = (6 : Int)))) })] [1, 3] [1] ⟨(told_false h_4), (by kernel_rfl), (by simp only [eq_false h_4, told_simp1, told_simp2, and_true, true_and, and_false, false_and, or_true, true_or, or_false, false_or, not_true_eq_false, not_false_eq_true, decide_true, decide_false, Bool.decide_eq_true])⟩ ?_
  exact ⟨rfl, by kernel_rfl⟩
  refine sn ?_
  refine sq ?_
  refine st_join (σ' := ⟨[(1, .ptr (1) (0) (0) (0)), (3, .b (decide (a.kind = (4 : Int) ∨ a.kind = (6 : Int)))), (4, .b (decide (a.kind = (1 : Int) ∨ a.kind = (2 : Int))))], [(1, ⟨0, 27, .var [.i .i64 (a.kind), .s (a.sku), .i .i64 (a.qty), .sl (List.map c3 a.past.vec), .sl (List.map c50 a.past.cloud)]⟩)]⟩) ?_ ?_
  refine st_split (a.kind = (1 : Int)) (fun h_6 => ?_) (fun h_6 => ?_)
  refine rg (A := _ ∧ (AV.b true = AV.b (decide (a.kind = (1 : Int) ∨ a.kind = (2 : Int))))) cx [(2, { tell := some (.b (true)) }), (8, { tell := some (.b (decide (a.kind = (1 : Int) ∨ a.kind = (2 : Int)))) })] [1, 3, 4] [1] ⟨(told_true h_6), (by simp only [eq_true h_6, told_simp1, told_simp2, and_true, true_and, and_false, false_and, or_true, true_or, or_false, false_or, not_true_eq_false, not_false_eq_true, decide_true, decide_false, Bool.decide_eq_true])⟩ ?_
  exact ⟨rfl, by kernel_rfl⟩
  refine rg (A := _ ∧ (AV.b (a.kind == (2 : Int)) = AV.b (decide (a.kind = (2 : Int)))) ∧ (AV.b (decide (a.kind = (2 : Int))) = AV.b (decide (a.kind = (1 : Int) ∨ a.kind = (2 : Int))))) cx [(2, { tell := some (.b (false)) }), (6, { tell := some (.b (decide (a.kind = (2 : Int)))) }), (8, { tell := some (.b (decide (a.kind = (1 : Int) ∨ a.kind = (2 : Int)))) })] [1, 3, 4] [1] ⟨(told_false h_6), (by kernel_rfl), (by simp only [eq_false h_6, told_simp1, told_simp2, and_true, true_and, and_false, false_and, or_true, true_or, or_false, false_or, not_true_eq_false, not_false_eq_true, decide_true, decide_false, Bool.decide_eq_true])⟩ ?_
  exact ⟨rfl, by kernel_rfl⟩
  refine sn ?_
  refine sq ?_
  refine st_join (σ' := ⟨[(1, .ptr (1) (0) (0) (0)), (3, .b (decide (a.kind = (4 : Int) ∨ a.kind = (6 : Int)))), (4, .b (decide (a.kind = (1 : Int) ∨ a.kind = (2 : Int)))), (5, .b (decide ((a.kind = (1 : Int) ∨ a.kind = (2 : Int)) ∨ a.kind = (3 : Int) ∨ a.kind = (4 : Int))))], [(1, ⟨0, 27, .var [.i .i64 (a.kind), .s (a.sku), .i .i64 (a.qty), .sl (List.map c3 a.past.vec), .sl (List.map c50 a.past.cloud)]⟩)]⟩) ?_ ?_
  refine st_split (a.kind = (1 : Int) ∨ a.kind = (2 : Int)) (fun h_8 => ?_) (fun h_8 => ?_)
  refine rg (A := _ ∧ (AV.b true = AV.b (decide ((a.kind = (1 : Int) ∨ a.kind = (2 : Int)) ∨ a.kind = (3 : Int) ∨ a.kind = (4 : Int))))) cx [(0, { tell := some (.b (true)) }), (11, { tell := some (.b (decide ((a.kind = (1 : Int) ∨ a.kind = (2 : Int)) ∨ a.kind = (3 : Int) ∨ a.kind = (4 : Int)))) })] [1, 3, 4, 5] [1] ⟨(told_true h_8), (by simp only [eq_true h_8, told_simp1, told_simp2, and_true, true_and, and_false, false_and, or_true, true_or, or_false, false_or, not_true_eq_false, not_false_eq_true, decide_true, decide_false, Bool.decide_eq_true])⟩ ?_
  exact ⟨rfl, by kernel_rfl⟩
  refine st_split (a.kind = (3 : Int)) (fun h_9 => ?_) (fun h_9 => ?_)
  refine rg (A := _ ∧ _ ∧ (AV.b true = AV.b (decide ((a.kind = (1 : Int) ∨ a.kind = (2 : Int)) ∨ a.kind = (3 : Int) ∨ a.kind = (4 : Int))))) cx [(0, { tell := some (.b (false)) }), (4, { tell := some (.b (true)) }), (11, { tell := some (.b (decide ((a.kind = (1 : Int) ∨ a.kind = (2 : Int)) ∨ a.kind = (3 : Int) ∨ a.kind = (4 : Int)))) })] [1, 3, 4, 5] [1] ⟨(told_false h_8), (told_true h_9), (by simp only [eq_false h_8, eq_true h_9, told_simp1, told_simp2, and_true, true_and, and_false, false_and, or_true, true_or, or_false, false_or, not_true_eq_false, not_false_eq_true, decide_true, decide_false, Bool.decide_eq_true])⟩ ?_
  exact ⟨rfl, by kernel_rfl⟩
  refine rg (A := _ ∧ _ ∧ (AV.b (a.kind == (4 : Int)) = AV.b (decide (a.kind = (4 : Int)))) ∧ (AV.b (decide (a.kind = (4 : Int))) = AV.b (decide ((a.kind = (1 : Int) ∨ a.kind = (2 : Int)) ∨ a.kind = (3 : Int) ∨ a.kind = (4 : Int))))) cx [(0, { tell := some (.b (false)) }), (4, { tell := some (.b (false)) }), (9, { tell := some (.b (decide (a.kind = (4 : Int)))) }), (11, { tell := some (.b (decide ((a.kind = (1 : Int) ∨ a.kind = (2 : Int)) ∨ a.kind = (3 : Int) ∨ a.kind = (4 : Int)))) })] [1, 3, 4, 5] [1] ⟨(told_false h_8), (told_false h_9), (by kernel_rfl), (by simp only [eq_false h_8, eq_false h_9, told_simp1, told_simp2, and_true, true_and, and_false, false_and, or_true, true_or, or_false, false_or, not_true_eq_false, not_false_eq_true, decide_true, decide_false, Bool.decide_eq_true])⟩ ?_
  exact ⟨rfl, by kernel_rfl⟩
  refine sn ?_
  refine sq ?_
  refine st_block 0 (by kernel_rfl) ?_
  refine sq ?_
  refine st_join (σ' := ⟨[(1, .ptr (1) (0) (0) (0)), (4, .b (decide (a.kind = (1 : Int) ∨ a.kind = (2 : Int)))), (5, .b (decide ((a.kind = (1 : Int) ∨ a.kind = (2 : Int)) ∨ a.kind = (3 : Int) ∨ a.kind = (4 : Int)))), (41, .b (decide ((a.kind = (4 : Int) ∨ a.kind = (6 : Int)) ∧ ¬a.past = normP a.past)))], [(1, ⟨0, 27, .var [.i .i64 (a.kind), .s (a.sku), .i .i64 (a.qty), .sl (List.map c3 a.past.vec), .sl (List.map c50 a.past.cloud)]⟩)]⟩) ?_ ?_
  refine st_split (a.kind = (4 : Int) ∨ a.kind = (6 : Int)) (fun h_11 => ?_) (fun h_11 => ?_)
  refine rg (A := _ ∧ _ ∧ ((AV.b !decide (a.past = normP a.past)) = AV.b (decide ¬a.past = normP a.past)) ∧ (AV.b (decide ¬a.past = normP a.past) = AV.b (decide ((a.kind = (4 : Int) ∨ a.kind = (6 : Int)) ∧ ¬a.past = normP a.past)))) cx [(0, { tell := some (.b (true)) }), (4, { val := some (.b (decide (a.past = normP a.past))) }), (5, { tell := some (.b (decide ¬a.past = normP a.past)) }), (7, { tell := some (.b (decide ((a.kind = (4 : Int) ∨ a.kind = (6 : Int)) ∧ ¬a.past = normP a.past))) })] [1, 4, 5, 41] [1] ⟨(told_true h_11), (con13 (a.past) ?g1), (told_notd), (by simp only [eq_true h_11, told_simp1, told_simp2, and_true, true_and, and_false, false_and, or_true, true_or, or_false, false_or, not_true_eq_false, not_false_eq_true, decide_true, decide_false, Bool.decide_eq_true])⟩ ?_; rotate_left 1
  exact ⟨rfl, by kernel_rfl⟩
  refine rg (A := _ ∧ (AV.b false = AV.b (decide ((a.kind = (4 : Int) ∨ a.kind = (6 : Int)) ∧ ¬a.past = normP a.past)))) cx [(0, { tell := some (.b (false)) }), (7, { tell := some (.b (decide ((a.kind = (4 : Int) ∨ a.kind = (6 : Int)) ∧ ¬a.past = normP a.past))) })] [1, 4, 5, 41] [1] ⟨(told_false h_11), (by simp only [eq_false h_11, told_simp1, told_simp2, and_true, true_and, and_false, false_and, or_true, true_or, or_false, false_or, not_true_eq_false, not_false_eq_true, decide_true, decide_false, Bool.decide_eq_true])⟩ ?_
  exact ⟨rfl, by kernel_rfl⟩
  refine sn ?_
  refine st_dec ((a.kind = (4 : Int) ∨ a.kind = (6 : Int)) ∧ ¬a.past = normP a.past) (by kernel_rfl) (by kernel_rfl) (fun h_12 => ?_) (fun h_12 => ?_)
  refine sq ?_
  refine rg (A := True) cx [] [2] [] trivial ?_
  refine sn ?_
  refine st_ret (by kernel_rfl) ?_
  refine q_blk_ret ?_
  refine q_seq_ret ?_
  refine q_ret (r := .i .i64 ((1 : Int))) (obl := []) (by kernel_rfl) trivial (AVle.eq (show AV.i IntKind.i64 (1 : Int) = AV.i IntKind.i64 (actE a) from ?g2)); rotate_left 1
  refine sq ?_
  refine st_join (σ' := ⟨[(1, .ptr (1) (0) (0) (0)), (4, .b (decide (a.kind = (1 : Int) ∨ a.kind = (2 : Int)))), (49, .b (decide (((a.kind = (1 : Int) ∨ a.kind = (2 : Int)) ∨ a.kind = (3 : Int) ∨ a.kind = (4 : Int)) ∧ ¬good a.sku = true)))], [(1, ⟨0, 27, .var [.i .i64 (a.kind), .s (a.sku), .i .i64 (a.qty), .sl (List.map c3 a.past.vec), .sl (List.map c50 a.past.cloud)]⟩)]⟩) ?_ ?_
  refine st_split ((a.kind = (1 : Int) ∨ a.kind = (2 : Int)) ∨ a.kind = (3 : Int) ∨ a.kind = (4 : Int)) (fun h_14 => ?_) (fun h_14 => ?_)
  refine rg (A := _ ∧ _ ∧ ((AV.b !good a.sku) = AV.b (decide ¬good a.sku = true)) ∧ (AV.b (decide ¬good a.sku = true) = AV.b (decide (((a.kind = (1 : Int) ∨ a.kind = (2 : Int)) ∨ a.kind = (3 : Int) ∨ a.kind = (4 : Int)) ∧ ¬good a.sku = true)))) cx [(0, { tell := some (.b (true)) }), (4, { val := some (.b (good a.sku)) }), (5, { tell := some (.b (decide ¬good a.sku = true)) }), (7, { tell := some (.b (decide (((a.kind = (1 : Int) ∨ a.kind = (2 : Int)) ∨ a.kind = (3 : Int) ∨ a.kind = (4 : Int)) ∧ ¬good a.sku = true))) })] [1, 4, 49] [1] ⟨(told_true h_14), (con15 (a.sku)), (told_not), (by simp only [eq_true h_14, told_simp1, told_simp2, and_true, true_and, and_false, false_and, or_true, true_or, or_false, false_or, not_true_eq_false, not_false_eq_true, decide_true, decide_false, Bool.decide_eq_true])⟩ ?_
  exact ⟨rfl, by kernel_rfl⟩
  refine rg (A := _ ∧ (AV.b false = AV.b (decide (((a.kind = (1 : Int) ∨ a.kind = (2 : Int)) ∨ a.kind = (3 : Int) ∨ a.kind = (4 : Int)) ∧ ¬good a.sku = true)))) cx [(0, { tell := some (.b (false)) }), (7, { tell := some (.b (decide (((a.kind = (1 : Int) ∨ a.kind = (2 : Int)) ∨ a.kind = (3 : Int) ∨ a.kind = (4 : Int)) ∧ ¬good a.sku = true))) })] [1, 4, 49] [1] ⟨(told_false h_14), (by simp only [eq_false h_14, told_simp1, told_simp2, and_true, true_and, and_false, false_and, or_true, true_or, or_false, false_or, not_true_eq_false, not_false_eq_true, decide_true, decide_false, Bool.decide_eq_true])⟩ ?_
  exact ⟨rfl, by kernel_rfl⟩
  refine sn ?_
  refine st_dec (((a.kind = (1 : Int) ∨ a.kind = (2 : Int)) ∨ a.kind = (3 : Int) ∨ a.kind = (4 : Int)) ∧ ¬good a.sku = true) (by kernel_rfl) (by kernel_rfl) (fun h_15 => ?_) (fun h_15 => ?_)
  refine sq ?_
  refine rg (A := True) cx [] [2] [] trivial ?_
  refine sn ?_
  refine st_ret (by kernel_rfl) ?_
  refine q_blk_ret ?_
  refine q_seq_ret ?_
  refine q_ret (r := .i .i64 ((5 : Int))) (obl := []) (by kernel_rfl) trivial (AVle.eq (show AV.i IntKind.i64 (5 : Int) = AV.i IntKind.i64 (actE a) from ?g3)); rotate_left 1
  refine sq ?_
  refine st_join (σ' := ⟨[(57, .b (decide ((a.kind = (1 : Int) ∨ a.kind = (2 : Int)) ∧ (a.qty < (1 : Int) ∨ (1000000 : Int) < a.qty))))], []⟩) ?_ ?_
  refine st_split (a.kind = (1 : Int) ∨ a.kind = (2 : Int)) (fun h_17 => ?_) (fun h_17 => ?_)
  refine st_split (a.qty < (1 : Int)) (fun h_18 => ?_) (fun h_18 => ?_)
  refine rg (A := _ ∧ _ ∧ (AV.b true = AV.b (decide ((a.kind = (1 : Int) ∨ a.kind = (2 : Int)) ∧ (a.qty < (1 : Int) ∨ (1000000 : Int) < a.qty))))) cx [(0, { tell := some (.b (true)) }), (4, { tell := some (.b (true)) }), (11, { tell := some (.b (decide ((a.kind = (1 : Int) ∨ a.kind = (2 : Int)) ∧ (a.qty < (1 : Int) ∨ (1000000 : Int) < a.qty)))) })] [57] [] ⟨(told_true h_17), (told_true h_18), (by simp only [eq_true h_17, eq_true h_18, told_simp1, told_simp2, and_true, true_and, and_false, false_and, or_true, true_or, or_false, false_or, not_true_eq_false, not_false_eq_true, decide_true, decide_false, Bool.decide_eq_true])⟩ ?_
  exact ⟨rfl, by kernel_rfl⟩
  refine rg (A := _ ∧ _ ∧ (AV.b (decide (a.qty > (1000000 : Int))) = AV.b (decide ((1000000 : Int) < a.qty))) ∧ (AV.b (decide ((1000000 : Int) < a.qty)) = AV.b (decide ((a.kind = (1 : Int) ∨ a.kind = (2 : Int)) ∧ (a.qty < (1 : Int) ∨ (1000000 : Int) < a.qty))))) cx [(0, { tell := some (.b (true)) }), (4, { tell := some (.b (false)) }), (8, { tell := some (.b (decide ((1000000 : Int) < a.qty))) }), (11, { tell := some (.b (decide ((a.kind = (1 : Int) ∨ a.kind = (2 : Int)) ∧ (a.qty < (1 : Int) ∨ (1000000 : Int) < a.qty)))) })] [57] [] ⟨(told_true h_17), (told_false h_18), (by kernel_rfl), (by simp only [eq_true h_17, eq_false h_18, told_simp1, told_simp2, and_true, true_and, and_false, false_and, or_true, true_or, or_false, false_or, not_true_eq_false, not_false_eq_true, decide_true, decide_false, Bool.decide_eq_true])⟩ ?_
  exact ⟨rfl, by kernel_rfl⟩
  refine rg (A := _ ∧ (AV.b false = AV.b (decide ((a.kind = (1 : Int) ∨ a.kind = (2 : Int)) ∧ (a.qty < (1 : Int) ∨ (1000000 : Int) < a.qty))))) cx [(0, { tell := some (.b (false)) }), (11, { tell := some (.b (decide ((a.kind = (1 : Int) ∨ a.kind = (2 : Int)) ∧ (a.qty < (1 : Int) ∨ (1000000 : Int) < a.qty)))) })] [57] [] ⟨(told_false h_17), (by simp only [eq_false h_17, told_simp1, told_simp2, and_true, true_and, and_false, false_and, or_true, true_or, or_false, false_or, not_true_eq_false, not_false_eq_true, decide_true, decide_false, Bool.decide_eq_true])⟩ ?_
  exact ⟨rfl, by kernel_rfl⟩
  refine sn ?_
  refine st_dec ((a.kind = (1 : Int) ∨ a.kind = (2 : Int)) ∧ (a.qty < (1 : Int) ∨ (1000000 : Int) < a.qty)) (by kernel_rfl) (by kernel_rfl) (fun h_19 => ?_) (fun h_19 => ?_)
  refine sq ?_
  refine rg (A := True) cx [] [2] [] trivial ?_
  refine sn ?_
  refine st_ret (by kernel_rfl) ?_
  refine q_blk_ret ?_
  refine q_seq_ret ?_
  refine q_ret (r := .i .i64 ((6 : Int))) (obl := []) (by kernel_rfl) trivial (AVle.eq (show AV.i IntKind.i64 (6 : Int) = AV.i IntKind.i64 (actE a) from ?g4)); rotate_left 1
  refine st_skip (by kernel_rfl) ?_
  refine q_blk_normal ?_
  refine sn ?_
  refine sq ?_
  refine rg (A := True) cx [] [2] [] trivial ?_
  refine sn ?_
  refine st_ret (by kernel_rfl) ?_
  refine q_ret (r := .i .i64 ((0 : Int))) (obl := []) (by kernel_rfl) trivial (AVle.eq (show AV.i IntKind.i64 (0 : Int) = AV.i IntKind.i64 (actE a) from ?g5)); rotate_left 1
  revert h_2; rotate_left
  revert h_2 h_11; rotate_left
  revert h_2 h_12; rotate_left
  revert h_2 h_12 h_15; rotate_left
  revert h_2 h_12 h_15 h_19; rotate_left
  revert h_2 h_12 h_15 h_19; rotate_left
  case g0 => intro h; unfold actE; rw [if_pos h]
  case g1 => intros; exact hb.1
  case g2 => intro h0 h1; unfold actE; rw [if_neg h0, if_pos h1]
  case g3 => intro h0 h1 h2; unfold actE; rw [if_neg h0, if_neg h1, if_pos ⟨by omega, no_true h2.2⟩]
  case g4 => intro h0 h1 h2 h3; unfold actE; rw [if_neg h0, if_neg h1, if_neg (fun c => h2 ⟨by omega, by rw [c.2]; simp⟩), if_pos ⟨by omega, h3.2⟩]
  case g5 => intro h0 h1 h2 h3; unfold actE; rw [if_neg h0, if_neg h1, if_neg (fun c => h2 ⟨by omega, by rw [c.2]; simp⟩), if_neg (fun c => h3 ⟨by omega, c.2⟩)]
theorem con7 (a : Actn) (hb : szP a.past) : Con Try.prog 7 [.agg (c27 a)] (.i .i64 (actE a)) :=
  by
  have k : (a.kind = 4 ∧ ¬a.past = normP a.past ∨ ¬a.kind = 4 ∧ a.kind = 6 ∧ ¬a.past = normP a.past) ↔ (a.kind = 4 ∨ a.kind = 6) ∧ ¬ a.past = normP a.past := by
    constructor
    · rintro (h | h)
      · exact ⟨.inl h.1, h.2⟩
      · exact ⟨.inr h.2.1, h.2.2⟩
    · rintro ⟨h | h, n⟩
      · exact .inl ⟨h, n⟩
      · exact .inr ⟨by omega, h, n⟩
  refine st_con tab_ok (by kernel_rfl) [.tmp 2] 47 Go.Proofs.Try.func7 (by kernel_rfl) (by kernel_rfl) ?_
  intro e0 cx
  refine sq ?_
  refine rg (A := True) cx [] [1] [1] trivial ?_
  refine sn ?_
  refine sq ?_
  refine sq ?_
  refine st_join (σ' := ⟨[(1, .ptr (1) (0) (0) (0)), (10, .b (decide (a.kind < (1 : Int) ∨ (6 : Int) < a.kind)))], [(1, ⟨0, 27, .var [.i .i64 (a.kind), .s (a.sku), .i .i64 (a.qty), .sl (List.map c3 a.past.vec), .sl (List.map c50 a.past.cloud)]⟩)]⟩) ?_ ?_
  refine st_split (a.kind < (1 : Int)) (fun h_1 => ?_) (fun h_1 => ?_)
  refine rg (A := _ ∧ (AV.b true = AV.b (decide (a.kind < (1 : Int) ∨ (6 : Int) < a.kind)))) cx [(2, { tell := some (.b (true)) }), (7, { tell := some (.b (decide (a.kind < (1 : Int) ∨ (6 : Int) < a.kind))) })] [1, 10] [1] ⟨(told_true h_1), (by simp only [eq_true h_1, told_simp1, told_simp2, and_true, true_and, and_false, false_and, or_true, true_or, or_false, false_or, not_true_eq_false, not_false_eq_true, decide_true, decide_false, Bool.decide_eq_true])⟩ ?_
  exact ⟨rfl, by kernel_rfl⟩
  refine rg (A := _ ∧ (AV.b (decide (a.kind > (6 : Int))) = AV.b (decide ((6 : Int) < a.kind))) ∧ (AV.b (decide ((6 : Int) < a.kind)) = AV.b (decide (a.kind < (1 : Int) ∨ (6 : Int) < a.kind)))) cx [(2, { tell := some (.b (false)) }), (6, { tell := some (.b (decide ((6 : Int) < a.kind))) }), (7, { tell := some (.b (decide (a.kind < (1 : Int) ∨ (6 : Int) < a.kind))) })] [1, 10] [1] ⟨(told_false h_1), (by kernel_rfl), (by simp only [eq_false h_1, told_simp1, told_simp2, and_true, true_and, and_false, false_and, or_true, true_or, or_false, false_or, not_true_eq_false, not_false_eq_true, decide_true, decide_false, Bool.decide_eq_true])⟩ ?_
  exact ⟨rfl, by kernel_rfl⟩
  refine sn ?_
  refine st_dec (a.kind < (1 : Int) ∨ (6 : Int) < a.kind) (by kernel_rfl) (by kernel_rfl) (fun h_2 => ?_) (fun h_2 => ?_)
  refine sq ?_
  refine rg (A := True) cx [] [2] [] trivial ?_
  refine sn ?_
  refine st_ret (by kernel_rfl) ?_
  refine q_seq_ret ?_
  refine q_ret (r := .i .i64 ((7 : Int))) (obl := []) (by kernel_rfl) trivial (AVle.eq (show AV.i IntKind.i64 (7 : Int) = AV.i IntKind.i64 (actE a) from ?g0)); rotate_left 1
  refine st_skip (by kernel_rfl) ?_
  refine sn ?_
  refine sq ?_
  refine sq ?_
  refine st_join (σ' := ⟨[(1, .ptr (1) (0) (0) (0)), (24, .b (decide (a.kind = (4 : Int) ∧ ¬a.past = normP a.past ∨ ¬a.kind = (4 : Int) ∧ a.kind = (6 : Int) ∧ ¬a.past = normP a.past)))], [(1, ⟨0, 27, .var [.i .i64 (a.kind), .s (a.sku), .i .i64 (a.qty), .sl (List.map c3 a.past.vec), .sl (List.map c50 a.past.cloud)]⟩)]⟩) ?_ ?_
  refine st_split (a.kind = (4 : Int)) (fun h_4 => ?_) (fun h_4 => ?_)
  refine rg (A := _ ∧ _ ∧ ((AV.b !decide (a.past = normP a.past)) = AV.b (decide ¬a.past = normP a.past)) ∧ (AV.b (decide ¬a.past = normP a.past) = AV.b (decide (a.kind = (4 : Int) ∧ ¬a.past = normP a.past ∨ ¬a.kind = (4 : Int) ∧ a.kind = (6 : Int) ∧ ¬a.past = normP a.past)))) cx [(2, { tell := some (.b (true)) }), (11, { val := some (.b (decide (a.past = normP a.past))) }), (12, { tell := some (.b (decide ¬a.past = normP a.past)) }), (13, { tell := some (.b (decide (a.kind = (4 : Int) ∧ ¬a.past = normP a.past ∨ ¬a.kind = (4 : Int) ∧ a.kind = (6 : Int) ∧ ¬a.past = normP a.past))) })] [1, 24] [1] ⟨(told_true h_4), (con16 (a.past) ?g1 ?g2), (told_notd), (by simp only [eq_true h_4, told_simp1, told_simp2, and_true, true_and, and_false, false_and, or_true, true_or, or_false, false_or, not_true_eq_false, not_false_eq_true, decide_true, decide_false, Bool.decide_eq_true])⟩ ?_; rotate_left 2
  exact ⟨rfl, by kernel_rfl⟩
  refine st_split (a.kind = (6 : Int)) (fun h_5 => ?_) (fun h_5 => ?_)
  refine rg (A := _ ∧ _ ∧ _ ∧ ((AV.b !decide (a.past = normP a.past)) = AV.b (decide ¬a.past = normP a.past)) ∧ (AV.b (decide ¬a.past = normP a.past) = AV.b (decide (a.kind = (4 : Int) ∧ ¬a.past = normP a.past ∨ ¬a.kind = (4 : Int) ∧ a.kind = (6 : Int) ∧ ¬a.past = normP a.past)))) cx [(2, { tell := some (.b (false)) }), (6, { tell := some (.b (true)) }), (11, { val := some (.b (decide (a.past = normP a.past))) }), (12, { tell := some (.b (decide ¬a.past = normP a.past)) }), (13, { tell := some (.b (decide (a.kind = (4 : Int) ∧ ¬a.past = normP a.past ∨ ¬a.kind = (4 : Int) ∧ a.kind = (6 : Int) ∧ ¬a.past = normP a.past))) })] [1, 24] [1] ⟨(told_false h_4), (told_true h_5), (con16 (a.past) ?g3 ?g4), (told_notd), (by simp only [eq_false h_4, eq_true h_5, told_simp1, told_simp2, and_true, true_and, and_false, false_and, or_true, true_or, or_false, false_or, not_true_eq_false, not_false_eq_true, decide_true, decide_false, Bool.decide_eq_true])⟩ ?_; rotate_left 2
  exact ⟨rfl, by kernel_rfl⟩
  refine rg (A := _ ∧ _ ∧ (AV.b false = AV.b (decide (a.kind = (4 : Int) ∧ ¬a.past = normP a.past ∨ ¬a.kind = (4 : Int) ∧ a.kind = (6 : Int) ∧ ¬a.past = normP a.past)))) cx [(2, { tell := some (.b (false)) }), (6, { tell := some (.b (false)) }), (13, { tell := some (.b (decide (a.kind = (4 : Int) ∧ ¬a.past = normP a.past ∨ ¬a.kind = (4 : Int) ∧ a.kind = (6 : Int) ∧ ¬a.past = normP a.past))) })] [1, 24] [1] ⟨(told_false h_4), (told_false h_5), (by simp only [eq_false h_4, eq_false h_5, told_simp1, told_simp2, and_true, true_and, and_false, false_and, or_true, true_or, or_false, false_or, not_true_eq_false, not_false_eq_true, decide_true, decide_false, Bool.decide_eq_true])⟩ ?_
  exact ⟨rfl, by kernel_rfl⟩
  refine sn ?_
  refine st_dec (a.kind = (4 : Int) ∧ ¬a.past = normP a.past ∨ ¬a.kind = (4 : Int) ∧ a.kind = (6 : Int) ∧ ¬a.past = normP a.past) (by kernel_rfl) (by kernel_rfl) (fun h_6 => ?_) (fun h_6 => ?_)
  refine sq ?_
  refine rg (A := True) cx [] [2] [] trivial ?_
  refine sn ?_
  refine st_ret (by kernel_rfl) ?_
  refine q_seq_ret ?_
  refine q_ret (r := .i .i64 ((1 : Int))) (obl := []) (by kernel_rfl) trivial (AVle.eq (show AV.i IntKind.i64 (1 : Int) = AV.i IntKind.i64 (actE a) from ?g5)); rotate_left 1
  refine st_skip (by kernel_rfl) ?_
  refine sn ?_
  refine sq ?_
  refine sq ?_
  refine st_join (σ' := ⟨[(1, .ptr (1) (0) (0) (0)), (33, .b (decide (a.kind ≤ (4 : Int) ∧ ¬good a.sku = true)))], [(1, ⟨0, 27, .var [.i .i64 (a.kind), .s (a.sku), .i .i64 (a.qty), .sl (List.map c3 a.past.vec), .sl (List.map c50 a.past.cloud)]⟩)]⟩) ?_ ?_
  refine st_split (a.kind ≤ (4 : Int)) (fun h_8 => ?_) (fun h_8 => ?_)
  refine rg (A := _ ∧ _ ∧ ((AV.b !good a.sku) = AV.b (decide ¬good a.sku = true)) ∧ (AV.b (decide ¬good a.sku = true) = AV.b (decide (a.kind ≤ (4 : Int) ∧ ¬good a.sku = true)))) cx [(2, { tell := some (.b (true)) }), (6, { val := some (.b (good a.sku)) }), (7, { tell := some (.b (decide ¬good a.sku = true)) }), (8, { tell := some (.b (decide (a.kind ≤ (4 : Int) ∧ ¬good a.sku = true))) })] [1, 33] [1] ⟨(told_true h_8), (con17 (a.sku)), (told_not), (by simp only [eq_true h_8, told_simp1, told_simp2, and_true, true_and, and_false, false_and, or_true, true_or, or_false, false_or, not_true_eq_false, not_false_eq_true, decide_true, decide_false, Bool.decide_eq_true])⟩ ?_
  exact ⟨rfl, by kernel_rfl⟩
  refine rg (A := _ ∧ (AV.b false = AV.b (decide (a.kind ≤ (4 : Int) ∧ ¬good a.sku = true)))) cx [(2, { tell := some (.b (false)) }), (8, { tell := some (.b (decide (a.kind ≤ (4 : Int) ∧ ¬good a.sku = true))) })] [1, 33] [1] ⟨(told_false h_8), (by simp only [eq_false h_8, told_simp1, told_simp2, and_true, true_and, and_false, false_and, or_true, true_or, or_false, false_or, not_true_eq_false, not_false_eq_true, decide_true, decide_false, Bool.decide_eq_true])⟩ ?_
  exact ⟨rfl, by kernel_rfl⟩
  refine sn ?_
  refine st_dec (a.kind ≤ (4 : Int) ∧ ¬good a.sku = true) (by kernel_rfl) (by kernel_rfl) (fun h_9 => ?_) (fun h_9 => ?_)
  refine sq ?_
  refine rg (A := True) cx [] [2] [] trivial ?_
  refine sn ?_
  refine st_ret (by kernel_rfl) ?_
  refine q_seq_ret ?_
  refine q_ret (r := .i .i64 ((5 : Int))) (obl := []) (by kernel_rfl) trivial (AVle.eq (show AV.i IntKind.i64 (5 : Int) = AV.i IntKind.i64 (actE a) from ?g6)); rotate_left 1
  refine st_skip (by kernel_rfl) ?_
  refine sn ?_
  refine sq ?_
  refine sq ?_
  refine st_join (σ' := ⟨[(46, .b (decide (a.kind ≤ (2 : Int) ∧ (a.qty < (1 : Int) ∨ (1000000 : Int) < a.qty))))], []⟩) ?_ ?_
  refine st_split (a.kind ≤ (2 : Int)) (fun h_11 => ?_) (fun h_11 => ?_)
  refine st_split (a.qty < (1 : Int)) (fun h_12 => ?_) (fun h_12 => ?_)
  refine rg (A := _ ∧ _ ∧ (AV.b true = AV.b (decide (a.kind ≤ (2 : Int) ∧ (a.qty < (1 : Int) ∨ (1000000 : Int) < a.qty))))) cx [(2, { tell := some (.b (true)) }), (6, { tell := some (.b (true)) }), (12, { tell := some (.b (decide (a.kind ≤ (2 : Int) ∧ (a.qty < (1 : Int) ∨ (1000000 : Int) < a.qty)))) })] [46] [] ⟨(told_true h_11), (told_true h_12), (by simp only [eq_true h_11, eq_true h_12, told_simp1, told_simp2, and_true, true_and, and_false, false_and, or_true, true_or, or_false, false_or, not_true_eq_false, not_false_eq_true, decide_true, decide_false, Bool.decide_eq_true])⟩ ?_
  exact ⟨rfl, by kernel_rfl⟩
  refine rg (A := _ ∧ _ ∧ (AV.b (decide (a.qty > (1000000 : Int))) = AV.b (decide ((1000000 : Int) < a.qty))) ∧ (AV.b (decide ((1000000 : Int) < a.qty)) = AV.b (decide (a.kind ≤ (2 : Int) ∧ (a.qty < (1 : Int) ∨ (1000000 : Int) < a.qty))))) cx [(2, { tell := some (.b (true)) }), (6, { tell := some (.b (false)) }), (10, { tell := some (.b (decide ((1000000 : Int) < a.qty))) }), (12, { tell := some (.b (decide (a.kind ≤ (2 : Int) ∧ (a.qty < (1 : Int) ∨ (1000000 : Int) < a.qty)))) })] [46] [] ⟨(told_true h_11), (told_false h_12), (by kernel_rfl), (by simp only [eq_true h_11, eq_false h_12, told_simp1, told_simp2, and_true, true_and, and_false, false_and, or_true, true_or, or_false, false_or, not_true_eq_false, not_false_eq_true, decide_true, decide_false, Bool.decide_eq_true])⟩ ?_
  exact ⟨rfl, by kernel_rfl⟩
  refine rg (A := _ ∧ (AV.b false = AV.b (decide (a.kind ≤ (2 : Int) ∧ (a.qty < (1 : Int) ∨ (1000000 : Int) < a.qty))))) cx [(2, { tell := some (.b (false)) }), (12, { tell := some (.b (decide (a.kind ≤ (2 : Int) ∧ (a.qty < (1 : Int) ∨ (1000000 : Int) < a.qty)))) })] [46] [] ⟨(told_false h_11), (by simp only [eq_false h_11, told_simp1, told_simp2, and_true, true_and, and_false, false_and, or_true, true_or, or_false, false_or, not_true_eq_false, not_false_eq_true, decide_true, decide_false, Bool.decide_eq_true])⟩ ?_
  exact ⟨rfl, by kernel_rfl⟩
  refine sn ?_
  refine st_dec (a.kind ≤ (2 : Int) ∧ (a.qty < (1 : Int) ∨ (1000000 : Int) < a.qty)) (by kernel_rfl) (by kernel_rfl) (fun h_13 => ?_) (fun h_13 => ?_)
  refine sq ?_
  refine rg (A := True) cx [] [2] [] trivial ?_
  refine sn ?_
  refine st_ret (by kernel_rfl) ?_
  refine q_seq_ret ?_
  refine q_ret (r := .i .i64 ((6 : Int))) (obl := []) (by kernel_rfl) trivial (AVle.eq (show AV.i IntKind.i64 (6 : Int) = AV.i IntKind.i64 (actE a) from ?g7)); rotate_left 1
  refine st_skip (by kernel_rfl) ?_
  refine sn ?_
  refine sq ?_
  refine rg (A := True) cx [] [2] [] trivial ?_
  refine sn ?_
  refine st_ret (by kernel_rfl) ?_
  refine q_ret (r := .i .i64 ((0 : Int))) (obl := []) (by kernel_rfl) trivial (AVle.eq (show AV.i IntKind.i64 (0 : Int) = AV.i IntKind.i64 (actE a) from ?g8)); rotate_left 1
  revert h_2; rotate_left
  revert h_2 h_4; rotate_left
  revert h_2 h_4; rotate_left
  revert h_2 h_4 h_5; rotate_left
  revert h_2 h_4 h_5; rotate_left
  revert h_2 h_6; rotate_left
  revert h_2 h_6 h_9; rotate_left
  revert h_2 h_6 h_9 h_13; rotate_left
  revert h_2 h_6 h_9 h_13; rotate_left
  case g0 => intro h; unfold actE; rw [if_pos h]
  case g1 => intros; exact hb.1
  case g2 => intros; exact hb.2
  case g3 => intros; exact hb.1
  case g4 => intros; exact hb.2
  case g5 => intro h0 h1; rw [k] at h1; unfold actE; rw [if_neg h0, if_pos h1]
  case g6 => intro h0 h1 h2; rw [k] at h1; unfold actE; rw [if_neg h0, if_neg h1, if_pos ⟨h2.1, no_true h2.2⟩]
  case g7 => intro h0 h1 h2 h3; rw [k] at h1; unfold actE; rw [if_neg h0, if_neg h1, if_neg (fun c => h2 ⟨c.1, by rw [c.2]; simp⟩), if_pos h3]
  case g8 => intro h0 h1 h2 h3; rw [k] at h1; unfold actE; rw [if_neg h0, if_neg h1, if_neg (fun c => h2 ⟨c.1, by rw [c.2]; simp⟩), if_neg h3]
theorem con5 (p : Past) (rep count : Int) (hb : szP p) : Con Try.prog 5 [.agg (c25 p), .i .i64 rep, .i .i64 count] (.tup [.agg (c29 (nxtV p rep count).1), .i .i64 (nxtV p rep count).2]) :=
  by
  refine st_con tab_ok (by kernel_rfl) [.cell 6 29, .tmp 7] 18 Go.Proofs.Try.func5 (by kernel_rfl) (by kernel_rfl) ?_
  intro e0 cx
  refine sq ?_
  refine rg (A := True) cx [] [1, 2, 3, 6] [3, 6] trivial ?_
  refine sn ?_
  refine sq ?_
  refine sq ?_
  refine rg (A := _ ∧ ((AV.b !decide (p = normP p)) = AV.b (decide ¬p = normP p))) cx [(1, { val := some (.b (decide (p = normP p))) }), (2, { tell := some (.b (decide ¬p = normP p)) })] [1, 2, 3, 6, 10] [3, 6] ⟨(con13 (p) ?g0), (told_notd)⟩ ?_; rotate_left 1
  refine sn ?_
  refine st_dec (¬p = normP p) (by kernel_rfl) (by kernel_rfl) (fun h_0 => ?_) (fun h_0 => ?_)
  refine sq ?_
  refine rg (A := True) cx [] [6, 7] [6] trivial ?_
  refine sn ?_
  refine st_ret (by kernel_rfl) ?_
  refine q_seq_ret ?_
  refine q_ret (r := .tup [.agg [.i .i64 ((0 : Int)), .i .i64 ((0 : Int))], .i .i64 ((1 : Int))]) (obl := []) (by kernel_rfl) trivial (AVle.tup (ZLe.cons (AVle.eq (show AV.agg [AV.i IntKind.i64 (0 : Int), AV.i IntKind.i64 (0 : Int)] = AV.agg [AV.i IntKind.i64 (nxtV p rep count).fst.rep, AV.i IntKind.i64 (nxtV p rep count).fst.num] from ?g2)) (ZLe.cons (AVle.eq (show AV.i IntKind.i64 (1 : Int) = AV.i IntKind.i64 (nxtV p rep count).snd from ?g1)) ZLe.nil))); rotate_left 2
  refine st_skip (by kernel_rfl) ?_
  refine sn ?_
  refine sq ?_
  refine rg (A := _) cx [(3, { val := some (.tup [.agg [.i .i64 ((nextP p rep count).fst.rep), .i .i64 ((nextP p rep count).fst.num)], .i .i64 ((nextP p rep count).snd)]) })] [6, 7] [6] (con14 (p) (rep) (count) ?g3) ?_; rotate_left 1
  refine sn ?_
  refine st_ret (by kernel_rfl) ?_
  refine q_ret (r := .tup [.agg [.i .i64 ((nextP p rep count).fst.rep), .i .i64 ((nextP p rep count).fst.num)], .i .i64 ((nextP p rep count).snd)]) (obl := []) (by kernel_rfl) trivial (AVle.tup (ZLe.cons (AVle.eq (show AV.agg [AV.i IntKind.i64 (nextP p rep count).fst.rep, AV.i IntKind.i64 (nextP p rep count).fst.num] = AV.agg [AV.i IntKind.i64 (nxtV p rep count).fst.rep, AV.i IntKind.i64 (nxtV p rep count).fst.num] from ?g5)) (ZLe.cons (AVle.eq (show AV.i IntKind.i64 (nextP p rep count).snd = AV.i IntKind.i64 (nxtV p rep count).snd from ?g4)) ZLe.nil))); rotate_left 2
  rotate_left
  revert h_0; rotate_left
  revert h_0; rotate_left
  revert h_0; rotate_left
  revert h_0; rotate_left
  revert h_0; rotate_left
  case g0 => exact hb.1
  case g1 => intro h; unfold nxtV; rw [if_pos h]
  case g2 => intro h; unfold nxtV; rw [if_pos h]; rfl
  case g3 => intro h; exact hb.1
  case g4 => intro h; unfold nxtV; rw [if_neg h]
  case g5 => intro h; unfold nxtV; rw [if_neg h]
theorem con8 (p : Past) (rep count : Int) (hb : szP p) : Con Try.prog 8 [.agg (c25 p), .i .i64 rep, .i .i64 count] (.tup [.agg (c29 (nxtV p rep count).1), .i .i64 (nxtV p rep count).2]) :=
  by
  have hl := last_rng p rep
  refine st_con tab_ok (by kernel_rfl) [.cell 6 29, .tmp 7] 35 Go.Proofs.Try.func8 (by kernel_rfl) (by kernel_rfl) ?_
  intro e0 cx
  refine sq ?_
  refine rg (A := True) cx [] [1, 2, 3, 6] [3, 6] trivial ?_
  refine sn ?_
  refine sq ?_
  refine sq ?_
  refine rg (A := _ ∧ ((AV.b !decide (p = normP p)) = AV.b (decide ¬p = normP p))) cx [(1, { val := some (.b (decide (p = normP p))) }), (2, { tell := some (.b (decide ¬p = normP p)) })] [1, 2, 3, 6, 11] [3, 6] ⟨(con16 (p) ?g0 ?g1), (told_notd)⟩ ?_; rotate_left 2
  refine sn ?_
  refine st_dec (¬p = normP p) (by kernel_rfl) (by kernel_rfl) (fun h_0 => ?_) (fun h_0 => ?_)
  refine sq ?_
  refine rg (A := True) cx [] [6, 7] [6] trivial ?_
  refine sn ?_
  refine st_ret (by kernel_rfl) ?_
  refine q_seq_ret ?_
  refine q_ret (r := .tup [.agg [.i .i64 ((0 : Int)), .i .i64 ((0 : Int))], .i .i64 ((1 : Int))]) (obl := []) (by kernel_rfl) trivial (AVle.tup (ZLe.cons (AVle.eq (show AV.agg [AV.i IntKind.i64 (0 : Int), AV.i IntKind.i64 (0 : Int)] = AV.agg [AV.i IntKind.i64 (nxtV p rep count).fst.rep, AV.i IntKind.i64 (nxtV p rep count).fst.num] from ?g3)) (ZLe.cons (AVle.eq (show AV.i IntKind.i64 (1 : Int) = AV.i IntKind.i64 (nxtV p rep count).snd from ?g2)) ZLe.nil))); rotate_left 2
  refine st_skip (by kernel_rfl) ?_
  refine sn ?_
  refine sq ?_
  refine sq ?_
  refine st_join (σ' := ⟨[(1, .i .i64 (rep)), (2, .i .i64 (count)), (3, .ptr (3) (0) (0) (0)), (6, .ptr (6) (0) (0) (0)), (18, .b (decide (rep < (0 : Int) ∨ (16 : Int) ≤ rep)))], [(3, ⟨0, 25, .var [.sl (List.map c3 p.vec), .sl (List.map c50 p.cloud)]⟩), (6, ⟨0, 29, .var [.i .i64 ((0 : Int)), .i .i64 ((0 : Int))]⟩)]⟩) ?_ ?_
  refine st_split (rep < (0 : Int)) (fun h_2 => ?_) (fun h_2 => ?_)
  refine rg (A := _ ∧ (AV.b true = AV.b (decide (rep < (0 : Int) ∨ (16 : Int) ≤ rep)))) cx [(1, { tell := some (.b (true)) }), (5, { tell := some (.b (decide (rep < (0 : Int) ∨ (16 : Int) ≤ rep))) })] [1, 2, 3, 6, 18] [3, 6] ⟨(told_true h_2), (by simp only [eq_true h_2, told_simp1, told_simp2, and_true, true_and, and_false, false_and, or_true, true_or, or_false, false_or, not_true_eq_false, not_false_eq_true, decide_true, decide_false, Bool.decide_eq_true])⟩ ?_
  exact ⟨rfl, by kernel_rfl⟩
  refine rg (A := _ ∧ (AV.b (decide (rep ≥ (16 : Int))) = AV.b (decide ((16 : Int) ≤ rep))) ∧ (AV.b (decide ((16 : Int) ≤ rep)) = AV.b (decide (rep < (0 : Int) ∨ (16 : Int) ≤ rep)))) cx [(1, { tell := some (.b (false)) }), (4, { tell := some (.b (decide ((16 : Int) ≤ rep))) }), (5, { tell := some (.b (decide (rep < (0 : Int) ∨ (16 : Int) ≤ rep))) })] [1, 2, 3, 6, 18] [3, 6] ⟨(told_false h_2), (by kernel_rfl), (by simp only [eq_false h_2, told_simp1, told_simp2, and_true, true_and, and_false, false_and, or_true, true_or, or_false, false_or, not_true_eq_false, not_false_eq_true, decide_true, decide_false, Bool.decide_eq_true])⟩ ?_
  exact ⟨rfl, by kernel_rfl⟩
  refine sn ?_
  refine st_dec (rep < (0 : Int) ∨ (16 : Int) ≤ rep) (by kernel_rfl) (by kernel_rfl) (fun h_3 => ?_) (fun h_3 => ?_)
  refine sq ?_
  refine rg (A := True) cx [] [6, 7] [6] trivial ?_
  refine sn ?_
  refine st_ret (by kernel_rfl) ?_
  refine q_seq_ret ?_
  refine q_ret (r := .tup [.agg [.i .i64 ((0 : Int)), .i .i64 ((0 : Int))], .i .i64 ((3 : Int))]) (obl := []) (by kernel_rfl) trivial (AVle.tup (ZLe.cons (AVle.eq (show AV.agg [AV.i IntKind.i64 (0 : Int), AV.i IntKind.i64 (0 : Int)] = AV.agg [AV.i IntKind.i64 (nxtV p rep count).fst.rep, AV.i IntKind.i64 (nxtV p rep count).fst.num] from ?g5)) (ZLe.cons (AVle.eq (show AV.i IntKind.i64 (3 : Int) = AV.i IntKind.i64 (nxtV p rep count).snd from ?g4)) ZLe.nil))); rotate_left 2
  refine st_skip (by kernel_rfl) ?_
  refine sn ?_
  refine sq ?_
  refine rg (A := _) cx [(2, { val := some (.i .i64 (lastP p rep)) })] [1, 2, 6, 8] [6] (con18 (p) (rep) ?g6) ?_; rotate_left 1
  refine sn ?_
  refine sq ?_
  refine sq ?_
  refine st_join (σ' := ⟨[(1, .i .i64 (rep)), (6, .ptr (6) (0) (0) (0)), (8, .i .i64 (lastP p rep)), (29, .b (decide (count ≤ lastP p rep ∨ (1000000000 : Int) ≤ lastP p rep)))], [(6, ⟨0, 29, .var [.i .i64 ((0 : Int)), .i .i64 ((0 : Int))]⟩)]⟩) ?_ ?_
  refine st_split (count ≤ lastP p rep) (fun h_5 => ?_) (fun h_5 => ?_)
  refine rg (A := _ ∧ (AV.b true = AV.b (decide (count ≤ lastP p rep ∨ (1000000000 : Int) ≤ lastP p rep)))) cx [(2, { tell := some (.b (true)) }), (6, { tell := some (.b (decide (count ≤ lastP p rep ∨ (1000000000 : Int) ≤ lastP p rep))) })] [1, 6, 8, 29] [6] ⟨(told_true h_5), (by simp only [eq_true h_5, told_simp1, told_simp2, and_true, true_and, and_false, false_and, or_true, true_or, or_false, false_or, not_true_eq_false, not_false_eq_true, decide_true, decide_false, Bool.decide_eq_true])⟩ ?_
  exact ⟨rfl, by kernel_rfl⟩
  refine rg (A := _ ∧ (AV.b (decide (lastP p rep ≥ (1000000000 : Int))) = AV.b (decide ((1000000000 : Int) ≤ lastP p rep))) ∧ (AV.b (decide ((1000000000 : Int) ≤ lastP p rep)) = AV.b (decide (count ≤ lastP p rep ∨ (1000000000 : Int) ≤ lastP p rep)))) cx [(2, { tell := some (.b (false)) }), (5, { tell := some (.b (decide ((1000000000 : Int) ≤ lastP p rep))) }), (6, { tell := some (.b (decide (count ≤ lastP p rep ∨ (1000000000 : Int) ≤ lastP p rep))) })] [1, 6, 8, 29] [6] ⟨(told_false h_5), (by kernel_rfl), (by simp only [eq_false h_5, told_simp1, told_simp2, and_true, true_and, and_false, false_and, or_true, true_or, or_false, false_or, not_true_eq_false, not_false_eq_true, decide_true, decide_false, Bool.decide_eq_true])⟩ ?_
  exact ⟨rfl, by kernel_rfl⟩
  refine sn ?_
  refine st_dec (count ≤ lastP p rep ∨ (1000000000 : Int) ≤ lastP p rep) (by kernel_rfl) (by kernel_rfl) (fun h_6 => ?_) (fun h_6 => ?_)
  refine sq ?_
  refine rg (A := True) cx [] [6, 7] [6] trivial ?_
  refine sn ?_
  refine st_ret (by kernel_rfl) ?_
  refine q_seq_ret ?_
  refine q_ret (r := .tup [.agg [.i .i64 ((0 : Int)), .i .i64 ((0 : Int))], .i .i64 ((9 : Int))]) (obl := []) (by kernel_rfl) trivial (AVle.tup (ZLe.cons (AVle.eq (show AV.agg [AV.i IntKind.i64 (0 : Int), AV.i IntKind.i64 (0 : Int)] = AV.agg [AV.i IntKind.i64 (nxtV p rep count).fst.rep, AV.i IntKind.i64 (nxtV p rep count).fst.num] from ?g8)) (ZLe.cons (AVle.eq (show AV.i IntKind.i64 (9 : Int) = AV.i IntKind.i64 (nxtV p rep count).snd from ?g7)) ZLe.nil))); rotate_left 2
  refine st_skip (by kernel_rfl) ?_
  refine sn ?_
  refine sq ?_
  refine rg (A := (AV.i IntKind.i64 (IntKind.i64.wrap (lastP p rep + (1 : Int))) = AV.i IntKind.i64 (lastP p rep + (1 : Int)))) cx [(2, { tell := some (.i .i64 (lastP p rep + (1 : Int))) })] [6, 7] [6] (told_i64 ?g9 (by omega)) ?_; rotate_left 1
  refine sn ?_
  refine st_ret (by kernel_rfl) ?_
  refine q_ret (r := .tup [.agg [.i .i64 (rep), .i .i64 (lastP p rep + (1 : Int))], .i .i64 ((0 : Int))]) (obl := []) (by kernel_rfl) trivial (AVle.tup (ZLe.cons (AVle.eq (show AV.agg [AV.i IntKind.i64 rep, AV.i IntKind.i64 (lastP p rep + (1 : Int))] = AV.agg [AV.i IntKind.i64 (nxtV p rep count).fst.rep, AV.i IntKind.i64 (nxtV p rep count).fst.num] from ?g11)) (ZLe.cons (AVle.eq (show AV.i IntKind.i64 (0 : Int) = AV.i IntKind.i64 (nxtV p rep count).snd from ?g10)) ZLe.nil))); rotate_left 2
  rotate_left
  rotate_left
  revert h_0; rotate_left
  revert h_0; rotate_left
  revert h_0 h_3; rotate_left
  revert h_0 h_3; rotate_left
  revert h_0 h_3; rotate_left
  revert h_0 h_3 h_6; rotate_left
  revert h_0 h_3 h_6; rotate_left
  revert h_0 h_3 h_6; rotate_left
  revert h_0 h_3 h_6; rotate_left
  revert h_0 h_3 h_6; rotate_left
  case g0 => exact hb.1
  case g1 => exact hb.2
  case g2 => intro h; unfold nxtV; rw [if_pos h]
  case g3 => intro h; unfold nxtV; rw [if_pos h]; rfl
  case g4 => intro h k; unfold nxtV nextP; rw [if_neg h, if_pos k]
  case g5 => intro h k; unfold nxtV nextP; rw [if_neg h, if_pos k]; rfl
  case g6 => intro h k; exact hb.1
  case g7 => intro h k m; unfold nxtV nextP; rw [if_neg h, if_neg k, if_pos (by omega)]
  case g8 => intro h k m; unfold nxtV nextP; rw [if_neg h, if_neg k, if_pos (by omega)]; rfl
  case g9 => intro h k m; omega
  case g10 => intro h k m; unfold nxtV nextP; rw [if_neg h, if_neg k, if_neg (by omega)]
  case g11 => intro h k m; unfold nxtV nextP; rw [if_neg h, if_neg k, if_neg (by omega)]
theorem con10 (f : Facts) (hb : szF f) : Con Try.prog 10 [.agg (c38 f)] (.b (empF f)) :=
  by
  refine st_con tab_ok (by kernel_rfl) [.tmp 2] 18 Go.Proofs.Try.func10 (by kernel_rfl) (by kernel_rfl) ?_
  intro e0 cx
  refine sq ?_
  refine rg (A := True) cx [] [1] [1] trivial ?_
  refine sn ?_
  refine sq ?_
  refine st_join (σ' := ⟨[(2, .b (decide ((↑f.adds.length : Int) = (0 : Int) ∧ (↑f.recs.length : Int) = (0 : Int) ∧ sizeP f.gone = (0 : Int))))], []⟩) ?_ ?_
  refine st_split ((↑f.adds.length : Int) = (0 : Int)) (fun h_1 => ?_) (fun h_1 => ?_)
  refine st_split ((↑f.recs.length : Int) = (0 : Int)) (fun h_2 => ?_) (fun h_2 => ?_)
  refine rg (A := _ ∧ _ ∧ _ ∧ _ ∧ _ ∧ (AV.b (decide (sizeP f.gone = (0 : Int))) = AV.b (decide ((↑f.adds.length : Int) = (0 : Int) ∧ (↑f.recs.length : Int) = (0 : Int) ∧ sizeP f.gone = (0 : Int))))) cx [(2, { tell := some (.i .i64 ((↑f.adds.length : Int))) }), (3, { tell := some (.b (true)) }), (7, { tell := some (.i .i64 ((↑f.recs.length : Int))) }), (8, { tell := some (.b (true)) }), (13, { val := some (.b (decide (sizeP f.gone = (0 : Int)))) }), (15, { tell := some (.b (decide ((↑f.adds.length : Int) = (0 : Int) ∧ (↑f.recs.length : Int) = (0 : Int) ∧ sizeP f.gone = (0 : Int)))) })] [2] [] ⟨(told_len c40 f.adds), (told_true h_1), (told_len c78 f.recs), (told_true h_2), (con20 (f.gone) ?g0), (by simp only [eq_true h_1, eq_true h_2, told_simp1, told_simp2, and_true, true_and, and_false, false_and, or_true, true_or, or_false, false_or, not_true_eq_false, not_false_eq_true, decide_true, decide_false, Bool.decide_eq_true])⟩ ?_; rotate_left 1
  exact ⟨rfl, by kernel_rfl⟩
  refine rg (A := _ ∧ _ ∧ _ ∧ _ ∧ (AV.b false = AV.b (decide ((↑f.adds.length : Int) = (0 : Int) ∧ (↑f.recs.length : Int) = (0 : Int) ∧ sizeP f.gone = (0 : Int))))) cx [(2, { tell := some (.i .i64 ((↑f.adds.length : Int))) }), (3, { tell := some (.b (true)) }), (7, { tell := some (.i .i64 ((↑f.recs.length : Int))) }), (8, { tell := some (.b (false)) }), (15, { tell := some (.b (decide ((↑f.adds.length : Int) = (0 : Int) ∧ (↑f.recs.length : Int) = (0 : Int) ∧ sizeP f.gone = (0 : Int)))) })] [2] [] ⟨(told_len c40 f.adds), (told_true h_1), (told_len c78 f.recs), (told_false h_2), (by simp only [eq_true h_1, eq_false h_2, told_simp1, told_simp2, and_true, true_and, and_false, false_and, or_true, true_or, or_false, false_or, not_true_eq_false, not_false_eq_true, decide_true, decide_false, Bool.decide_eq_true])⟩ ?_
  exact ⟨rfl, by kernel_rfl⟩
  refine rg (A := _ ∧ _ ∧ (AV.b false = AV.b (decide ((↑f.adds.length : Int) = (0 : Int) ∧ (↑f.recs.length : Int) = (0 : Int) ∧ sizeP f.gone = (0 : Int))))) cx [(2, { tell := some (.i .i64 ((↑f.adds.length : Int))) }), (3, { tell := some (.b (false)) }), (15, { tell := some (.b (decide ((↑f.adds.length : Int) = (0 : Int) ∧ (↑f.recs.length : Int) = (0 : Int) ∧ sizeP f.gone = (0 : Int)))) })] [2] [] ⟨(told_len c40 f.adds), (told_false h_1), (by simp only [eq_false h_1, told_simp1, told_simp2, and_true, true_and, and_false, false_and, or_true, true_or, or_false, false_or, not_true_eq_false, not_false_eq_true, decide_true, decide_false, Bool.decide_eq_true])⟩ ?_
  exact ⟨rfl, by kernel_rfl⟩
  refine sn ?_
  refine st_ret (by kernel_rfl) ?_
  refine q_ret (r := .b (decide ((↑f.adds.length : Int) = (0 : Int) ∧ (↑f.recs.length : Int) = (0 : Int) ∧ sizeP f.gone = (0 : Int)))) (obl := []) (by kernel_rfl) trivial (AVle.eq (show AV.b (decide ((↑f.adds.length : Int) = (0 : Int) ∧ (↑f.recs.length : Int) = (0 : Int) ∧ sizeP f.gone = (0 : Int))) = AV.b (empF f) from ?g1)); rotate_left 1
  revert h_1 h_2; rotate_left
  rotate_left
  case g0 => intros; exact hb.1.1
  case g1 => exact congrArg AV.b (decide_eq_decide.2 ⟨fun h => ⟨by omega, by omega, h.2.2⟩, fun h => ⟨by omega, by omega, h.2.2⟩⟩)
theorem con12 (f : Facts) (hb : szF f) : Con Try.prog 12 [.agg (c38 f)] (.b (empF f)) :=
  by
  refine st_con tab_ok (by kernel_rfl) [.tmp 2] 18 Go.Proofs.Try.func12 (by kernel_rfl) (by kernel_rfl) ?_
  intro e0 cx
  refine sq ?_
  refine rg (A := True) cx [] [1] [1] trivial ?_
  refine sn ?_
  refine sq ?_
  refine st_join (σ' := ⟨[(2, .b (decide ((↑f.adds.length : Int) = (0 : Int) ∧ (↑f.recs.length : Int) = (0 : Int) ∧ sizeP f.gone = (0 : Int))))], []⟩) ?_ ?_
  refine st_split ((↑f.adds.length : Int) = (0 : Int)) (fun h_1 => ?_) (fun h_1 => ?_)
  refine st_split ((↑f.recs.length : Int) = (0 : Int)) (fun h_2 => ?_) (fun h_2 => ?_)
  refine rg (A := _ ∧ _ ∧ _ ∧ _ ∧ _ ∧ (AV.b (decide (sizeP f.gone = (0 : Int))) = AV.b (decide ((↑f.adds.length : Int) = (0 : Int) ∧ (↑f.recs.length : Int) = (0 : Int) ∧ sizeP f.gone = (0 : Int))))) cx [(2, { tell := some (.i .i64 ((↑f.adds.length : Int))) }), (3, { tell := some (.b (true)) }), (7, { tell := some (.i .i64 ((↑f.recs.length : Int))) }), (8, { tell := some (.b (true)) }), (13, { val := some (.b (decide (sizeP f.gone = (0 : Int)))) }), (15, { tell := some (.b (decide ((↑f.adds.length : Int) = (0 : Int) ∧ (↑f.recs.length : Int) = (0 : Int) ∧ sizeP f.gone = (0 : Int)))) })] [2] [] ⟨(told_len c40 f.adds), (told_true h_1), (told_len c78 f.recs), (told_true h_2), (con23 (f.gone) ?g0), (by simp only [eq_true h_1, eq_true h_2, told_simp1, told_simp2, and_true, true_and, and_false, false_and, or_true, true_or, or_false, false_or, not_true_eq_false, not_false_eq_true, decide_true, decide_false, Bool.decide_eq_true])⟩ ?_; rotate_left 1
  exact ⟨rfl, by kernel_rfl⟩
  refine rg (A := _ ∧ _ ∧ _ ∧ _ ∧ (AV.b false = AV.b (decide ((↑f.adds.length : Int) = (0 : Int) ∧ (↑f.recs.length : Int) = (0 : Int) ∧ sizeP f.gone = (0 : Int))))) cx [(2, { tell := some (.i .i64 ((↑f.adds.length : Int))) }), (3, { tell := some (.b (true)) }), (7, { tell := some (.i .i64 ((↑f.recs.length : Int))) }), (8, { tell := some (.b (false)) }), (15, { tell := some (.b (decide ((↑f.adds.length : Int) = (0 : Int) ∧ (↑f.recs.length : Int) = (0 : Int) ∧ sizeP f.gone = (0 : Int)))) })] [2] [] ⟨(told_len c40 f.adds), (told_true h_1), (told_len c78 f.recs), (told_false h_2), (by simp only [eq_true h_1, eq_false h_2, told_simp1, told_simp2, and_true, true_and, and_false, false_and, or_true, true_or, or_false, false_or, not_true_eq_false, not_false_eq_true, decide_true, decide_false, Bool.decide_eq_true])⟩ ?_
  exact ⟨rfl, by kernel_rfl⟩
  refine rg (A := _ ∧ _ ∧ (AV.b false = AV.b (decide ((↑f.adds.length : Int) = (0 : Int) ∧ (↑f.recs.length : Int) = (0 : Int) ∧ sizeP f.gone = (0 : Int))))) cx [(2, { tell := some (.i .i64 ((↑f.adds.length : Int))) }), (3, { tell := some (.b (false)) }), (15, { tell := some (.b (decide ((↑f.adds.length : Int) = (0 : Int) ∧ (↑f.recs.length : Int) = (0 : Int) ∧ sizeP f.gone = (0 : Int)))) })] [2] [] ⟨(told_len c40 f.adds), (told_false h_1), (by simp only [eq_false h_1, told_simp1, told_simp2, and_true, true_and, and_false, false_and, or_true, true_or, or_false, false_or, not_true_eq_false, not_false_eq_true, decide_true, decide_false, Bool.decide_eq_true])⟩ ?_
  exact ⟨rfl, by kernel_rfl⟩
  refine sn ?_
  refine st_ret (by kernel_rfl) ?_
  refine q_ret (r := .b (decide ((↑f.adds.length : Int) = (0 : Int) ∧ (↑f.recs.length : Int) = (0 : Int) ∧ sizeP f.gone = (0 : Int)))) (obl := []) (by kernel_rfl) trivial (AVle.eq (show AV.b (decide ((↑f.adds.length : Int) = (0 : Int) ∧ (↑f.recs.length : Int) = (0 : Int) ∧ sizeP f.gone = (0 : Int))) = AV.b (empF f) from ?g1)); rotate_left 1
  revert h_1 h_2; rotate_left
  rotate_left
  case g0 => intros; exact hb.1.1
  case g1 => exact congrArg AV.b (decide_eq_decide.2 ⟨fun h => ⟨by omega, by omega, h.2.2⟩, fun h => ⟨by omega, by omega, h.2.2⟩⟩)
theorem con9 (f : Facts) (hb : szF f) : Con Try.prog 9 [.agg (c38 f)] (.i .i64 (evE f)) :=
  by
  refine st_con tab_ok (by kernel_rfl) [.tmp 2] 60 Go.Proofs.Try.func9 (by kernel_rfl) (by kernel_rfl) ?_
  intro e0 cx
  refine sq ?_
  refine rg (A := True) cx [] [1] [1] trivial ?_
  refine sn ?_
  refine sq ?_
  refine sq ?_
  refine rg (A := _ ∧ ((AV.b !okF f) = AV.b (decide ¬okF f = true))) cx [(1, { val := some (.b (okF f)) }), (2, { tell := some (.b (decide ¬okF f = true)) })] [1, 7] [1] ⟨(con19 (f) (by (with_reducible assumption))), (told_not)⟩ ?_
  refine sn ?_
  refine st_dec (¬okF f = true) (by kernel_rfl) (by kernel_rfl) (fun h_0 => ?_) (fun h_0 => ?_)
  refine sq ?_
  refine rg (A := True) cx [] [2] [] trivial ?_
  refine sn ?_
  refine st_ret (by kernel_rfl) ?_
  refine q_seq_ret ?_
  refine q_ret (r := .i .i64 ((1 : Int))) (obl := []) (by kernel_rfl) trivial (AVle.eq (show AV.i IntKind.i64 (1 : Int) = AV.i IntKind.i64 (evE f) from ?g0)); rotate_left 1
  refine st_skip (by kernel_rfl) ?_
  refine sn ?_
  refine sq ?_
  refine rg (A := _) cx [(2, { val := some (.b (decide (sizeP f.gone = (0 : Int)))) })] [1, 3] [1] (con20 (f.gone) ?g1) ?_; rotate_left 1
  refine sn ?_
  refine sq ?_
  refine st_block 0 (by kernel_rfl) ?_
  refine sq ?_
  refine st_join (σ' := ⟨[(1, .ptr (1) (0) (0) (0)), (3, .b (decide (sizeP f.gone = (0 : Int)))), (11, .b (decide ((↑f.adds.length : Int) = (1 : Int) ∧ (↑f.recs.length : Int) = (0 : Int))))], [(1, ⟨0, 38, .var [.sl (List.map c40 f.adds), .sl (List.map c3 f.gone.vec), .sl (List.map c50 f.gone.cloud), .sl (List.map c78 f.recs)]⟩)]⟩) ?_ ?_
  refine st_split ((↑f.adds.length : Int) = (1 : Int)) (fun h_2 => ?_) (fun h_2 => ?_)
  refine rg (A := _ ∧ _ ∧ _ ∧ (AV.b ((↑f.recs.length : Int) == (0 : Int)) = AV.b (decide ((↑f.recs.length : Int) = (0 : Int)))) ∧ (AV.b (decide ((↑f.recs.length : Int) = (0 : Int))) = AV.b (decide ((↑f.adds.length : Int) = (1 : Int) ∧ (↑f.recs.length : Int) = (0 : Int))))) cx [(2, { tell := some (.i .i64 ((↑f.adds.length : Int))) }), (3, { tell := some (.b (true)) }), (7, { tell := some (.i .i64 ((↑f.recs.length : Int))) }), (8, { tell := some (.b (decide ((↑f.recs.length : Int) = (0 : Int)))) }), (10, { tell := some (.b (decide ((↑f.adds.length : Int) = (1 : Int) ∧ (↑f.recs.length : Int) = (0 : Int)))) })] [1, 3, 11] [1] ⟨(told_len c40 f.adds), (told_true h_2), (told_len c78 f.recs), (by kernel_rfl), (by simp only [eq_true h_2, told_simp1, told_simp2, and_true, true_and, and_false, false_and, or_true, true_or, or_false, false_or, not_true_eq_false, not_false_eq_true, decide_true, decide_false, Bool.decide_eq_true])⟩ ?_
  exact ⟨rfl, by kernel_rfl⟩
  refine rg (A := _ ∧ _ ∧ (AV.b false = AV.b (decide ((↑f.adds.length : Int) = (1 : Int) ∧ (↑f.recs.length : Int) = (0 : Int))))) cx [(2, { tell := some (.i .i64 ((↑f.adds.length : Int))) }), (3, { tell := some (.b (false)) }), (10, { tell := some (.b (decide ((↑f.adds.length : Int) = (1 : Int) ∧ (↑f.recs.length : Int) = (0 : Int)))) })] [1, 3, 11] [1] ⟨(told_len c40 f.adds), (told_false h_2), (by simp only [eq_false h_2, told_simp1, told_simp2, and_true, true_and, and_false, false_and, or_true, true_or, or_false, false_or, not_true_eq_false, not_false_eq_true, decide_true, decide_false, Bool.decide_eq_true])⟩ ?_
  exact ⟨rfl, by kernel_rfl⟩
  refine sn ?_
  refine st_dec ((↑f.adds.length : Int) = (1 : Int) ∧ (↑f.recs.length : Int) = (0 : Int)) (by kernel_rfl) (by kernel_rfl) (fun h_3 => ?_) (fun h_3 => ?_)
  refine sq ?_
  refine rg (A := ((0 : Int) ≤ (0 : Int)) ∧ ((List.map c40 f.adds)[Int.toNat (0 : Int)]? = some (c40 f.adds[(0 : Nat)]!)) ∧ ((c40 f.adds[(0 : Nat)]!).length = (4 : Nat)) ∧ ((2 : Nat) ≤ [AV.i IntKind.i64 f.adds[(0 : Nat)]!.dot.rep, AV.i IntKind.i64 f.adds[(0 : Nat)]!.dot.num, AV.s f.adds[(0 : Nat)]!.sku, AV.i IntKind.i64 f.adds[(0 : Nat)]!.qty].length)) cx [(2, { row := (c40 f.adds[(0 : Nat)]!) })] [1, 4] [1, 4] ⟨(by omega), ?g2, (by kernel_rfl), (by (simp only [List.length_append, List.length_cons, List.length_nil]; omega))⟩ ?_; rotate_left 1
  refine sn ?_
  refine sq ?_
  refine ra (A := _ ∧ (AV.b (decide (lastP f.gone f.adds[(0 : Nat)]!.dot.rep < f.adds[(0 : Nat)]!.dot.num)) = AV.b (decide (lastP f.gone f.adds[(0 : Nat)]!.dot.rep < f.adds[(0 : Nat)]!.dot.num)))) cx [(4, { val := some (.i .i64 (lastP f.gone f.adds[(0 : Nat)]!.dot.rep)) }), (7, { tell := some (.b (decide (lastP f.gone f.adds[(0 : Nat)]!.dot.rep < f.adds[(0 : Nat)]!.dot.num))) })] [34] [] ⟨(con21 (f.gone) (f.adds[(0 : Nat)]!.dot.rep) ?g3), (by kernel_rfl)⟩ ?_; rotate_left 1
  refine sn ?_
  refine st_dec (lastP f.gone f.adds[(0 : Nat)]!.dot.rep < f.adds[(0 : Nat)]!.dot.num) (by kernel_rfl) (by kernel_rfl) (fun h_4 => ?_) (fun h_4 => ?_)
  refine sq ?_
  refine rg (A := True) cx [] [2] [] trivial ?_
  refine sn ?_
  refine st_ret (by kernel_rfl) ?_
  refine q_blk_ret ?_
  refine q_seq_ret ?_
  refine q_ret (r := .i .i64 ((0 : Int))) (obl := []) (by kernel_rfl) trivial (AVle.eq (show AV.i IntKind.i64 (0 : Int) = AV.i IntKind.i64 (evE f) from ?g4)); rotate_left 1
  refine st_skip (by kernel_rfl) ?_
  refine q_blk_normal ?_
  refine sn ?_
  refine sq ?_
  refine rg (A := True) cx [] [2] [] trivial ?_
  refine sn ?_
  refine st_ret (by kernel_rfl) ?_
  refine q_ret (r := .i .i64 ((2 : Int))) (obl := []) (by kernel_rfl) trivial (AVle.eq (show AV.i IntKind.i64 (2 : Int) = AV.i IntKind.i64 (evE f) from ?g5)); rotate_left 1
  refine sq ?_
  refine st_join (σ' := ⟨[(1, .ptr (1) (0) (0) (0)), (3, .b (decide (sizeP f.gone = (0 : Int)))), (35, .b (decide ((↑f.adds.length : Int) = (0 : Int) ∧ (↑f.recs.length : Int) = (0 : Int))))], [(1, ⟨0, 38, .var [.sl (List.map c40 f.adds), .sl (List.map c3 f.gone.vec), .sl (List.map c50 f.gone.cloud), .sl (List.map c78 f.recs)]⟩)]⟩) ?_ ?_
  refine st_split ((↑f.adds.length : Int) = (0 : Int)) (fun h_6 => ?_) (fun h_6 => ?_)
  refine rg (A := _ ∧ _ ∧ _ ∧ (AV.b ((↑f.recs.length : Int) == (0 : Int)) = AV.b (decide ((↑f.recs.length : Int) = (0 : Int)))) ∧ (AV.b (decide ((↑f.recs.length : Int) = (0 : Int))) = AV.b (decide ((↑f.adds.length : Int) = (0 : Int) ∧ (↑f.recs.length : Int) = (0 : Int))))) cx [(2, { tell := some (.i .i64 ((↑f.adds.length : Int))) }), (3, { tell := some (.b (true)) }), (7, { tell := some (.i .i64 ((↑f.recs.length : Int))) }), (8, { tell := some (.b (decide ((↑f.recs.length : Int) = (0 : Int)))) }), (10, { tell := some (.b (decide ((↑f.adds.length : Int) = (0 : Int) ∧ (↑f.recs.length : Int) = (0 : Int)))) })] [1, 3, 35] [1] ⟨(told_len c40 f.adds), (told_true h_6), (told_len c78 f.recs), (by kernel_rfl), (by simp only [eq_true h_6, told_simp1, told_simp2, and_true, true_and, and_false, false_and, or_true, true_or, or_false, false_or, not_true_eq_false, not_false_eq_true, decide_true, decide_false, Bool.decide_eq_true])⟩ ?_
  exact ⟨rfl, by kernel_rfl⟩
  refine rg (A := _ ∧ _ ∧ (AV.b false = AV.b (decide ((↑f.adds.length : Int) = (0 : Int) ∧ (↑f.recs.length : Int) = (0 : Int))))) cx [(2, { tell := some (.i .i64 ((↑f.adds.length : Int))) }), (3, { tell := some (.b (false)) }), (10, { tell := some (.b (decide ((↑f.adds.length : Int) = (0 : Int) ∧ (↑f.recs.length : Int) = (0 : Int)))) })] [1, 3, 35] [1] ⟨(told_len c40 f.adds), (told_false h_6), (by simp only [eq_false h_6, told_simp1, told_simp2, and_true, true_and, and_false, false_and, or_true, true_or, or_false, false_or, not_true_eq_false, not_false_eq_true, decide_true, decide_false, Bool.decide_eq_true])⟩ ?_
  exact ⟨rfl, by kernel_rfl⟩
  refine sn ?_
  refine st_dec ((↑f.adds.length : Int) = (0 : Int) ∧ (↑f.recs.length : Int) = (0 : Int)) (by kernel_rfl) (by kernel_rfl) (fun h_7 => ?_) (fun h_7 => ?_)
  refine sq ?_
  refine rg (A := True) cx [] [2] [] trivial ?_
  refine sn ?_
  refine st_ret (by kernel_rfl) ?_
  refine q_blk_ret ?_
  refine q_seq_ret ?_
  refine q_ret (r := .i .i64 ((0 : Int))) (obl := []) (by kernel_rfl) trivial (AVle.eq (show AV.i IntKind.i64 (0 : Int) = AV.i IntKind.i64 (evE f) from ?g6)); rotate_left 1
  refine sq ?_
  refine st_join (σ' := ⟨[(46, .b (decide ((↑f.adds.length : Int) = (0 : Int) ∧ (↑f.recs.length : Int) = (1 : Int) ∧ sizeP f.gone = (0 : Int))))], []⟩) ?_ ?_
  refine st_split ((↑f.adds.length : Int) = (0 : Int)) (fun h_9 => ?_) (fun h_9 => ?_)
  refine st_split ((↑f.recs.length : Int) = (1 : Int)) (fun h_10 => ?_) (fun h_10 => ?_)
  refine rg (A := _ ∧ _ ∧ _ ∧ _ ∧ (AV.b (decide (sizeP f.gone = (0 : Int))) = AV.b (decide ((↑f.adds.length : Int) = (0 : Int) ∧ (↑f.recs.length : Int) = (1 : Int) ∧ sizeP f.gone = (0 : Int))))) cx [(2, { tell := some (.i .i64 ((↑f.adds.length : Int))) }), (3, { tell := some (.b (true)) }), (7, { tell := some (.i .i64 ((↑f.recs.length : Int))) }), (8, { tell := some (.b (true)) }), (13, { tell := some (.b (decide ((↑f.adds.length : Int) = (0 : Int) ∧ (↑f.recs.length : Int) = (1 : Int) ∧ sizeP f.gone = (0 : Int)))) })] [46] [] ⟨(told_len c40 f.adds), (told_true h_9), (told_len c78 f.recs), (told_true h_10), (by simp only [eq_true h_9, eq_true h_10, told_simp1, told_simp2, and_true, true_and, and_false, false_and, or_true, true_or, or_false, false_or, not_true_eq_false, not_false_eq_true, decide_true, decide_false, Bool.decide_eq_true])⟩ ?_
  exact ⟨rfl, by kernel_rfl⟩
  refine rg (A := _ ∧ _ ∧ _ ∧ _ ∧ (AV.b false = AV.b (decide ((↑f.adds.length : Int) = (0 : Int) ∧ (↑f.recs.length : Int) = (1 : Int) ∧ sizeP f.gone = (0 : Int))))) cx [(2, { tell := some (.i .i64 ((↑f.adds.length : Int))) }), (3, { tell := some (.b (true)) }), (7, { tell := some (.i .i64 ((↑f.recs.length : Int))) }), (8, { tell := some (.b (false)) }), (13, { tell := some (.b (decide ((↑f.adds.length : Int) = (0 : Int) ∧ (↑f.recs.length : Int) = (1 : Int) ∧ sizeP f.gone = (0 : Int)))) })] [46] [] ⟨(told_len c40 f.adds), (told_true h_9), (told_len c78 f.recs), (told_false h_10), (by simp only [eq_true h_9, eq_false h_10, told_simp1, told_simp2, and_true, true_and, and_false, false_and, or_true, true_or, or_false, false_or, not_true_eq_false, not_false_eq_true, decide_true, decide_false, Bool.decide_eq_true])⟩ ?_
  exact ⟨rfl, by kernel_rfl⟩
  refine rg (A := _ ∧ _ ∧ (AV.b false = AV.b (decide ((↑f.adds.length : Int) = (0 : Int) ∧ (↑f.recs.length : Int) = (1 : Int) ∧ sizeP f.gone = (0 : Int))))) cx [(2, { tell := some (.i .i64 ((↑f.adds.length : Int))) }), (3, { tell := some (.b (false)) }), (13, { tell := some (.b (decide ((↑f.adds.length : Int) = (0 : Int) ∧ (↑f.recs.length : Int) = (1 : Int) ∧ sizeP f.gone = (0 : Int)))) })] [46] [] ⟨(told_len c40 f.adds), (told_false h_9), (by simp only [eq_false h_9, told_simp1, told_simp2, and_true, true_and, and_false, false_and, or_true, true_or, or_false, false_or, not_true_eq_false, not_false_eq_true, decide_true, decide_false, Bool.decide_eq_true])⟩ ?_
  exact ⟨rfl, by kernel_rfl⟩
  refine sn ?_
  refine st_dec ((↑f.adds.length : Int) = (0 : Int) ∧ (↑f.recs.length : Int) = (1 : Int) ∧ sizeP f.gone = (0 : Int)) (by kernel_rfl) (by kernel_rfl) (fun h_11 => ?_) (fun h_11 => ?_)
  refine sq ?_
  refine rg (A := True) cx [] [2] [] trivial ?_
  refine sn ?_
  refine st_ret (by kernel_rfl) ?_
  refine q_blk_ret ?_
  refine q_seq_ret ?_
  refine q_ret (r := .i .i64 ((0 : Int))) (obl := []) (by kernel_rfl) trivial (AVle.eq (show AV.i IntKind.i64 (0 : Int) = AV.i IntKind.i64 (evE f) from ?g7)); rotate_left 1
  refine st_skip (by kernel_rfl) ?_
  refine q_blk_normal ?_
  refine sn ?_
  refine sq ?_
  refine rg (A := True) cx [] [2] [] trivial ?_
  refine sn ?_
  refine st_ret (by kernel_rfl) ?_
  refine q_ret (r := .i .i64 ((2 : Int))) (obl := []) (by kernel_rfl) trivial (AVle.eq (show AV.i IntKind.i64 (2 : Int) = AV.i IntKind.i64 (evE f) from ?g8)); rotate_left 1
  revert h_0; rotate_left
  revert h_0; rotate_left
  revert h_0 h_3; rotate_left
  revert h_0 h_3; rotate_left
  revert h_0 h_3 h_4; rotate_left
  revert h_0 h_3 h_4; rotate_left
  revert h_0 h_3 h_7; rotate_left
  revert h_0 h_3 h_7 h_11; rotate_left
  revert h_0 h_3 h_7 h_11; rotate_left
  case g0 => intro h; unfold evE; rw [if_pos (no_true h)]
  case g1 => intros; exact hb.1.1
  case g2 => intro h k; exact head_get k.1
  case g3 => intros; exact hb.1.1
  case g4 => intro h k m; unfold evE; rw [if_neg (yes_true h), if_pos (by omega), if_pos m]
  case g5 => intro h k m; unfold evE; rw [if_neg (yes_true h), if_pos (by omega), if_neg m]
  case g6 => intro h k m; unfold evE; rw [if_neg (yes_true h), if_neg (by omega), if_pos (by omega)]
  case g7 => intro h k m n; unfold evE; rw [if_neg (yes_true h), if_neg (by omega), if_neg (by omega), if_pos (by omega)]
  case g8 => intro h k m n; unfold evE; rw [if_neg (yes_true h), if_neg (by omega), if_neg (by omega), if_neg (by omega)]
theorem con11 (f : Facts) (hb : szF f) : Con Try.prog 11 [.agg (c38 f)] (.i .i64 (evE f)) :=
  by
  refine st_con tab_ok (by kernel_rfl) [.tmp 2] 64 Go.Proofs.Try.func11 (by kernel_rfl) (by kernel_rfl) ?_
  intro e0 cx
  refine sq ?_
  refine rg (A := True) cx [] [1] [1] trivial ?_
  refine sn ?_
  refine sq ?_
  refine sq ?_
  refine rg (A := _ ∧ ((AV.b !okF f) = AV.b (decide ¬okF f = true))) cx [(1, { val := some (.b (okF f)) }), (2, { tell := some (.b (decide ¬okF f = true)) })] [1, 6] [1] ⟨(con22 (f) (by (with_reducible assumption))), (told_not)⟩ ?_
  refine sn ?_
  refine st_dec (¬okF f = true) (by kernel_rfl) (by kernel_rfl) (fun h_0 => ?_) (fun h_0 => ?_)
  refine sq ?_
  refine rg (A := True) cx [] [2] [] trivial ?_
  refine sn ?_
  refine st_ret (by kernel_rfl) ?_
  refine q_seq_ret ?_
  refine q_ret (r := .i .i64 ((1 : Int))) (obl := []) (by kernel_rfl) trivial (AVle.eq (show AV.i IntKind.i64 (1 : Int) = AV.i IntKind.i64 (evE f) from ?g0)); rotate_left 1
  refine st_skip (by kernel_rfl) ?_
  refine sn ?_
  refine sq ?_
  refine rg (A := _ ∧ ((AV.b !decide (sizeP f.gone = (0 : Int))) = AV.b (decide ¬sizeP f.gone = (0 : Int)))) cx [(2, { val := some (.b (decide (sizeP f.gone = (0 : Int)))) }), (3, { tell := some (.b (decide ¬sizeP f.gone = (0 : Int))) })] [1, 3] [1] ⟨(con23 (f.gone) ?g1), (told_notd)⟩ ?_; rotate_left 1
  refine sn ?_
  refine sq ?_
  refine st_block 0 (by kernel_rfl) ?_
  refine sq ?_
  refine st_join (σ' := ⟨[(1, .ptr (1) (0) (0) (0)), (3, .b (decide ¬sizeP f.gone = (0 : Int))), (11, .b (decide ((↑f.adds.length : Int) = (1 : Int) ∧ (↑f.recs.length : Int) = (0 : Int))))], [(1, ⟨0, 38, .var [.sl (List.map c40 f.adds), .sl (List.map c3 f.gone.vec), .sl (List.map c50 f.gone.cloud), .sl (List.map c78 f.recs)]⟩)]⟩) ?_ ?_
  refine st_split ((↑f.adds.length : Int) = (1 : Int)) (fun h_2 => ?_) (fun h_2 => ?_)
  refine rg (A := _ ∧ _ ∧ _ ∧ (AV.b ((↑f.recs.length : Int) == (0 : Int)) = AV.b (decide ((↑f.recs.length : Int) = (0 : Int)))) ∧ (AV.b (decide ((↑f.recs.length : Int) = (0 : Int))) = AV.b (decide ((↑f.adds.length : Int) = (1 : Int) ∧ (↑f.recs.length : Int) = (0 : Int))))) cx [(2, { tell := some (.i .i64 ((↑f.adds.length : Int))) }), (3, { tell := some (.b (true)) }), (7, { tell := some (.i .i64 ((↑f.recs.length : Int))) }), (8, { tell := some (.b (decide ((↑f.recs.length : Int) = (0 : Int)))) }), (10, { tell := some (.b (decide ((↑f.adds.length : Int) = (1 : Int) ∧ (↑f.recs.length : Int) = (0 : Int)))) })] [1, 3, 11] [1] ⟨(told_len c40 f.adds), (told_true h_2), (told_len c78 f.recs), (by kernel_rfl), (by simp only [eq_true h_2, told_simp1, told_simp2, and_true, true_and, and_false, false_and, or_true, true_or, or_false, false_or, not_true_eq_false, not_false_eq_true, decide_true, decide_false, Bool.decide_eq_true])⟩ ?_
  exact ⟨rfl, by kernel_rfl⟩
  refine rg (A := _ ∧ _ ∧ (AV.b false = AV.b (decide ((↑f.adds.length : Int) = (1 : Int) ∧ (↑f.recs.length : Int) = (0 : Int))))) cx [(2, { tell := some (.i .i64 ((↑f.adds.length : Int))) }), (3, { tell := some (.b (false)) }), (10, { tell := some (.b (decide ((↑f.adds.length : Int) = (1 : Int) ∧ (↑f.recs.length : Int) = (0 : Int)))) })] [1, 3, 11] [1] ⟨(told_len c40 f.adds), (told_false h_2), (by simp only [eq_false h_2, told_simp1, told_simp2, and_true, true_and, and_false, false_and, or_true, true_or, or_false, false_or, not_true_eq_false, not_false_eq_true, decide_true, decide_false, Bool.decide_eq_true])⟩ ?_
  exact ⟨rfl, by kernel_rfl⟩
  refine sn ?_
  refine st_dec ((↑f.adds.length : Int) = (1 : Int) ∧ (↑f.recs.length : Int) = (0 : Int)) (by kernel_rfl) (by kernel_rfl) (fun h_3 => ?_) (fun h_3 => ?_)
  refine sq ?_
  refine sq ?_
  refine ra (A := ((0 : Int) ≤ (0 : Int)) ∧ ((List.map c40 f.adds)[Int.toNat (0 : Int)]? = some (c40 f.adds[(0 : Nat)]!)) ∧ ((c40 f.adds[(0 : Nat)]!).length = (4 : Nat)) ∧ _ ∧ ((0 : Int) ≤ (0 : Int)) ∧ ((List.map c40 f.adds)[Int.toNat (0 : Int)]? = some (c40 f.adds[(0 : Nat)]!)) ∧ ((c40 f.adds[(0 : Nat)]!).length = (4 : Nat)) ∧ (AV.b (decide (lastP f.gone f.adds[(0 : Nat)]!.dot.rep ≥ f.adds[(0 : Nat)]!.dot.num)) = AV.b (decide (f.adds[(0 : Nat)]!.dot.num ≤ lastP f.gone f.adds[(0 : Nat)]!.dot.rep)))) cx [(4, { row := (c40 f.adds[(0 : Nat)]!) }), (8, { val := some (.i .i64 (lastP f.gone f.adds[(0 : Nat)]!.dot.rep)) }), (11, { row := (c40 f.adds[(0 : Nat)]!) }), (15, { tell := some (.b (decide (f.adds[(0 : Nat)]!.dot.num ≤ lastP f.gone f.adds[(0 : Nat)]!.dot.rep))) })] [37] [] ⟨(by omega), ?g2, (by kernel_rfl), (con18 (f.gone) (f.adds[(0 : Nat)]!.dot.rep) ?g3), (by omega), ?g4, (by kernel_rfl), (by kernel_rfl)⟩ ?_; rotate_left 3
  refine sn ?_
  refine st_dec (f.adds[(0 : Nat)]!.dot.num ≤ lastP f.gone f.adds[(0 : Nat)]!.dot.rep) (by kernel_rfl) (by kernel_rfl) (fun h_4 => ?_) (fun h_4 => ?_)
  refine sq ?_
  refine rg (A := True) cx [] [2] [] trivial ?_
  refine sn ?_
  refine st_ret (by kernel_rfl) ?_
  refine q_seq_ret ?_
  refine q_blk_ret ?_
  refine q_seq_ret ?_
  refine q_ret (r := .i .i64 ((2 : Int))) (obl := []) (by kernel_rfl) trivial (AVle.eq (show AV.i IntKind.i64 (2 : Int) = AV.i IntKind.i64 (evE f) from ?g5)); rotate_left 1
  refine st_skip (by kernel_rfl) ?_
  refine sn ?_
  refine sq ?_
  refine rg (A := True) cx [] [2] [] trivial ?_
  refine sn ?_
  refine st_ret (by kernel_rfl) ?_
  refine q_blk_ret ?_
  refine q_seq_ret ?_
  refine q_ret (r := .i .i64 ((0 : Int))) (obl := []) (by kernel_rfl) trivial (AVle.eq (show AV.i IntKind.i64 (0 : Int) = AV.i IntKind.i64 (evE f) from ?g6)); rotate_left 1
  refine sq ?_
  refine st_join (σ' := ⟨[(1, .ptr (1) (0) (0) (0)), (3, .b (decide ¬sizeP f.gone = (0 : Int))), (38, .b (decide ((↑f.adds.length : Int) = (0 : Int) ∧ (↑f.recs.length : Int) = (0 : Int))))], [(1, ⟨0, 38, .var [.sl (List.map c40 f.adds), .sl (List.map c3 f.gone.vec), .sl (List.map c50 f.gone.cloud), .sl (List.map c78 f.recs)]⟩)]⟩) ?_ ?_
  refine st_split ((↑f.adds.length : Int) = (0 : Int)) (fun h_6 => ?_) (fun h_6 => ?_)
  refine rg (A := _ ∧ _ ∧ _ ∧ (AV.b ((↑f.recs.length : Int) == (0 : Int)) = AV.b (decide ((↑f.recs.length : Int) = (0 : Int)))) ∧ (AV.b (decide ((↑f.recs.length : Int) = (0 : Int))) = AV.b (decide ((↑f.adds.length : Int) = (0 : Int) ∧ (↑f.recs.length : Int) = (0 : Int))))) cx [(2, { tell := some (.i .i64 ((↑f.adds.length : Int))) }), (3, { tell := some (.b (true)) }), (7, { tell := some (.i .i64 ((↑f.recs.length : Int))) }), (8, { tell := some (.b (decide ((↑f.recs.length : Int) = (0 : Int)))) }), (10, { tell := some (.b (decide ((↑f.adds.length : Int) = (0 : Int) ∧ (↑f.recs.length : Int) = (0 : Int)))) })] [1, 3, 38] [1] ⟨(told_len c40 f.adds), (told_true h_6), (told_len c78 f.recs), (by kernel_rfl), (by simp only [eq_true h_6, told_simp1, told_simp2, and_true, true_and, and_false, false_and, or_true, true_or, or_false, false_or, not_true_eq_false, not_false_eq_true, decide_true, decide_false, Bool.decide_eq_true])⟩ ?_
  exact ⟨rfl, by kernel_rfl⟩
  refine rg (A := _ ∧ _ ∧ (AV.b false = AV.b (decide ((↑f.adds.length : Int) = (0 : Int) ∧ (↑f.recs.length : Int) = (0 : Int))))) cx [(2, { tell := some (.i .i64 ((↑f.adds.length : Int))) }), (3, { tell := some (.b (false)) }), (10, { tell := some (.b (decide ((↑f.adds.length : Int) = (0 : Int) ∧ (↑f.recs.length : Int) = (0 : Int)))) })] [1, 3, 38] [1] ⟨(told_len c40 f.adds), (told_false h_6), (by simp only [eq_false h_6, told_simp1, told_simp2, and_true, true_and, and_false, false_and, or_true, true_or, or_false, false_or, not_true_eq_false, not_false_eq_true, decide_true, decide_false, Bool.decide_eq_true])⟩ ?_
  exact ⟨rfl, by kernel_rfl⟩
  refine sn ?_
  refine st_dec ((↑f.adds.length : Int) = (0 : Int) ∧ (↑f.recs.length : Int) = (0 : Int)) (by kernel_rfl) (by kernel_rfl) (fun h_7 => ?_) (fun h_7 => ?_)
  refine sq ?_
  refine rg (A := True) cx [] [2] [] trivial ?_
  refine sn ?_
  refine st_ret (by kernel_rfl) ?_
  refine q_blk_ret ?_
  refine q_seq_ret ?_
  refine q_ret (r := .i .i64 ((0 : Int))) (obl := []) (by kernel_rfl) trivial (AVle.eq (show AV.i IntKind.i64 (0 : Int) = AV.i IntKind.i64 (evE f) from ?g7)); rotate_left 1
  refine sq ?_
  refine st_join (σ' := ⟨[(49, .b (decide ((↑f.adds.length : Int) = (0 : Int) ∧ (↑f.recs.length : Int) = (1 : Int) ∧ ¬¬sizeP f.gone = (0 : Int))))], []⟩) ?_ ?_
  refine st_split ((↑f.adds.length : Int) = (0 : Int)) (fun h_9 => ?_) (fun h_9 => ?_)
  refine st_split ((↑f.recs.length : Int) = (1 : Int)) (fun h_10 => ?_) (fun h_10 => ?_)
  refine rg (A := _ ∧ _ ∧ _ ∧ _ ∧ ((AV.b !decide ¬sizeP f.gone = (0 : Int)) = AV.b (decide ¬¬sizeP f.gone = (0 : Int))) ∧ (AV.b (decide ¬¬sizeP f.gone = (0 : Int)) = AV.b (decide ((↑f.adds.length : Int) = (0 : Int) ∧ (↑f.recs.length : Int) = (1 : Int) ∧ ¬¬sizeP f.gone = (0 : Int))))) cx [(2, { tell := some (.i .i64 ((↑f.adds.length : Int))) }), (3, { tell := some (.b (true)) }), (7, { tell := some (.i .i64 ((↑f.recs.length : Int))) }), (8, { tell := some (.b (true)) }), (12, { tell := some (.b (decide ¬¬sizeP f.gone = (0 : Int))) }), (14, { tell := some (.b (decide ((↑f.adds.length : Int) = (0 : Int) ∧ (↑f.recs.length : Int) = (1 : Int) ∧ ¬¬sizeP f.gone = (0 : Int)))) })] [49] [] ⟨(told_len c40 f.adds), (told_true h_9), (told_len c78 f.recs), (told_true h_10), (told_notd), (by simp only [eq_true h_9, eq_true h_10, told_simp1, told_simp2, and_true, true_and, and_false, false_and, or_true, true_or, or_false, false_or, not_true_eq_false, not_false_eq_true, decide_true, decide_false, Bool.decide_eq_true])⟩ ?_
  exact ⟨rfl, by kernel_rfl⟩
  refine rg (A := _ ∧ _ ∧ _ ∧ _ ∧ (AV.b false = AV.b (decide ((↑f.adds.length : Int) = (0 : Int) ∧ (↑f.recs.length : Int) = (1 : Int) ∧ ¬¬sizeP f.gone = (0 : Int))))) cx [(2, { tell := some (.i .i64 ((↑f.adds.length : Int))) }), (3, { tell := some (.b (true)) }), (7, { tell := some (.i .i64 ((↑f.recs.length : Int))) }), (8, { tell := some (.b (false)) }), (14, { tell := some (.b (decide ((↑f.adds.length : Int) = (0 : Int) ∧ (↑f.recs.length : Int) = (1 : Int) ∧ ¬¬sizeP f.gone = (0 : Int)))) })] [49] [] ⟨(told_len c40 f.adds), (told_true h_9), (told_len c78 f.recs), (told_false h_10), (by simp only [eq_true h_9, eq_false h_10, told_simp1, told_simp2, and_true, true_and, and_false, false_and, or_true, true_or, or_false, false_or, not_true_eq_false, not_false_eq_true, decide_true, decide_false, Bool.decide_eq_true])⟩ ?_
  exact ⟨rfl, by kernel_rfl⟩
  refine rg (A := _ ∧ _ ∧ (AV.b false = AV.b (decide ((↑f.adds.length : Int) = (0 : Int) ∧ (↑f.recs.length : Int) = (1 : Int) ∧ ¬¬sizeP f.gone = (0 : Int))))) cx [(2, { tell := some (.i .i64 ((↑f.adds.length : Int))) }), (3, { tell := some (.b (false)) }), (14, { tell := some (.b (decide ((↑f.adds.length : Int) = (0 : Int) ∧ (↑f.recs.length : Int) = (1 : Int) ∧ ¬¬sizeP f.gone = (0 : Int)))) })] [49] [] ⟨(told_len c40 f.adds), (told_false h_9), (by simp only [eq_false h_9, told_simp1, told_simp2, and_true, true_and, and_false, false_and, or_true, true_or, or_false, false_or, not_true_eq_false, not_false_eq_true, decide_true, decide_false, Bool.decide_eq_true])⟩ ?_
  exact ⟨rfl, by kernel_rfl⟩
  refine sn ?_
  refine st_dec ((↑f.adds.length : Int) = (0 : Int) ∧ (↑f.recs.length : Int) = (1 : Int) ∧ ¬¬sizeP f.gone = (0 : Int)) (by kernel_rfl) (by kernel_rfl) (fun h_11 => ?_) (fun h_11 => ?_)
  refine sq ?_
  refine rg (A := True) cx [] [2] [] trivial ?_
  refine sn ?_
  refine st_ret (by kernel_rfl) ?_
  refine q_blk_ret ?_
  refine q_seq_ret ?_
  refine q_ret (r := .i .i64 ((0 : Int))) (obl := []) (by kernel_rfl) trivial (AVle.eq (show AV.i IntKind.i64 (0 : Int) = AV.i IntKind.i64 (evE f) from ?g8)); rotate_left 1
  refine st_skip (by kernel_rfl) ?_
  refine q_blk_normal ?_
  refine sn ?_
  refine sq ?_
  refine rg (A := True) cx [] [2] [] trivial ?_
  refine sn ?_
  refine st_ret (by kernel_rfl) ?_
  refine q_ret (r := .i .i64 ((2 : Int))) (obl := []) (by kernel_rfl) trivial (AVle.eq (show AV.i IntKind.i64 (2 : Int) = AV.i IntKind.i64 (evE f) from ?g9)); rotate_left 1
  revert h_0; rotate_left
  revert h_0; rotate_left
  revert h_0 h_3; rotate_left
  revert h_0 h_3; rotate_left
  revert h_0 h_3; rotate_left
  revert h_0 h_3 h_4; rotate_left
  revert h_0 h_3 h_4; rotate_left
  revert h_0 h_3 h_7; rotate_left
  revert h_0 h_3 h_7 h_11; rotate_left
  revert h_0 h_3 h_7 h_11; rotate_left
  case g0 => intro h; unfold evE; rw [if_pos (no_true h)]
  case g1 => intros; exact hb.1.1
  case g2 => intro h k; exact head_get k.1
  case g3 => intros; exact hb.1.1
  case g4 => intro h k; exact head_get k.1
  case g5 => intro h k m; unfold evE; rw [if_neg (yes_true h), if_pos (by omega), if_neg (by omega)]
  case g6 => intro h k m; unfold evE; rw [if_neg (yes_true h), if_pos (by omega), if_pos (by omega)]
  case g7 => intro h k m; unfold evE; rw [if_neg (yes_true h), if_neg (by omega), if_pos (by omega)]
  case g8 => intro h k m n; unfold evE; rw [if_neg (yes_true h), if_neg (by omega), if_neg (by omega), if_pos (by omega)]
  case g9 => intro h k m n; unfold evE; rw [if_neg (yes_true h), if_neg (by omega), if_neg (by omega), if_neg (by omega)]
end Go.Proofs.Ytaiepnaokhpmcaa
namespace Go.Proofs.Ytaiepnaokhpmcaa
open Go.E
set_option maxRecDepth 100000
set_option maxHeartbeats 4000000
def twoE : List Entry := [⟨⟨0, 1⟩, ⟨#[65]⟩, 5⟩, ⟨⟨1, 2⟩, ⟨#[65]⟩, 7⟩]
theorem nxt_seven : nxtV ⟨[7], []⟩ 0 9 = (⟨0, 8⟩, 0) := by decide +kernel
theorem ev_two : evE ⟨twoE, ⟨[], []⟩, []⟩ = 2 := by decide +kernel
theorem emp_none : empF ⟨[], ⟨[], []⟩, []⟩ = true := by decide +kernel
theorem con3 (a : Actn) (rep count : Int) (hb : szP a.past) : Con Try.prog 3 [.agg (c27 a), .i .i64 rep, .i .i64 count] (.b true) :=
  by
  refine st_con tab_ok (by kernel_rfl) [.tmp 6] 60 Go.Proofs.Try.func3 (by kernel_rfl) (by kernel_rfl) ?_
  intro e0 cx
  refine sq ?_
  refine rg (A := True) cx [] [1, 2, 3] [3] trivial ?_
  refine sn ?_
  refine sq ?_
  refine rg (A := (Con Try.prog (5 : Nat) [AV.agg [AV.sl (List.map c3 [(7 : Int)]), AV.nl], AV.i IntKind.i64 (0 : Int), AV.i IntKind.i64 (9 : Int)] (AV.tup [AV.agg [AV.i IntKind.i64 (0 : Int), AV.i IntKind.i64 (8 : Int)], AV.i IntKind.i64 (0 : Int)]))) cx [(2, { val := some (.tup [.agg [.i .i64 ((0 : Int)), .i .i64 ((8 : Int))], .i .i64 ((0 : Int))]) })] [1, 2, 3, 7, 8] [3, 7] (Con.le (cast (by kernel_rfl) (con5 ({ vec := [(7 : Int)], cloud := [] : Past }) ((0 : Int)) ((9 : Int)) ?g0) : Con Try.prog (5 : FuncId) [AV.agg (c25 { vec := [(7 : Int)], cloud := [] : Past }), AV.i IntKind.i64 (0 : Int), AV.i IntKind.i64 (9 : Int)] (AV.tup [AV.agg [AV.i IntKind.i64 (0 : Int), AV.i IntKind.i64 (8 : Int)], AV.i IntKind.i64 (0 : Int)])) (ZLe.cons (AVle.agg (ZLe.cons (AVle.refl _) (ZLe.cons AVle.nl ZLe.nil))) (ZLe.cons (AVle.refl _) (ZLe.cons (AVle.refl _) ZLe.nil)))) ?_; rotate_left 1
  refine sn ?_
  refine sq ?_
  refine sq ?_
  refine rg (A := (Con Try.prog (6 : Nat) [AV.agg [AV.i IntKind.i64 (7 : Int), AV.s { data := #[] : ByteArray }, AV.i IntKind.i64 (0 : Int), AV.nl, AV.nl]] (AV.i IntKind.i64 (7 : Int)))) cx [(9, { val := some (.i .i64 ((7 : Int))) })] [1, 2, 3, 7, 29] [3, 7] (Con.le (con6 ({ kind := (7 : Int), sku := { data := #[] : ByteArray }, qty := (0 : Int), past := { vec := [], cloud := [] : Past } : Actn }) ?g1) (ZLe.cons (AVle.agg (ZLe.cons (AVle.refl _) (ZLe.cons (AVle.refl _) (ZLe.cons (AVle.refl _) (ZLe.cons AVle.nl (ZLe.cons AVle.nl ZLe.nil)))))) ZLe.nil)) ?_; rotate_left 1
  refine sn ?_
  refine st_false (by kernel_rfl) (by kernel_rfl) ?_
  refine st_skip (by kernel_rfl) ?_
  refine sn ?_
  refine sq ?_
  refine rg (A := _) cx [(1, { val := some (.i .i64 (actE a)) })] [1, 2, 3, 7, 9] [3, 7] (con7 (a) (by (with_reducible assumption))) ?_
  refine sn ?_
  refine sq ?_
  refine rg (A := _) cx [(4, { val := some (.tup [.agg [.i .i64 ((nxtV a.past rep count).fst.rep), .i .i64 ((nxtV a.past rep count).fst.num)], .i .i64 ((nxtV a.past rep count).snd)]) })] [1, 2, 3, 7, 9, 10, 11] [3, 7, 10] (con8 (a.past) (rep) (count) (by (with_reducible assumption))) ?_
  refine sn ?_
  refine sq ?_
  refine sq ?_
  refine rg (A := _ ∧ (AV.b (actE a != actE a) = AV.b false)) cx [(1, { val := some (.i .i64 (actE a)) }), (3, { tell := some (.b (false)) })] [1, 2, 3, 7, 10, 11, 43] [3, 7, 10] ⟨(con6 (a) (by (with_reducible assumption))), (told_ins)⟩ ?_
  refine sn ?_
  refine st_false (by kernel_rfl) (by kernel_rfl) ?_
  refine st_skip (by kernel_rfl) ?_
  refine sn ?_
  refine sq ?_
  refine rg (A := _) cx [(4, { val := some (.tup [.agg [.i .i64 ((nxtV a.past rep count).fst.rep), .i .i64 ((nxtV a.past rep count).fst.num)], .i .i64 ((nxtV a.past rep count).snd)]) })] [7, 10, 11, 8] [7, 10] (con5 (a.past) (rep) (count) (by (with_reducible assumption))) ?_
  refine sn ?_
  refine sq ?_
  refine rg (A := (AggEq Try.prog (29 : Nat) [AV.i IntKind.i64 (nxtV a.past rep count).fst.rep, AV.i IntKind.i64 (nxtV a.past rep count).fst.num] [AV.i IntKind.i64 (nxtV a.past rep count).fst.rep, AV.i IntKind.i64 (nxtV a.past rep count).fst.num] true) ∧ (AV.b ((nxtV a.past rep count).snd == (nxtV a.past rep count).snd) = AV.b true)) cx [(2, { val := some (.b (true)) }), (6, { tell := some (.b (true)) })] [6] [] ⟨(aggEq_true (eq29 (nxtV a.past rep count).fst (nxtV a.past rep count).fst) (Eq.refl (nxtV a.past rep count).fst)), (told_ies)⟩ ?_
  refine sn ?_
  refine st_ret (by kernel_rfl) ?_
  exact q_ret (r := .b (true)) (obl := []) (by kernel_rfl) trivial (AVle.refl _)
  case g0 => exact ⟨by decide, by decide⟩
  case g1 => exact ⟨by decide, by decide⟩
theorem con4 (f : Facts) (hb : szF f) : Con Try.prog 4 [.agg (c38 f)] (.b true) :=
  by
  refine st_con tab_ok (by kernel_rfl) [.tmp 2] 34 Go.Proofs.Try.func4 (by kernel_rfl) (by kernel_rfl) ?_
  intro e0 cx
  refine sq ?_
  refine rg (A := True) cx [] [1] [1] trivial ?_
  refine sn ?_
  refine sq ?_
  refine rg (A := True) cx [] [1, 3] [1, 10] trivial ?_
  refine sn ?_
  refine sq ?_
  refine sq ?_
  refine rg (A := (Con Try.prog (9 : Nat) [AV.agg [AV.sl (List.map c40 [{ dot := { rep := (0 : Int), num := (1 : Int) : Dot }, sku := { data := #[(65 : UInt8)] : ByteArray }, qty := (5 : Int) : Entry }, { dot := { rep := (1 : Int), num := (2 : Int) : Dot }, sku := { data := #[(65 : UInt8)] : ByteArray }, qty := (7 : Int) : Entry }]), AV.nl, AV.nl, AV.nl]] (AV.i IntKind.i64 (2 : Int))) ∧ (Con Try.prog (10 : Nat) [AV.agg [AV.nl, AV.nl, AV.nl, AV.nl]] (AV.b true))) cx [(2, { val := some (.i .i64 ((2 : Int))) }), (6, { val := some (.b (true)) })] [1, 19] [1] ⟨(Con.le (cast (by kernel_rfl) (con9 ({ adds := [{ dot := { rep := (0 : Int), num := (1 : Int) : Dot }, sku := { data := #[(65 : UInt8)] : ByteArray }, qty := (5 : Int) : Entry }, { dot := { rep := (1 : Int), num := (2 : Int) : Dot }, sku := { data := #[(65 : UInt8)] : ByteArray }, qty := (7 : Int) : Entry }], gone := { vec := [], cloud := [] : Past }, recs := [] : Facts }) ?g0) : Con Try.prog (9 : FuncId) [AV.agg (c38 { adds := [{ dot := { rep := (0 : Int), num := (1 : Int) : Dot }, sku := { data := #[(65 : UInt8)] : ByteArray }, qty := (5 : Int) : Entry }, { dot := { rep := (1 : Int), num := (2 : Int) : Dot }, sku := { data := #[(65 : UInt8)] : ByteArray }, qty := (7 : Int) : Entry }], gone := { vec := [], cloud := [] : Past }, recs := [] : Facts })] (AV.i IntKind.i64 (2 : Int))) (ZLe.cons (AVle.agg (ZLe.cons (AVle.refl _) (ZLe.cons AVle.nl (ZLe.cons AVle.nl (ZLe.cons AVle.nl ZLe.nil))))) ZLe.nil)), (Con.le (cast (by kernel_rfl) (con10 ({ adds := [], gone := { vec := [], cloud := [] : Past }, recs := [] : Facts }) ?g1) : Con Try.prog (10 : FuncId) [AV.agg (c38 { adds := [], gone := { vec := [], cloud := [] : Past }, recs := [] : Facts })] (AV.b true)) (ZLe.cons (AVle.agg (ZLe.cons AVle.nl (ZLe.cons AVle.nl (ZLe.cons AVle.nl (ZLe.cons AVle.nl ZLe.nil))))) ZLe.nil))⟩ ?_; rotate_left 2
  refine sn ?_
  refine st_false (by kernel_rfl) (by kernel_rfl) ?_
  refine st_skip (by kernel_rfl) ?_
  refine sn ?_
  refine sq ?_
  refine ra (A := _ ∧ _) cx [(1, { val := some (.i .i64 (evE f)) }), (3, { val := some (.b (empF f)) })] [1, 4, 5] [1] ⟨(con11 (f) (by (with_reducible assumption))), (con12 (f) (by (with_reducible assumption)))⟩ ?_
  refine sn ?_
  refine sq ?_
  refine rg (A := _ ∧ (AV.b (evE f == evE f) = AV.b true) ∧ _ ∧ (AV.b (empF f == empF f) = AV.b true)) cx [(1, { val := some (.i .i64 (evE f)) }), (3, { tell := some (.b (true)) }), (6, { val := some (.b (empF f)) }), (8, { tell := some (.b (true)) })] [2] [] ⟨(con9 (f) (by (with_reducible assumption))), (told_ies), (con10 (f) (by (with_reducible assumption))), (told_beqs)⟩ ?_
  refine sn ?_
  refine st_ret (by kernel_rfl) ?_
  exact q_ret (r := .b (true)) (obl := []) (by kernel_rfl) trivial (AVle.refl _)
  case g0 => exact ⟨⟨by decide, by decide⟩, fun r hr => by cases hr⟩
  case g1 => exact ⟨⟨by decide, by decide⟩, fun r hr => by cases hr⟩
end Go.Proofs.Ytaiepnaokhpmcaa
namespace Go.E
open Go.RowKit Go.ChangeShapes Go.WideShapes Go.ChangeAt
/-- An argument of a type. -/
def TyA (T : Tab) (L n t : Nat) (av : AV) : Prop :=
  match look T t with
  | some ti => if ti.isAgg then ∃ cs, av = .agg cs ∧ TyC T L n t cs else TyC T L n t [av]
  | none => False
def TyAll (T : Tab) (L n : Nat) : List Nat → List AV → Prop
  | [], [] => True
  | t :: ts, a :: aL => TyA T L n t a ∧ TyAll T L n ts aL
  | _, _ => False
section
variable {P : Program} {T : Tab} {H : Type} {enc : TypeId × Value → H} {W : World} {spare : Nat → Bool} {held : Bool}
theorem plain_not_cell (hT : TabOk P T) {n t : Nat} {ti : TI} (hti : look T t = some ti) (hp : plainT T n t = true) (hg : ti.isAgg = false) {r : Reach} {base : Nat} {v : Value} (hv : Value.okWide P W r base t v) : v.oneCell' = true ∨ ∃ x, v = x ∧ v.cells = #[v] := by
  have hu := (hT t ti hti).1
  unfold Value.okWide at hv
  rw [hu] at hv
  cases n with
  | zero => simp [plainT] at hp
  | succ n =>
    unfold plainT at hp
    rw [hti] at hp
    simp only at hp
    unfold TI.isAgg at hg
    cases hd : ti.desc with
    | bool => rw [hd] at hv; simp only [Cell.okWide, hu, hd, Cell.ok] at hv; cases v <;> simp_all [Value.oneCell', Value.cells]
    | int k => rw [hd] at hv; simp only [Cell.okWide, hu, hd, Cell.ok] at hv; cases v <;> simp_all [Value.oneCell', Value.cells]
    | string => rw [hd] at hv; simp only [Cell.okWide, hu, hd, Cell.ok] at hv; cases v <;> simp_all [Value.oneCell', Value.cells]
    | slice e => rw [hd] at hv; simp only [Cell.okWide, hu, hd, Cell.ok] at hv; cases v <;> simp_all [Value.oneCell', Value.cells]
    | struct fs => rw [hd] at hg; simp at hg
    | array k e => rw [hd] at hg; simp at hg
    | _ => rw [hd] at hp; first | exact absurd hp Bool.false_ne_true | cases hp
theorem open_arg (hT : TabOk P T) {n t : Nat} (hp : plainT T n t = true) {r : Reach} {base : Nat} {v : Value} {d : DataW H} {ps : List MemPlace} (hv : Value.okWide P W r base t v)
    (hd : DataW.Trod enc P W 0 spare held t v d ps) (hw : ∀ m ∈ d.weights P t, m ≤ reachBytes) {L : Nat} (hL : bulkD d ≤ L) : ∃ av, RelV0 (fun k => k < W.heap.size) W av v ∧ TyA T L n t av := by
  obtain ⟨ti, hti⟩ := plain_look hp
  obtain ⟨fuel, hf⟩ := hd
  obtain ⟨avs, hc, hty⟩ := opens hT n t hp fuel _ _ _ hf hw L hL
  by_cases hg : ti.isAgg = true
  · have hu := (hT t ti hti).1
    have hv' := hv
    unfold Value.okWide at hv'
    rw [hu] at hv'
    have : ∃ cs, v = .agg cs := by
      unfold TI.isAgg at hg
      split at hg
      · rename_i fs hd; rw [hd] at hv'; obtain ⟨cs, h, _⟩ := hv'; exact ⟨cs, h⟩
      · rename_i k e hd; rw [hd] at hv'; obtain ⟨cs, h, _⟩ := hv'; exact ⟨cs, h⟩
      · cases hg
    obtain ⟨cs, rfl⟩ := this
    refine ⟨.agg avs, ?_, by unfold TyA; rw [hti]; simp only [hg, if_true]; exact ⟨avs, rfl, hty⟩⟩
    have := RelV0.agg (S := fun k => k < W.heap.size) (w := W) avs cs.toList (by rw [hc.1]; simp [Value.cells]) (fun u hu => hc.2.1 u (by simpa [Value.cells] using hu)) (fun j a u ha hu => hc.2.2 j a u ha (by simpa [Value.cells] using hu))
    simpa using this
  · have hg' : ti.isAgg = false := by simpa using hg
    have h1 : v.cells.toList = [v] := by
      rcases plain_not_cell hT hti hp hg' hv with h | ⟨_, _, h⟩
      · cases v <;> simp_all [Value.oneCell', Value.cells]
      · rw [h]
    rw [h1] at hc
    obtain ⟨c1, _, c3⟩ := hc
    match avs, c1, c3, hty with
    | [a], _, c3, hty => exact ⟨a, c3 0 a v rfl rfl, by unfold TyA; rw [hti]; simp only [hg', Bool.false_eq_true, if_false]; exact hty⟩
theorem open_args (hT : TabOk P T) {L n : Nat} {r : Reach} {base : Nat} : ∀ (ts : List Nat) (vs : List Value) (ds : List (DataW H)) (ps : List MemPlace), (∀ t ∈ ts, plainT T n t = true) →
    (∀ (j : Nat) t v, ts[j]? = some t → vs[j]? = some v → Value.okWide P W r base t v) → DataW.TrodAll enc P W 0 spare held ts vs ds ps → (∀ m ∈ DataW.weightsEach P ts ds, m ≤ reachBytes) → bulkDs ds ≤ L →
    ∃ avs : List AV, avs.length = vs.length ∧ (∀ (j : Nat) (a : AV) (u : Value), avs[j]? = some a → vs[j]? = some u → RelV0 (fun k => k < W.heap.size) W a u) ∧ TyAll T L n ts avs ∧ ds.length = ts.length
  | [], [], [], ps, _, _, _, _, _ => ⟨[], rfl, fun j a u ha => by simp at ha, trivial, rfl⟩
  | t :: ts, v :: vs, d :: ds, ps, hp, hv, hA, hw, hL => by
    simp only [bulkDs] at hL
    obtain ⟨p, q, h1, h2, _⟩ := hA
    obtain ⟨a, e1, e2⟩ := open_arg hT (hp t (by simp)) (hv 0 t v rfl rfl) h1 (fun m hm => hw m (by simp only [DataW.weightsEach, List.mem_append]; exact .inl hm)) (L := L) (by omega)
    obtain ⟨aL, f1, f2, f3, f4⟩ := open_args (L := L) hT ts vs ds q (fun t ht => hp t (List.mem_cons_of_mem _ ht)) (fun j t v ht hv' => hv (j + 1) t v (by simpa using ht) (by simpa using hv')) h2 (fun m hm => hw m (by simp only [DataW.weightsEach, List.mem_append]; exact .inr hm)) (by omega)
    refine ⟨a :: aL, by simp [f1], fun j b u hb hu => ?_, ⟨e2, f3⟩, by simp [f4]⟩
    cases j with
    | zero => simp at hb hu; subst hb hu; exact e1
    | succ j => exact f2 j b u (by simpa using hb) (by simpa using hu)
  | [], _ :: _, _, _, _, _, hA, _, _ => hA.elim
  | [], [], _ :: _, _, _, _, hA, _, _ => hA.elim
  | _ :: _, [], _, _, _, _, hA, _, _ => hA.elim
  | _ :: _, _ :: _, [], _, _, _, hA, _, _ => hA.elim
theorem trodAll_stays (hl : laidOutB P = true) {W' : World} (hb : Below W.heap.size W W') : ∀ (ts : List Nat) (vs : List Value) (ds : List (DataW H)) (ps : List MemPlace), (∀ t ∈ ts, P.readableRec t = true ∧ t < P.types.size) →
    (∀ x ∈ ps, x.block < W.heap.size) → DataW.TrodAll enc P W 0 (fun _ => true) true ts vs ds ps → DataW.TrodAll enc P W' 0 (fun b => decide (b < W.heap.size)) true ts vs ds ps
  | [], [], [], ps, _, _, h => h
  | t :: ts, v :: vs, d :: ds, ps, hr, hlt, h => by
    obtain ⟨p, q, h1, h2, rfl⟩ := h
    exact ⟨p, q, Below.trod hl (hr t (by simp)).1 (hr t (by simp)).2 h1 hb (fun x hx => hlt x (List.mem_append_left _ hx)),
      trodAll_stays hl hb ts vs ds q (fun t ht => hr t (List.mem_cons_of_mem _ ht)) (fun x hx => hlt x (List.mem_append_right _ hx)) h2, rfl⟩
  | [], _ :: _, _, _, _, _, hA => hA.elim
  | [], [], _ :: _, _, _, _, hA => hA.elim
  | _ :: _, [], _, _, _, _, hA => hA.elim
  | _ :: _, _ :: _, [], _, _, _, hA => hA.elim
end
/-- What the contract gives, of one reading. -/
theorem law_core {T : Tab} {C : Checked} {f : FuncId} {fn : Func} {s : ChangeSpec} {H : Type} {enc : TypeId × Value → H} (ts : List Nat) (tb L n : Nat)
    (hT : TabOk C.prog T) (hl : laidOutB C.prog = true)
    (hts : fn.params = ts.toArray) (htb : fn.resultTypes = #[tb]) (hub : C.prog.underlying tb = some .bool) (hpl : ts.all (fun t => plainT T n t && C.prog.readableRec t && Nat.blt t C.prog.types.size) = true)
    (hvars : s.vars = []) (hspec : ∀ ds : List (DataW H), ds.length = ts.length → s.fn H (ds ++ []) = { results := [.lit (.bool true)], args := ds })
    (hcon : ∀ avs, TyAll T L n ts avs → Con C.prog f avs (.b true)) {W : World} {base : Nat} {args : Array Value} {ds gs : List (DataW H)} {before : List MemPlace} {us : List Nat}
    (hval : ∀ (j : Nat) t v, fn.params[j]? = some t → args[j]? = some v → Value.okWide C.prog W .any base t v) (hW : DataW.Whole enc C.prog fn.params.toList s.vars false W args.toList ds gs before)
    (hsz : (DataW.weightsEach C.prog (fn.params.toList ++ us) (ds ++ gs)).all (· ≤ reachBytes) = true) (hbk : bulkDs (ds ++ gs) ≤ L) :
    Calls C.prog f args W fun e W' => ∃ v, e = .returned v ∧ s.post enc C.prog fn false true false false W args v W' := by
  have hW' := hW
  obtain ⟨p, q, hA, hV, rfl, _, _⟩ := hW
  rw [hvars] at hV
  obtain ⟨rfl, rfl⟩ := trodVars_none hV
  rw [List.append_nil] at hW' hbk
  have hpars : fn.params.toList = ts := by rw [hts]
  have hA' : DataW.TrodAll enc C.prog W 0 (fun _ => true) true ts args.toList ds p := by rw [← hpars]; exact hA
  have hpl' : ∀ t ∈ ts, plainT T n t = true ∧ C.prog.readableRec t = true ∧ t < C.prog.types.size := by
    intro t ht
    have := List.all_eq_true.1 hpl t ht
    simp only [Bool.and_eq_true] at this
    exact ⟨this.1.1, this.1.2, by simpa using this.2⟩
  have hw : ∀ m ∈ DataW.weightsEach C.prog ts ds, m ≤ reachBytes := by
    intro m hm
    have hsz' := hsz
    rw [List.append_nil, hpars] at hsz'
    have hsub : ∀ (ts us : List Nat) (ds : List (DataW H)), ∀ m ∈ DataW.weightsEach C.prog ts ds, m ∈ DataW.weightsEach C.prog (ts ++ us) ds := by
      intro ts us ds
      induction ts generalizing ds with
      | nil => intro m hm; cases ds <;> simp [DataW.weightsEach] at hm
      | cons t ts ih =>
        intro m hm
        cases ds with
        | nil => simp [DataW.weightsEach] at hm
        | cons d ds =>
          simp only [DataW.weightsEach, List.cons_append, List.mem_append] at hm ⊢
          rcases hm with hm | hm
          · exact .inl hm
          · exact .inr (ih ds m hm)
    have := List.all_eq_true.1 hsz' m (hsub ts _ ds m hm)
    simpa using this
  obtain ⟨avs, h1, h2, h3, h4⟩ := open_args hT ts args.toList ds p (fun t ht => (hpl' t ht).1) (fun j t v ht hv => hval j t v (by rw [hts]; simpa using ht) (by simpa using hv)) hA' hw hbk
  have hlt : ∀ x ∈ p, x.block < W.heap.size := fun x hx => hW'.lt x hx
  have hsp := hspec ds h4
  have := (hcon avs h3).2 W (fun k => k < W.heap.size) args.toList (fun _ h => h) (by rw [h1]) h2
  rw [Array.toArray_toList] at this
  refine this.mono fun e W' ⟨v, he, hr, hb⟩ => ?_
  cases hr with
  | b =>
    refine ⟨_, he, ds, [], p, [], p, [], hW', ?_, ?_, ?_, hb.frame _, fun h => by cases h⟩
    · rw [hsp, htb]
      exact trodAll_mk1 (shut_bool hub true)
    · rw [hsp, hpars]
      exact trodAll_stays hl hb ts args.toList ds p (fun t ht => (hpl' t ht).2) hlt hA'
    · rw [hsp, hvars]
      rfl
/-- **A law's row, from its contract.** -/
theorem law_lifted {T : Tab} {C : Checked} {os : Os} {f : FuncId} {fn : Func} {s : ChangeSpec} {conds : List PathCond} {H : Type} {enc : TypeId × Value → H} (ts : List Nat) (tb n : Nat)
    (hT : TabOk C.prog T) (hl : laidOutB C.prog = true) (own : ownKnob C.prog.godebug = none) (started : os.Started) (noInit : C.prog.inits.idxOf? f = none) (hfn : C.prog.funcs[f]? = some fn)
    (hts : fn.params = ts.toArray) (htb : fn.resultTypes = #[tb]) (hub : C.prog.underlying tb = some .bool) (hpl : ts.all (fun t => plainT T n t && C.prog.readableRec t && Nat.blt t C.prog.types.size) = true)
    (hvars : s.vars = []) (hspec : ∀ ds : List (DataW H), ds.length = ts.length → s.fn H (ds ++ []) = { results := [.lit (.bool true)], args := ds })
    (witness : ∃ (w : World) (tape : Tape) (i : Input), w.os = os ∧ (w.forCall tape i).Shaped C.prog ∧ i.vars = [] ∧ Input.okWide C.prog (w.forCall tape i) .any w.heap.size f i ∧
      s.pre6 enc C.prog fn conds false (w.forCall tape i).memory i.args ∧ ({} : Assume).holds C.prog (lone (Frame.enter C.prog f i.args .normal) [] (w.forCall tape i)))
    (hcon : ∀ L avs, TyAll T L n ts avs → Con C.prog f avs (.b true)) :
    ReturnsInHanded {} C os f .any (s.pre6 enc C.prog fn conds false) (s.post enc C.prog fn false true false false) := by
  refine returnsInHanded_of_change_sized own started noInit hfn witness ?_
  intro W base args ds gs before hval hW _ hsz _
  exact law_core ts tb (bulkDs (ds ++ gs)) n hT hl hts htb hub hpl hvars hspec (hcon _) hval hW hsz (Nat.le_refl _)
/-- **The same of the second form**: where what is read is of a bounded bulk. -/
theorem law_lifted_upto {T : Tab} {C : Checked} {os : Os} {f : FuncId} {fn : Func} {s : ChangeSpec} {u : OpenSpec} {k : (H : Type) → List (DataW H) → Bool} {conds : List PathCond} {H : Type} {enc : TypeId × Value → H} (F : Stop.Interp) (ts : List Nat) (tb L n : Nat)
    (hu : u = { OpenSpec.ofChange s with cond := some k }) (hk : ∀ ds : List (DataW H), k H ds = true → bulkDs ds ≤ L)
    (hT : TabOk C.prog T) (hl : laidOutB C.prog = true) (own : ownKnob C.prog.godebug = none) (started : os.Started) (noInit : C.prog.inits.idxOf? f = none) (hfn : C.prog.funcs[f]? = some fn)
    (hts : fn.params = ts.toArray) (htb : fn.resultTypes = #[tb]) (hub : C.prog.underlying tb = some .bool) (hpl : ts.all (fun t => plainT T n t && C.prog.readableRec t && Nat.blt t C.prog.types.size) = true)
    (hvars : s.vars = []) (hspec : ∀ ds : List (DataW H), ds.length = ts.length → s.fn H (ds ++ []) = { results := [.lit (.bool true)], args := ds })
    (witness : ∃ (w : World) (tape : Tape) (i : Input), w.os = os ∧ (w.forCall tape i).Shaped C.prog ∧ i.vars = [] ∧ Input.okWide C.prog (w.forCall tape i) .any w.heap.size f i ∧
      u.pre6 enc C.prog fn conds false (w.forCall tape i).memory i.args ∧ ({} : Assume).holds C.prog (lone (Frame.enter C.prog f i.args .normal) [] (w.forCall tape i)))
    (hcon : ∀ avs, TyAll T L n ts avs → Con C.prog f avs (.b true)) :
    ReturnsInHanded {} C os f .any (u.pre6 enc C.prog fn conds false) ((u.at F).post enc C.prog fn false true false false) := by
  subst hu
  refine returnsInHanded_of_cond_sized (k := k) rfl own started noInit hfn witness ?_
  intro W base args ds gs before hval hW _ hkk hsz _
  exact law_core ts tb L n hT hl hts htb hub hpl hvars hspec hcon hval hW hsz (hk _ hkk)
theorem rows_typed {α : Type} {g : α → List AV} {Q : α → Prop} {C : List AV → Prop} (h : ∀ r, C r → ∃ x, r = g x ∧ Q x) : ∀ (rows : List (List AV)), (∀ r ∈ rows, C r) → ∃ xs : List α, rows = xs.map g ∧ ∀ x ∈ xs, Q x
  | [], _ => ⟨[], rfl, fun x hx => by simp at hx⟩
  | r :: rows, hr => by
    obtain ⟨x, h1, h2⟩ := h r (hr r (by simp))
    obtain ⟨xs, h3, h4⟩ := rows_typed h rows fun q hq => hr q (List.mem_cons_of_mem _ hq)
    refine ⟨x :: xs, by rw [h1, h3]; rfl, fun y hy => ?_⟩
    rcases List.mem_cons.1 hy with rfl | hy
    · exact h2
    · exact h4 y hy
end Go.E
namespace Go.Proofs.Ytaiepnaokhpmcaa
open Go.E
set_option maxRecDepth 100000
set_option maxHeartbeats 4000000
open Go.ChangeShapes Go.WideShapes Go.ChangeAt Go.RowKit Go
theorem Try.own : Go.ownKnob Try.prog.godebug = none := by kernel_rfl
theorem Try.laidOut : laidOutB Try.prog = true := by kernel_rfl
def inr (n : Int) : Prop := -9223372036854775808 ≤ n ∧ n ≤ 9223372036854775807
theorem ty3 {L n : Nat} {cs : List AV} (h : TyC tab L (n + 1) 3 cs) : ∃ x, cs = c3 x ∧ inr x := by
  obtain ⟨x, rfl, h1, h2⟩ := h
  exact ⟨x, rfl, h1, h2⟩
theorem ty22 {L n : Nat} {cs : List AV} (h : TyC tab L (n + 2) 22 cs) : ∃ xs : List Int, cs = c22 xs ∧ sz22 xs := by
  obtain ⟨rows, rfl, h1, h2, hL, h3⟩ := h
  obtain ⟨xs, rfl, hx⟩ := rows_typed (fun r hr => ty3 hr) rows h3
  exact ⟨xs, rfl, by rw [List.length_map] at h2; exact h2⟩
theorem ty29 {L n : Nat} {cs : List AV} (h : TyC tab L (n + 2) 29 cs) : ∃ d : Dot, cs = c29 d ∧ inr d.rep ∧ inr d.num := by
  obtain ⟨a, b, rfl, ha, c, d, rfl, hc, rfl⟩ := h
  obtain ⟨x, rfl, hx⟩ := ty3 ha
  obtain ⟨y, rfl, hy⟩ := ty3 hc
  exact ⟨⟨x, y⟩, rfl, hx, hy⟩
theorem one_eq {a b : AV} (h : [a] = [b]) : a = b := by simpa using h
theorem ta3 {L : Nat} {a : AV} (h : TyA tab L 9 3 a) : ∃ x, a = .i .i64 x ∧ inr x := by
  obtain ⟨x, hx, k⟩ := ty3 (L := L) (n := 8) (cs := [a]) h
  exact ⟨x, one_eq hx, k⟩
theorem ta22 {L : Nat} {a : AV} (h : TyA tab L 9 22 a) : ∃ x : List Int, a = .sl (x.map c3) ∧ sz22 x := by
  obtain ⟨x, hx, k⟩ := ty22 (L := L) (n := 7) (cs := [a]) h
  exact ⟨x, one_eq hx, k⟩
theorem ta29 {L : Nat} {a : AV} (h : TyA tab L 9 29 a) : ∃ x : Dot, a = .agg (c29 x) ∧ inr x.rep ∧ inr x.num := by
  obtain ⟨cs, rfl, h2⟩ := (show ∃ cs, a = .agg cs ∧ TyC tab L 9 29 cs from h)
  obtain ⟨d, rfl, k⟩ := ty29 (L := L) (n := 7) h2
  exact ⟨d, rfl, k⟩
theorem ty9 {L n : Nat} {cs : List AV} (h : TyC tab L (n + 1) 9 cs) : ∃ s : ByteArray, cs = [.s s] ∧ s.size ≤ 140737488351232 := by
  obtain ⟨s, rfl, _, h2, _⟩ := h
  exact ⟨s, rfl, h2⟩
theorem ta9 {L : Nat} {a : AV} (h : TyA tab L 9 9 a) : ∃ s : ByteArray, a = .s s ∧ s.size ≤ 140737488351232 := by
  obtain ⟨x, hx, k⟩ := ty9 (L := L) (n := 8) (cs := [a]) h
  exact ⟨x, one_eq hx, k⟩
theorem ty50 {L n : Nat} {cs : List AV} (h : TyC tab L (n + 2) 50 cs) : ∃ d : Span, cs = c50 d ∧ inr d.rep ∧ inr d.lo ∧ inr d.hi := by
  obtain ⟨a, b, rfl, ha, c, d, rfl, hc, e, f, rfl, he, rfl⟩ := h
  obtain ⟨x, rfl, hx⟩ := ty3 ha
  obtain ⟨y, rfl, hy⟩ := ty3 hc
  obtain ⟨z, rfl, hz⟩ := ty3 he
  exact ⟨⟨x, y, z⟩, rfl, hx, hy, hz⟩
def inE (e : Entry) : Prop := inr e.dot.rep ∧ inr e.dot.num ∧ e.sku.size ≤ 140737488351232 ∧ inr e.qty
theorem ty40 {L n : Nat} {cs : List AV} (h : TyC tab L (n + 3) 40 cs) : ∃ e : Entry, cs = c40 e ∧ inE e := by
  obtain ⟨a, b, rfl, ha, c, d, rfl, hc, e, f, rfl, he, rfl⟩ := h
  obtain ⟨x, rfl, hx⟩ := ty29 ha
  obtain ⟨y, rfl, hy⟩ := ty9 hc
  obtain ⟨z, rfl, hz⟩ := ty3 he
  exact ⟨⟨x, y, z⟩, rfl, hx.1, hx.2, hy, hz⟩
theorem ty35 {L n : Nat} {cs : List AV} (h : TyC tab L (n + 4) 35 cs) : ∃ xs : List Entry, cs = [.sl (xs.map c40)] ∧ ((∀ x ∈ xs, inE x) ∧ xs.length * 40 ≤ 140737488351232) ∧ xs.length ≤ L := by
  obtain ⟨rows, rfl, h1, h2, hL, h3⟩ := h
  obtain ⟨xs, rfl, hx⟩ := rows_typed (fun r hr => ty40 hr) rows h3
  exact ⟨xs, rfl, ⟨hx, by rw [List.length_map] at h2; exact h2⟩, by rw [List.length_map] at hL; exact hL⟩
theorem ta35 {L : Nat} {a : AV} (h : TyA tab L 9 35 a) : ∃ xs : List Entry, a = .sl (xs.map c40) ∧ ((∀ x ∈ xs, inE x) ∧ xs.length * 40 ≤ 140737488351232) ∧ xs.length ≤ L := by
  obtain ⟨x, hx, k⟩ := ty35 (L := L) (n := 5) (cs := [a]) h
  exact ⟨x, one_eq hx, k⟩
theorem ty23 {L n : Nat} {cs : List AV} (h : TyC tab L (n + 3) 23 cs) : ∃ xs : List Span, cs = [.sl (xs.map c50)] ∧ (∀ x ∈ xs, inr x.rep ∧ inr x.lo ∧ inr x.hi) ∧ xs.length * 24 ≤ 140737488351232 := by
  obtain ⟨rows, rfl, h1, h2, hL, h3⟩ := h
  obtain ⟨xs, rfl, hx⟩ := rows_typed (fun r hr => ty50 hr) rows h3
  exact ⟨xs, rfl, hx, by rw [List.length_map] at h2; exact h2⟩
def inP (p : Past) : Prop := p.vec.length * 8 ≤ 140737488351232 ∧ (∀ x ∈ p.cloud, inr x.rep ∧ inr x.lo ∧ inr x.hi) ∧ p.cloud.length * 24 ≤ 140737488351232
theorem ty25 {L n : Nat} {cs : List AV} (h : TyC tab L (n + 4) 25 cs) : ∃ p : Past, cs = c25 p ∧ inP p := by
  obtain ⟨a, b, rfl, ha, c, d, rfl, hc, rfl⟩ := h
  obtain ⟨x, rfl, hx⟩ := ty22 (L := L) (n := n + 1) ha
  obtain ⟨y, rfl, hy⟩ := ty23 hc
  exact ⟨⟨x, y⟩, rfl, hx, hy⟩
def inC (c : Case) : Prop := ((∀ x ∈ c.a, inE x) ∧ c.a.length * 40 ≤ 140737488351232) ∧ ((∀ x ∈ c.b, inE x) ∧ c.b.length * 40 ≤ 140737488351232) ∧ inP c.p ∧ c.sku.size ≤ 140737488351232
mutual
theorem bulk_eq {H : Type} : ∀ d : DataW H, Rows.uptoBulk d = bulkD d
  | .lit l => by cases l <;> simp [Rows.uptoBulk, bulkD]
  | .nil => by simp [Rows.uptoBulk, bulkD]
  | .ptr d => by simp only [Rows.uptoBulk, bulkD, bulk_eq d]
  | .slice elems spare => by simp only [Rows.uptoBulk, bulkD, bulks_eq elems, bulks_eq spare]
  | .agg parts => by simp only [Rows.uptoBulk, bulkD, bulks_eq parts]
  | .iface _ d => by simp only [Rows.uptoBulk, bulkD, bulk_eq d]
  | .map entries => by simp only [Rows.uptoBulk, bulkD, bulkm_eq entries]
  | .held _ => by simp [Rows.uptoBulk, bulkD]
theorem bulks_eq {H : Type} : ∀ l : List (DataW H), Rows.uptoBulkAll l = bulkDs l
  | [] => by simp [Rows.uptoBulkAll, bulkDs]
  | d :: r => by simp only [Rows.uptoBulkAll, bulkDs, bulk_eq d, bulks_eq r]
theorem bulkm_eq {H : Type} : ∀ l : List (Lit × DataW H), Rows.uptoBulkEntries l = bulkDm l
  | [] => by simp [Rows.uptoBulkEntries, bulkDm]
  | x :: r => by simp only [Rows.uptoBulkEntries, bulkDm, bulke_eq x, bulkm_eq r]
theorem bulke_eq {H : Type} : ∀ x : Lit × DataW H, Rows.uptoBulkEntry x = bulkDe x
  | (l, d) => by cases l <;> simp only [Rows.uptoBulkEntry, bulkDe, bulk_eq d]
end
theorem bulk_small {H : Type} (ds : List (DataW H)) (h : Rows.uptoSmall H ds = true) : bulkDs ds ≤ 1048576 := by
  rw [← bulks_eq]
  exact of_decide_eq_true h
end Go.Proofs.Ytaiepnaokhpmcaa
namespace Go.Proofs.Ytaiepnaokhpmcaa
open Go.E
set_option maxRecDepth 100000
set_option maxHeartbeats 4000000
def inPL (L : Nat) (p : Past) : Prop := szP p ∧ p.cloud.length ≤ L ∧ p.vec.length ≤ L
theorem ly22 {L n : Nat} {cs : List AV} (h : TyC tab L (n + 2) 22 cs) : ∃ xs : List Int, cs = c22 xs ∧ xs.length * 8 ≤ 140737488351232 ∧ xs.length ≤ L := by
  obtain ⟨rows, rfl, h1, h2, hL, h3⟩ := h
  obtain ⟨xs, rfl, hx⟩ := rows_typed (fun r hr => ty3 hr) rows h3
  exact ⟨xs, rfl, by rw [List.length_map] at h2; exact h2, by rw [List.length_map] at hL; exact hL⟩
theorem ly23 {L n : Nat} {cs : List AV} (h : TyC tab L (n + 3) 23 cs) : ∃ xs : List Span, cs = [.sl (xs.map c50)] ∧ xs.length * 24 ≤ 140737488351232 ∧ xs.length ≤ L := by
  obtain ⟨rows, rfl, h1, h2, hL, h3⟩ := h
  obtain ⟨xs, rfl, hx⟩ := rows_typed (fun r hr => ty50 hr) rows h3
  exact ⟨xs, rfl, by rw [List.length_map] at h2; exact h2, by rw [List.length_map] at hL; exact hL⟩
theorem ly25 {L n : Nat} {cs : List AV} (h : TyC tab L (n + 4) 25 cs) : ∃ p : Past, cs = c25 p ∧ inPL L p := by
  obtain ⟨a, b, rfl, ha, c, d, rfl, hc, rfl⟩ := h
  obtain ⟨x, rfl, hx⟩ := ly22 (L := L) (n := n + 1) ha
  obtain ⟨y, rfl, hy⟩ := ly23 hc
  exact ⟨⟨x, y⟩, rfl, ⟨by simp only; omega, by simp only; omega⟩, hy.2, hx.2⟩
theorem ly78 {L n : Nat} {cs : List AV} (h : TyC tab L (n + 5) 78 cs) : ∃ r : Record, cs = c78 r ∧ inPL L r.past := by
  obtain ⟨a, b, rfl, ha, c, d, rfl, hc, rfl⟩ := h
  obtain ⟨x, rfl, hx⟩ := ty9 (L := L) (n := n + 3) ha
  obtain ⟨y, rfl, hy⟩ := ly25 hc
  exact ⟨⟨x, y⟩, rfl, hy⟩
def inRL (L : Nat) (rs : List Record) : Prop := (∀ r ∈ rs, inPL L r.past) ∧ rs.length * 64 ≤ 140737488351232 ∧ rs.length ≤ L
theorem ly36 {L n : Nat} {cs : List AV} (h : TyC tab L (n + 6) 36 cs) : ∃ rs : List Record, cs = [.sl (rs.map c78)] ∧ inRL L rs := by
  obtain ⟨rows, rfl, h1, h2, hL, h3⟩ := h
  obtain ⟨xs, rfl, hx⟩ := rows_typed (fun r hr => ly78 hr) rows h3
  exact ⟨xs, rfl, hx, by rw [List.length_map] at h2; exact h2, by rw [List.length_map] at hL; exact hL⟩
def inFL (L : Nat) (f : Facts) : Prop := (f.adds.length * 40 ≤ 140737488351232 ∧ f.adds.length ≤ L) ∧ inPL L f.gone ∧ inRL L f.recs
theorem ly38 {L n : Nat} {cs : List AV} (h : TyC tab L (n + 7) 38 cs) : ∃ f : Facts, cs = c38 f ∧ inFL L f := by
  obtain ⟨a, b, rfl, ha, c, d, rfl, hc, e, g, rfl, he, rfl⟩ := h
  obtain ⟨x, rfl, hx⟩ := ty35 (L := L) (n := n + 2) ha
  obtain ⟨y, rfl, hy⟩ := ly25 (L := L) (n := n + 2) hc
  obtain ⟨z, rfl, hz⟩ := ly36 he
  exact ⟨⟨x, y, z⟩, rfl, ⟨hx.1.2, hx.2⟩, hy, hz⟩
theorem ly27 {L n : Nat} {cs : List AV} (h : TyC tab L (n + 5) 27 cs) : ∃ a : Actn, cs = c27 a ∧ inr a.kind ∧ inr a.qty ∧ inPL L a.past := by
  obtain ⟨a, b, rfl, ha, a2, b2, rfl, ha2, a3, b3, rfl, ha3, a4, b4, rfl, ha4, rfl⟩ := h
  obtain ⟨x1, rfl, h1⟩ := ty3 (L := L) (n := n + 3) ha
  obtain ⟨x2, rfl, h2⟩ := ty9 (L := L) (n := n + 3) ha2
  obtain ⟨x3, rfl, h3⟩ := ty3 (L := L) (n := n + 3) ha3
  obtain ⟨x4, rfl, h4⟩ := ly25 ha4
  exact ⟨⟨x1, x2, x3, x4⟩, rfl, h1, h3, h4⟩
def inWL (L : Nat) (w : Wish) : Prop := (w.live.length * 40 ≤ 140737488351232 ∧ w.live.length ≤ L) ∧ inPL L w.seen ∧ inr w.act.kind ∧ inr w.act.qty ∧ inPL L w.act.past ∧ inr w.rep ∧ inr w.lim.lines ∧ inr w.lim.count
theorem ta38 {L : Nat} {a : AV} (h : TyA tab L 9 38 a) : ∃ f : Facts, a = .agg (c38 f) ∧ inFL L f := by
  obtain ⟨cs, rfl, h2⟩ := (show ∃ cs, a = .agg cs ∧ TyC tab L 9 38 cs from h)
  obtain ⟨d, rfl, k⟩ := ly38 (L := L) (n := 2) h2
  exact ⟨d, rfl, k⟩
theorem ta27 {L : Nat} {a : AV} (h : TyA tab L 9 27 a) : ∃ f : Actn, a = .agg (c27 f) ∧ inr f.kind ∧ inr f.qty ∧ inPL L f.past := by
  obtain ⟨cs, rfl, h2⟩ := (show ∃ cs, a = .agg cs ∧ TyC tab L 9 27 cs from h)
  obtain ⟨d, rfl, k⟩ := ly27 (L := L) (n := 4) h2
  exact ⟨d, rfl, k⟩
theorem inF_sz {L : Nat} {f : Facts} (h : inFL L f) : szF f := ⟨h.2.1.1, fun r hr => (h.2.2.1 r hr).1⟩
end Go.Proofs.Ytaiepnaokhpmcaa
namespace Go.Proofs.Ytaiepnaokhpmcaa
open Go.E Go.ChangeShapes Go.WideShapes Go.ChangeAt Go.RowKit
set_option maxRecDepth 100000
theorem law3 {L : Nat} {a1 : AV} (h1 : TyA tab L 9 27 a1) {a2 : AV} (h2 : TyA tab L 9 3 a2) {a3 : AV} (h3 : TyA tab L 9 3 a3) : Con Try.prog 3 [a1, a2, a3] (.b true) := by
  obtain ⟨x1, rfl, k1⟩ := ta27 h1
  obtain ⟨x2, rfl, k2⟩ := ta3 h2
  obtain ⟨x3, rfl, k3⟩ := ta3 h3
  exact con3 x1 x2 x3 k1.2.2.1
theorem ActChecks_lifted (os : Os) (started : os.Started) (H : Type) (enc : TypeId × Value → H) :
    ReturnsInHanded {} Try.checked os 3 .any (Rows.actChecksSpec.pre6 enc Try.prog Try.f3 Rows.actChecksRow.domain false) (Rows.actChecksSpec.post enc Try.prog Try.f3 false true false false) := by
  refine law_lifted (C := Try.checked) [27, 3, 3] 4 9 tab_ok Try.laidOut Try.own started (by kernel_rfl) Try.func3 rfl rfl (by kernel_rfl) (by kernel_rfl) rfl ?_
    (ChangeSpec.witness6 (enc := enc) (C := Try.checked) false ⟨#[], #[.agg #[.int .i64 0, .string ⟨#[]⟩, .int .i64 0, .slice none 0 0, .slice none 0 0], .int .i64 0, .int .i64 0], []⟩ 8 (by kernel_rfl) (by kernel_rfl) (by kernel_rfl) (by kernel_rfl)) ?_
  · intro ds hds
    rcases ds with _ | ⟨d1, _ | ⟨d2, _ | ⟨d3, _ | ⟨d4, l⟩⟩⟩⟩
    · exact absurd hds (by simp)
    · exact absurd hds (by simp)
    · exact absurd hds (by simp)
    · kernel_rfl
    · exact absurd hds (by simp)
  · intro L avs h
    rcases avs with _ | ⟨a1, _ | ⟨a2, _ | ⟨a3, _ | ⟨a4, l⟩⟩⟩⟩
    · exact h.elim
    · exact h.2.elim
    · exact h.2.2.elim
    · exact law3 h.1 h.2.1 h.2.2.1
    · exact h.2.2.2.elim
theorem ActChecks_holds : Rows.ActChecksSaid :=
  OpenClaim.holds_of_wide 3 Try.f3 rfl rfl rfl rfl rfl rfl rfl ⟨rfl, rfl, rfl, rfl, rfl⟩ rfl rfl rfl rfl rfl (by kernel_rfl) Try.func3 (by kernel_rfl)
    (of_decide_eq_true (by kernel_rfl)) (by unfold Func.isWrapper; first | (rw [if_pos (by decide +kernel)]; kernel_rfl) | (rw [if_neg (by decide +kernel)]; exact ⟨rfl, rfl⟩))
    (fun os started H enc _ => ActChecks_lifted os started H enc)
end Go.Proofs.Ytaiepnaokhpmcaa
namespace Go.Proofs.Ytaiepnaokhpmcaa
open Go.E Go.ChangeShapes Go.WideShapes Go.ChangeAt Go.RowKit
set_option maxRecDepth 100000
theorem law4 {L : Nat} {a1 : AV} (h1 : TyA tab L 9 38 a1) : Con Try.prog 4 [a1] (.b true) := by
  obtain ⟨x1, rfl, k1⟩ := ta38 h1
  exact con4 x1 (inF_sz k1)
theorem ActEvents_lifted (os : Os) (started : os.Started) (H : Type) (enc : TypeId × Value → H) :
    ReturnsInHanded {} Try.checked os 4 .any (Rows.actEventsSpec.pre6 enc Try.prog Try.f4 Rows.actEventsRow.domain false) (Rows.actEventsSpec.post enc Try.prog Try.f4 false true false false) := by
  refine law_lifted (C := Try.checked) [38] 4 9 tab_ok Try.laidOut Try.own started (by kernel_rfl) Try.func4 rfl rfl (by kernel_rfl) (by kernel_rfl) rfl ?_
    (ChangeSpec.witness6 (enc := enc) (C := Try.checked) false ⟨#[], #[.agg #[.slice none 0 0, .slice none 0 0, .slice none 0 0, .slice none 0 0]], []⟩ 8 (by kernel_rfl) (by kernel_rfl) (by kernel_rfl) (by kernel_rfl)) ?_
  · intro ds hds
    rcases ds with _ | ⟨d1, _ | ⟨d2, l⟩⟩
    · exact absurd hds (by simp)
    · kernel_rfl
    · exact absurd hds (by simp)
  · intro L avs h
    rcases avs with _ | ⟨a1, _ | ⟨a2, l⟩⟩
    · exact h.elim
    · exact law4 h.1
    · exact h.2.elim
theorem ActEvents_holds : Rows.ActEventsSaid :=
  OpenClaim.holds_of_wide 4 Try.f4 rfl rfl rfl rfl rfl rfl rfl ⟨rfl, rfl, rfl, rfl, rfl⟩ rfl rfl rfl rfl rfl (by kernel_rfl) Try.func4 (by kernel_rfl)
    (of_decide_eq_true (by kernel_rfl)) (by unfold Func.isWrapper; first | (rw [if_pos (by decide +kernel)]; kernel_rfl) | (rw [if_neg (by decide +kernel)]; exact ⟨rfl, rfl⟩))
    (fun os started H enc _ => ActEvents_lifted os started H enc)
end Go.Proofs.Ytaiepnaokhpmcaa
