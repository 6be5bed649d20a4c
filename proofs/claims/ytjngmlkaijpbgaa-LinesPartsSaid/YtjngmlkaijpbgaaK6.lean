/- R13: LinesParts answers true for every input, and the input reads as it did. Conditions: none. (with texts that it needs)  -/
import Derived.ProofKit
import Derived.SizedLaws
import Derived.JoinedCond
import Derived.Deep.CondSized
import Derived.Test.YtjngmlkaijpbgaaRows
import Derived.Test.YtjngmlkaijpbgaaK5
set_option linter.unusedVariables false
set_option linter.unusedSimpArgs false
namespace Go.Proofs.Ytjngmlkaijpbgaa
open Go.E
set_option maxRecDepth 100000
set_option maxHeartbeats 4000000
theorem side_parts {es : List Entry} (q : Entry → Bool) : (es.filter (fun e => q e == true)).length + (es.filter (fun e => q e == false)).length = es.length := by
  induction es with
  | nil => rfl
  | cons e es ih =>
    simp only [List.filter_cons]
    cases hq : q e <;> simp only [beq_self_eq_true, if_true, Bool.false_eq_true, if_false, show (true == false) = false from rfl, show (false == true) = false from rfl, List.length_cons] <;> omega
theorem side_err (es : List Entry) (p : Past) : (sideV es p true).2 = (sideV es p false).2 := by unfold sideV; split <;> rfl
theorem side_two {es : List Entry} {p : Past} {t : Bool} (h : (sideV es p t).2 = 0) : formE es ∧ p = normP p ∧ ∀ u, sideV es p u = (es.filter (fun e => hasP p e.dot == u), 0) := by
  unfold sideV at h
  split at h
  · rename_i hc
    exact ⟨(okL_iff es).1 hc.1, hc.2, fun u => by unfold sideV; rw [if_pos hc]⟩
  · cases h
theorem side_one {es : List Entry} {p : Past} {t : Bool} (h : ¬ (sideV es p t).2 = 0) : ∀ u, sideV es p u = ([], 1) := by
  unfold sideV at h
  split at h
  · exact absurd rfl h
  · rename_i hc
    exact fun u => by unfold sideV; rw [if_neg hc]
theorem side_form {es : List Entry} (h : formE es) (q : Entry → Bool) : formE (es.filter q) := formE_sub h List.filter_sublist
theorem side_union {es : List Entry} (h : formE es) (q : Entry → Bool) : unionR (es.filter (fun e => q e == true)) (es.filter (fun e => q e == false)) = (es, 0) := by
  refine union_eq (side_form h _) (side_form h _) h fun e => ?_
  rw [List.mem_filter, List.mem_filter]
  cases q e <;> simp
theorem side_again {es : List Entry} {p : Past} (h : formE es) : sideV es (dotsV (es.filter (fun e => hasP p e.dot == true))).1 true = (es.filter (fun e => hasP p e.dot == true), 0) := by
  have hf := side_form h (fun e => hasP p e.dot == true)
  rw [dotsV_ok ((lst_iff _).2 hf)]
  rw [sideV_ok ((lst_iff _).2 h) (norm_tab _).symm]
  congr 1
  refine List.filter_congr fun e he => ?_
  have hd : dotB e.dot = true := by have := ent_ok (h.1 e he); unfold dotB; rw [decide_eq_true_eq]; exact this
  rw [Bool.eq_iff_iff, beq_iff_eq, beq_iff_eq, has_of]
  constructor
  · rintro ⟨_, hm⟩
    obtain ⟨x, hx, hxe⟩ := List.mem_map.1 hm
    obtain ⟨hx1, hx2⟩ := List.mem_filter.1 hx
    rw [← formE_dot h hx1 he hxe]
    simpa using hx2
  · intro k
    exact ⟨hd, List.mem_map.2 ⟨e, List.mem_filter.2 ⟨he, by simpa using k⟩, rfl⟩⟩
theorem con13 (c : Case) (hb : c.p.cloud.length * 16 ≤ 140737488350000) (hv : c.p.vec.length ≤ 9223372036854775807) : Con Try.prog 13 [.agg (c38 c)] (.b true) :=
  by
  refine st_con tab_ok (by kernel_rfl) [.tmp 2] 117 Go.Proofs.Try.func13 (by kernel_rfl) (by kernel_rfl) ?_
  intro e0 cx
  refine sq ?_
  refine rg (A := True) cx [] [1] [1] trivial ?_
  refine sn ?_
  refine sq ?_
  refine rg (A := _ ∧ (Con Try.prog (45 : Nat) [AV.sl (List.map c28 someL), AV.agg [AV.sl (List.map c3 [(3 : Int)]), AV.nl]] (AV.tup [AV.sl (List.map c28 (sideV someL { vec := [(3 : Int)], cloud := [] : Past } true).fst), AV.i IntKind.i64 (0 : Int)]))) cx [(0, { val := some (resC (con17 )) }), (3, { val := some (.tup [.sl (List.map c28 (sideV someL { vec := [(3 : Int)], cloud := [] : Past } true).fst), .i .i64 ((0 : Int))]) })] [1, 3, 4] [1] ⟨(con17 ), (Con.le (cast (by kernel_rfl) (con45 (someL) ({ vec := [(3 : Int)], cloud := [] : Past }) (by (simp only [List.length_append, List.length_cons, List.length_nil]; omega))) : Con Try.prog (45 : FuncId) [AV.sl (List.map c28 someL), AV.agg (c36 { vec := [(3 : Int)], cloud := [] : Past })] (AV.tup [AV.sl (List.map c28 (sideV someL { vec := [(3 : Int)], cloud := [] : Past } true).fst), AV.i IntKind.i64 (0 : Int)])) (ZLe.cons (AVle.refl _) (ZLe.cons (AVle.agg (ZLe.cons (AVle.refl _) (ZLe.cons AVle.nl ZLe.nil))) ZLe.nil)))⟩ ?_
  refine sn ?_
  refine sq ?_
  refine sq ?_
  refine rg (A := ((0 : Int) ≤ (0 : Int)) ∧ ((List.map c28 (sideV someL { vec := [(3 : Int)], cloud := [] : Past } true).fst)[Int.toNat (0 : Int)]? = some (c28 { dot := { rep := (0 : Int), num := (3 : Int) : Dot }, sku := { data := #[(65 : UInt8)] : ByteArray }, qty := (5 : Int) : Entry })) ∧ ((c28 { dot := { rep := (0 : Int), num := (3 : Int) : Dot }, sku := { data := #[(65 : UInt8)] : ByteArray }, qty := (5 : Int) : Entry }).length = (4 : Nat))) cx [(9, { row := (c28 { dot := { rep := (0 : Int), num := (3 : Int) : Dot }, sku := { data := #[(65 : UInt8)] : ByteArray }, qty := (5 : Int) : Entry }) })] [1, 32] [1] ⟨(by omega), (by kernel_rfl), (by kernel_rfl)⟩ ?_
  refine sn ?_
  refine st_false (by kernel_rfl) (by kernel_rfl) ?_
  refine st_skip (by kernel_rfl) ?_
  refine sn ?_
  refine sq ?_
  refine rg (A := _) cx [(4, { val := some (.tup [.sl (List.map c28 (sideV c.a c.p true).fst), .i .i64 ((sideV c.a c.p true).snd)]) })] [1, 3, 4] [1] (con45 (c.a) (c.p) (by (with_reducible assumption))) ?_
  refine sn ?_
  refine sq ?_
  refine rg (A := _) cx [(4, { val := some (.tup [.sl (List.map c28 (sideV c.a c.p false).fst), .i .i64 ((sideV c.a c.p false).snd)]) })] [1, 3, 4, 5, 6] [1] (con46 (c.a) (c.p) (by (with_reducible assumption))) ?_
  refine sn ?_
  refine sq ?_
  refine sq ?_
  refine rg (A := (AV.b ((sideV c.a c.p true).snd != (sideV c.a c.p false).snd) = AV.b (decide ¬(sideV c.a c.p true).snd = (sideV c.a c.p false).snd))) cx [(2, { tell := some (.b (decide ¬(sideV c.a c.p true).snd = (sideV c.a c.p false).snd)) })] [1, 3, 4, 5, 51] [1] (told_neq) ?_
  refine sn ?_
  refine st_dec (¬(sideV c.a c.p true).snd = (sideV c.a c.p false).snd) (by kernel_rfl) (by kernel_rfl) (fun h_0 => ?_) (fun h_0 => ?_)
  refine sq ?_
  refine rg (A := True) cx [] [2] [] trivial ?_
  refine sn ?_
  refine st_ret (by kernel_rfl) ?_
  refine q_seq_ret ?_
  refine q_ret (r := .b (false)) (obl := []) (by kernel_rfl) trivial (AVle.eq (show AV.b false = AV.b true from ?g0)); rotate_left 1
  refine st_skip (by kernel_rfl) ?_
  refine sn ?_
  refine sq ?_
  refine sq ?_
  refine rg (A := (AV.b ((sideV c.a c.p true).snd != (0 : Int)) = AV.b (decide ¬(sideV c.a c.p true).snd = (0 : Int)))) cx [(1, { tell := some (.b (decide ¬(sideV c.a c.p true).snd = (0 : Int))) })] [1, 3, 4, 5, 53] [1] (told_neq) ?_
  refine sn ?_
  refine st_dec (¬(sideV c.a c.p true).snd = (0 : Int)) (by kernel_rfl) (by kernel_rfl) (fun h_1 => ?_) (fun h_1 => ?_)
  refine sq ?_
  refine st_join (σ' := ⟨[(2, .b (decide ((sideV c.a c.p true).snd = (1 : Int) ∧ (↑(sideV c.a c.p true).fst.length : Int) = (0 : Int) ∧ (↑(sideV c.a c.p false).fst.length : Int) = (0 : Int))))], []⟩) ?_ ?_
  refine st_split ((sideV c.a c.p true).snd = (1 : Int)) (fun h_3 => ?_) (fun h_3 => ?_)
  refine st_split ((↑(sideV c.a c.p true).fst.length : Int) = (0 : Int)) (fun h_4 => ?_) (fun h_4 => ?_)
  refine rg (A := _ ∧ _ ∧ _ ∧ _ ∧ (AV.b ((↑(sideV c.a c.p false).fst.length : Int) == (0 : Int)) = AV.b (decide ((↑(sideV c.a c.p false).fst.length : Int) = (0 : Int)))) ∧ (AV.b (decide ((↑(sideV c.a c.p false).fst.length : Int) = (0 : Int))) = AV.b (decide ((sideV c.a c.p true).snd = (1 : Int) ∧ (↑(sideV c.a c.p true).fst.length : Int) = (0 : Int) ∧ (↑(sideV c.a c.p false).fst.length : Int) = (0 : Int))))) cx [(1, { tell := some (.b (true)) }), (4, { tell := some (.i .i64 ((↑(sideV c.a c.p true).fst.length : Int))) }), (5, { tell := some (.b (true)) }), (9, { tell := some (.i .i64 ((↑(sideV c.a c.p false).fst.length : Int))) }), (10, { tell := some (.b (decide ((↑(sideV c.a c.p false).fst.length : Int) = (0 : Int)))) }), (12, { tell := some (.b (decide ((sideV c.a c.p true).snd = (1 : Int) ∧ (↑(sideV c.a c.p true).fst.length : Int) = (0 : Int) ∧ (↑(sideV c.a c.p false).fst.length : Int) = (0 : Int)))) })] [2] [] ⟨(told_true h_3), (told_len c28 (sideV c.a c.p true).fst), (told_true h_4), (told_len c28 (sideV c.a c.p false).fst), (by kernel_rfl), (by simp only [eq_true h_3, eq_true h_4, told_simp1, told_simp2, and_true, true_and, and_false, false_and, or_true, true_or, or_false, false_or, not_true_eq_false, not_false_eq_true, decide_true, decide_false, Bool.decide_eq_true])⟩ ?_
  exact ⟨rfl, by kernel_rfl⟩
  refine rg (A := _ ∧ _ ∧ _ ∧ (AV.b false = AV.b (decide ((sideV c.a c.p true).snd = (1 : Int) ∧ (↑(sideV c.a c.p true).fst.length : Int) = (0 : Int) ∧ (↑(sideV c.a c.p false).fst.length : Int) = (0 : Int))))) cx [(1, { tell := some (.b (true)) }), (4, { tell := some (.i .i64 ((↑(sideV c.a c.p true).fst.length : Int))) }), (5, { tell := some (.b (false)) }), (12, { tell := some (.b (decide ((sideV c.a c.p true).snd = (1 : Int) ∧ (↑(sideV c.a c.p true).fst.length : Int) = (0 : Int) ∧ (↑(sideV c.a c.p false).fst.length : Int) = (0 : Int)))) })] [2] [] ⟨(told_true h_3), (told_len c28 (sideV c.a c.p true).fst), (told_false h_4), (by simp only [eq_true h_3, eq_false h_4, told_simp1, told_simp2, and_true, true_and, and_false, false_and, or_true, true_or, or_false, false_or, not_true_eq_false, not_false_eq_true, decide_true, decide_false, Bool.decide_eq_true])⟩ ?_
  exact ⟨rfl, by kernel_rfl⟩
  refine rg (A := _ ∧ (AV.b false = AV.b (decide ((sideV c.a c.p true).snd = (1 : Int) ∧ (↑(sideV c.a c.p true).fst.length : Int) = (0 : Int) ∧ (↑(sideV c.a c.p false).fst.length : Int) = (0 : Int))))) cx [(1, { tell := some (.b (false)) }), (12, { tell := some (.b (decide ((sideV c.a c.p true).snd = (1 : Int) ∧ (↑(sideV c.a c.p true).fst.length : Int) = (0 : Int) ∧ (↑(sideV c.a c.p false).fst.length : Int) = (0 : Int)))) })] [2] [] ⟨(told_false h_3), (by simp only [eq_false h_3, told_simp1, told_simp2, and_true, true_and, and_false, false_and, or_true, true_or, or_false, false_or, not_true_eq_false, not_false_eq_true, decide_true, decide_false, Bool.decide_eq_true])⟩ ?_
  exact ⟨rfl, by kernel_rfl⟩
  refine sn ?_
  refine st_ret (by kernel_rfl) ?_
  refine q_seq_ret ?_
  refine q_ret (r := .b (decide ((sideV c.a c.p true).snd = (1 : Int) ∧ (↑(sideV c.a c.p true).fst.length : Int) = (0 : Int) ∧ (↑(sideV c.a c.p false).fst.length : Int) = (0 : Int)))) (obl := []) (by kernel_rfl) trivial (AVle.eq (show AV.b (decide ((sideV c.a c.p true).snd = (1 : Int) ∧ (↑(sideV c.a c.p true).fst.length : Int) = (0 : Int) ∧ (↑(sideV c.a c.p false).fst.length : Int) = (0 : Int))) = AV.b true from ?g1)); rotate_left 1
  refine st_skip (by kernel_rfl) ?_
  refine sn ?_
  refine sq ?_
  refine sq ?_
  refine st_join (σ' := ⟨[(1, .ptr (1) (0) (0) (0)), (3, .sl (List.map c28 (sideV c.a c.p true).fst)), (5, .sl (List.map c28 (sideV c.a c.p false).fst)), (80, .b (decide (¬lstE c.a = (0 : Int) ∨ ¬(↑(sideV c.a c.p true).fst.length : Int) + (↑(sideV c.a c.p false).fst.length : Int) = (↑c.a.length : Int))))], [(1, ⟨0, 38, .var [.sl (List.map c28 c.a), .sl (List.map c28 c.b), .sl (List.map c3 c.p.vec), .sl (List.map c81 c.p.cloud), .i .i64 (c.d.rep), .i .i64 (c.d.num), .i .i64 (c.rep), .s (c.sku)]⟩)]⟩) ?_ ?_
  refine st_split (¬lstE c.a = (0 : Int)) (fun h_6 => ?_) (fun h_6 => ?_)
  refine rg (A := _ ∧ (AV.b (lstE c.a != (0 : Int)) = AV.b true) ∧ (AV.b true = AV.b (decide (¬lstE c.a = (0 : Int) ∨ ¬(↑(sideV c.a c.p true).fst.length : Int) + (↑(sideV c.a c.p false).fst.length : Int) = (↑c.a.length : Int))))) cx [(2, { val := some (.i .i64 (lstE c.a)) }), (3, { tell := some (.b (true)) }), (14, { tell := some (.b (decide (¬lstE c.a = (0 : Int) ∨ ¬(↑(sideV c.a c.p true).fst.length : Int) + (↑(sideV c.a c.p false).fst.length : Int) = (↑c.a.length : Int)))) })] [1, 3, 5, 80] [1] ⟨(con16 (c.a)), (told_neqt h_6), (by simp only [eq_false h_6, told_simp1, told_simp2, and_true, true_and, and_false, false_and, or_true, true_or, or_false, false_or, not_true_eq_false, not_false_eq_true, decide_true, decide_false, Bool.decide_eq_true])⟩ ?_
  exact ⟨rfl, by kernel_rfl⟩
  refine rg (A := _ ∧ (AV.b (lstE c.a != (0 : Int)) = AV.b (decide ¬lstE c.a = (0 : Int))) ∧ _ ∧ _ ∧ _ ∧ (AV.i IntKind.i64 (IntKind.i64.wrap ((↑(sideV c.a c.p true).fst.length : Int) + (↑(sideV c.a c.p false).fst.length : Int))) = AV.i IntKind.i64 ((↑(sideV c.a c.p true).fst.length : Int) + (↑(sideV c.a c.p false).fst.length : Int))) ∧ _ ∧ (AV.b ((↑(sideV c.a c.p true).fst.length : Int) + (↑(sideV c.a c.p false).fst.length : Int) != (↑c.a.length : Int)) = AV.b (decide ¬(↑(sideV c.a c.p true).fst.length : Int) + (↑(sideV c.a c.p false).fst.length : Int) = (↑c.a.length : Int))) ∧ (AV.b (decide ¬(↑(sideV c.a c.p true).fst.length : Int) + (↑(sideV c.a c.p false).fst.length : Int) = (↑c.a.length : Int)) = AV.b (decide (¬lstE c.a = (0 : Int) ∨ ¬(↑(sideV c.a c.p true).fst.length : Int) + (↑(sideV c.a c.p false).fst.length : Int) = (↑c.a.length : Int))))) cx [(2, { val := some (.i .i64 (lstE c.a)) }), (3, { tell := some (.b (decide ¬lstE c.a = (0 : Int))) }), (4, { tell := some (.b (false)) }), (6, { tell := some (.i .i64 ((↑(sideV c.a c.p true).fst.length : Int))) }), (8, { tell := some (.i .i64 ((↑(sideV c.a c.p false).fst.length : Int))) }), (9, { tell := some (.i .i64 ((↑(sideV c.a c.p true).fst.length : Int) + (↑(sideV c.a c.p false).fst.length : Int))) }), (12, { tell := some (.i .i64 ((↑c.a.length : Int))) }), (13, { tell := some (.b (decide ¬(↑(sideV c.a c.p true).fst.length : Int) + (↑(sideV c.a c.p false).fst.length : Int) = (↑c.a.length : Int))) }), (14, { tell := some (.b (decide (¬lstE c.a = (0 : Int) ∨ ¬(↑(sideV c.a c.p true).fst.length : Int) + (↑(sideV c.a c.p false).fst.length : Int) = (↑c.a.length : Int)))) })] [1, 3, 5, 80] [1] ⟨(con16 (c.a)), (told_neq), (told_false h_6), (told_len c28 (sideV c.a c.p true).fst), (told_len c28 (sideV c.a c.p false).fst), (told_i64 (by omega) ?g2), (told_len c28 c.a), (told_neq), (by simp only [eq_false h_6, told_simp1, told_simp2, and_true, true_and, and_false, false_and, or_true, true_or, or_false, false_or, not_true_eq_false, not_false_eq_true, decide_true, decide_false, Bool.decide_eq_true])⟩ ?_; rotate_left 1
  exact ⟨rfl, by kernel_rfl⟩
  refine sn ?_
  refine st_dec (¬lstE c.a = (0 : Int) ∨ ¬(↑(sideV c.a c.p true).fst.length : Int) + (↑(sideV c.a c.p false).fst.length : Int) = (↑c.a.length : Int)) (by kernel_rfl) (by kernel_rfl) (fun h_7 => ?_) (fun h_7 => ?_)
  refine sq ?_
  refine rg (A := True) cx [] [2] [] trivial ?_
  refine sn ?_
  refine st_ret (by kernel_rfl) ?_
  refine q_seq_ret ?_
  refine q_ret (r := .b (false)) (obl := []) (by kernel_rfl) trivial (AVle.eq (show AV.b false = AV.b true from ?g3)); rotate_left 1
  refine st_skip (by kernel_rfl) ?_
  refine sn ?_
  refine sq ?_
  refine rg (A := _) cx [(2, { val := some (resC (con29 ((sideV c.a c.p true).fst) ((sideV c.a c.p false).fst))) })] [1, 3, 7, 8] [1] (con29 ((sideV c.a c.p true).fst) ((sideV c.a c.p false).fst)) ?_
  refine sn ?_
  refine sq ?_
  refine sq ?_
  refine st_join (σ' := ⟨[(1, .ptr (1) (0) (0) (0)), (3, .sl (List.map c28 (sideV c.a c.p true).fst)), (95, .b (decide (¬(unionR (sideV c.a c.p true).fst (sideV c.a c.p false).fst).snd = (0 : Int) ∨ ¬(unionR (sideV c.a c.p true).fst (sideV c.a c.p false).fst).fst = c.a)))], [(1, ⟨0, 38, .var [.sl (List.map c28 c.a), .sl (List.map c28 c.b), .sl (List.map c3 c.p.vec), .sl (List.map c81 c.p.cloud), .i .i64 (c.d.rep), .i .i64 (c.d.num), .i .i64 (c.rep), .s (c.sku)]⟩)]⟩) ?_ ?_
  refine st_split (¬(unionR (sideV c.a c.p true).fst (sideV c.a c.p false).fst).snd = (0 : Int)) (fun h_9 => ?_) (fun h_9 => ?_)
  refine rg (A := (AV.b ((unionR (sideV c.a c.p true).fst (sideV c.a c.p false).fst).snd != (0 : Int)) = AV.b true) ∧ (AV.b true = AV.b (decide (¬(unionR (sideV c.a c.p true).fst (sideV c.a c.p false).fst).snd = (0 : Int) ∨ ¬(unionR (sideV c.a c.p true).fst (sideV c.a c.p false).fst).fst = c.a)))) cx [(1, { tell := some (.b (true)) }), (8, { tell := some (.b (decide (¬(unionR (sideV c.a c.p true).fst (sideV c.a c.p false).fst).snd = (0 : Int) ∨ ¬(unionR (sideV c.a c.p true).fst (sideV c.a c.p false).fst).fst = c.a))) })] [1, 3, 95] [1] ⟨(told_neqt h_9), (by simp only [eq_false h_9, told_simp1, told_simp2, and_true, true_and, and_false, false_and, or_true, true_or, or_false, false_or, not_true_eq_false, not_false_eq_true, decide_true, decide_false, Bool.decide_eq_true])⟩ ?_
  exact ⟨rfl, by kernel_rfl⟩
  refine rg (A := (AV.b ((unionR (sideV c.a c.p true).fst (sideV c.a c.p false).fst).snd != (0 : Int)) = AV.b (decide ¬(unionR (sideV c.a c.p true).fst (sideV c.a c.p false).fst).snd = (0 : Int))) ∧ _ ∧ _ ∧ ((AV.b !decide ((unionR (sideV c.a c.p true).fst (sideV c.a c.p false).fst).fst = c.a)) = AV.b (decide ¬(unionR (sideV c.a c.p true).fst (sideV c.a c.p false).fst).fst = c.a)) ∧ (AV.b (decide ¬(unionR (sideV c.a c.p true).fst (sideV c.a c.p false).fst).fst = c.a) = AV.b (decide (¬(unionR (sideV c.a c.p true).fst (sideV c.a c.p false).fst).snd = (0 : Int) ∨ ¬(unionR (sideV c.a c.p true).fst (sideV c.a c.p false).fst).fst = c.a)))) cx [(1, { tell := some (.b (decide ¬(unionR (sideV c.a c.p true).fst (sideV c.a c.p false).fst).snd = (0 : Int))) }), (2, { tell := some (.b (false)) }), (6, { val := some (.b (decide ((unionR (sideV c.a c.p true).fst (sideV c.a c.p false).fst).fst = c.a))) }), (7, { tell := some (.b (decide ¬(unionR (sideV c.a c.p true).fst (sideV c.a c.p false).fst).fst = c.a)) }), (8, { tell := some (.b (decide (¬(unionR (sideV c.a c.p true).fst (sideV c.a c.p false).fst).snd = (0 : Int) ∨ ¬(unionR (sideV c.a c.p true).fst (sideV c.a c.p false).fst).fst = c.a))) })] [1, 3, 95] [1] ⟨(told_neq), (told_false h_9), (con24 ((unionR (sideV c.a c.p true).fst (sideV c.a c.p false).fst).fst) (c.a)), (told_notd), (by simp only [eq_false h_9, told_simp1, told_simp2, and_true, true_and, and_false, false_and, or_true, true_or, or_false, false_or, not_true_eq_false, not_false_eq_true, decide_true, decide_false, Bool.decide_eq_true])⟩ ?_
  exact ⟨rfl, by kernel_rfl⟩
  refine sn ?_
  refine st_dec (¬(unionR (sideV c.a c.p true).fst (sideV c.a c.p false).fst).snd = (0 : Int) ∨ ¬(unionR (sideV c.a c.p true).fst (sideV c.a c.p false).fst).fst = c.a) (by kernel_rfl) (by kernel_rfl) (fun h_10 => ?_) (fun h_10 => ?_)
  refine sq ?_
  refine rg (A := True) cx [] [2] [] trivial ?_
  refine sn ?_
  refine st_ret (by kernel_rfl) ?_
  refine q_seq_ret ?_
  refine q_ret (r := .b (false)) (obl := []) (by kernel_rfl) trivial (AVle.eq (show AV.b false = AV.b true from ?g4)); rotate_left 1
  refine st_skip (by kernel_rfl) ?_
  refine sn ?_
  refine sq ?_
  refine rg (A := _) cx [(1, { val := some (resC (con39 ((sideV c.a c.p true).fst))) })] [1, 3, 9, 8] [1, 9] (con39 ((sideV c.a c.p true).fst)) ?_
  refine sn ?_
  refine sq ?_
  refine sq ?_
  refine rg (A := (AV.b ((dotsV (sideV c.a c.p true).fst).snd != (0 : Int)) = AV.b (decide ¬(dotsV (sideV c.a c.p true).fst).snd = (0 : Int)))) cx [(1, { tell := some (.b (decide ¬(dotsV (sideV c.a c.p true).fst).snd = (0 : Int))) })] [1, 3, 9, 102] [1, 9] (told_neq) ?_
  refine sn ?_
  refine st_dec (¬(dotsV (sideV c.a c.p true).fst).snd = (0 : Int)) (by kernel_rfl) (by kernel_rfl) (fun h_11 => ?_) (fun h_11 => ?_)
  refine sq ?_
  refine rg (A := True) cx [] [2] [] trivial ?_
  refine sn ?_
  refine st_ret (by kernel_rfl) ?_
  refine q_seq_ret ?_
  refine q_ret (r := .b (false)) (obl := []) (by kernel_rfl) trivial (AVle.eq (show AV.b false = AV.b true from ?g5)); rotate_left 1
  refine st_skip (by kernel_rfl) ?_
  refine sn ?_
  refine sq ?_
  refine rg (A := _) cx [(3, { val := some (.tup [.sl (List.map c28 (sideV c.a (dotsV (sideV c.a c.p true).fst).fst true).fst), .i .i64 ((sideV c.a (dotsV (sideV c.a c.p true).fst).fst true).snd)]) })] [3, 10, 11] [] (con45 (c.a) ((dotsV (sideV c.a c.p true).fst).fst) ?g6) ?_; rotate_left 1
  refine sn ?_
  refine sq ?_
  refine st_join (σ' := ⟨[(2, .b (decide ((sideV c.a (dotsV (sideV c.a c.p true).fst).fst true).snd = (0 : Int) ∧ (sideV c.a (dotsV (sideV c.a c.p true).fst).fst true).fst = (sideV c.a c.p true).fst)))], []⟩) ?_ ?_
  refine st_split ((sideV c.a (dotsV (sideV c.a c.p true).fst).fst true).snd = (0 : Int)) (fun h_13 => ?_) (fun h_13 => ?_)
  refine rg (A := _ ∧ _ ∧ (AV.b (decide ((sideV c.a (dotsV (sideV c.a c.p true).fst).fst true).fst = (sideV c.a c.p true).fst)) = AV.b (decide ((sideV c.a (dotsV (sideV c.a c.p true).fst).fst true).snd = (0 : Int) ∧ (sideV c.a (dotsV (sideV c.a c.p true).fst).fst true).fst = (sideV c.a c.p true).fst)))) cx [(1, { tell := some (.b (true)) }), (5, { val := some (.b (decide ((sideV c.a (dotsV (sideV c.a c.p true).fst).fst true).fst = (sideV c.a c.p true).fst))) }), (7, { tell := some (.b (decide ((sideV c.a (dotsV (sideV c.a c.p true).fst).fst true).snd = (0 : Int) ∧ (sideV c.a (dotsV (sideV c.a c.p true).fst).fst true).fst = (sideV c.a c.p true).fst))) })] [2] [] ⟨(told_true h_13), (con24 ((sideV c.a (dotsV (sideV c.a c.p true).fst).fst true).fst) ((sideV c.a c.p true).fst)), (by simp only [eq_true h_13, told_simp1, told_simp2, and_true, true_and, and_false, false_and, or_true, true_or, or_false, false_or, not_true_eq_false, not_false_eq_true, decide_true, decide_false, Bool.decide_eq_true])⟩ ?_
  exact ⟨rfl, by kernel_rfl⟩
  refine rg (A := _ ∧ (AV.b false = AV.b (decide ((sideV c.a (dotsV (sideV c.a c.p true).fst).fst true).snd = (0 : Int) ∧ (sideV c.a (dotsV (sideV c.a c.p true).fst).fst true).fst = (sideV c.a c.p true).fst)))) cx [(1, { tell := some (.b (false)) }), (7, { tell := some (.b (decide ((sideV c.a (dotsV (sideV c.a c.p true).fst).fst true).snd = (0 : Int) ∧ (sideV c.a (dotsV (sideV c.a c.p true).fst).fst true).fst = (sideV c.a c.p true).fst))) })] [2] [] ⟨(told_false h_13), (by simp only [eq_false h_13, told_simp1, told_simp2, and_true, true_and, and_false, false_and, or_true, true_or, or_false, false_or, not_true_eq_false, not_false_eq_true, decide_true, decide_false, Bool.decide_eq_true])⟩ ?_
  exact ⟨rfl, by kernel_rfl⟩
  refine sn ?_
  refine st_ret (by kernel_rfl) ?_
  refine q_ret (r := .b (decide ((sideV c.a (dotsV (sideV c.a c.p true).fst).fst true).snd = (0 : Int) ∧ (sideV c.a (dotsV (sideV c.a c.p true).fst).fst true).fst = (sideV c.a c.p true).fst))) (obl := []) (by kernel_rfl) trivial (AVle.eq (show AV.b (decide ((sideV c.a (dotsV (sideV c.a c.p true).fst).fst true).snd = (0 : Int) ∧ (sideV c.a (dotsV (sideV c.a c.p true).fst).fst true).fst = (sideV c.a c.p true).fst)) = AV.b true from ?g7)); rotate_left 1
  revert h_0; rotate_left
  revert h_0 h_1; rotate_left
  revert h_0 h_1 h_6; rotate_left
  revert h_0 h_1 h_7; rotate_left
  revert h_0 h_1 h_7 h_10; rotate_left
  revert h_0 h_1 h_7 h_10 h_11; rotate_left
  revert h_0 h_1 h_7 h_10 h_11; rotate_left
  revert h_0 h_1 h_7 h_10 h_11; rotate_left
  case g0 => intro h; exact absurd (side_err c.a c.p) h
  case g1 => intro _ h; have := side_one h; rw [this, this]; rfl
  case g2 =>
    intro _ h _
    obtain ⟨h1, h2, h3⟩ := side_two (Classical.not_not.1 h)
    have := side_parts (es := c.a) (fun e => hasP c.p e.dot)
    have hl := okL_len ((okL_iff _).2 h1)
    rw [h3, h3]
    simp only
    omega
  case g3 =>
    intro _ h k
    obtain ⟨h1, h2, h3⟩ := side_two (Classical.not_not.1 h)
    have := side_parts (es := c.a) (fun e => hasP c.p e.dot)
    rw [h3, h3] at k
    rcases k with k | k
    · exact absurd ((lst_iff _).2 h1) k
    · exact absurd (by simp only; omega) k
  case g4 =>
    intro _ h _ k
    obtain ⟨h1, h2, h3⟩ := side_two (Classical.not_not.1 h)
    rw [h3, h3, side_union h1 (fun e => hasP c.p e.dot)] at k
    rcases k with k | k
    · exact absurd rfl k
    · exact absurd rfl k
  case g5 =>
    intro _ h _ _ k
    obtain ⟨h1, h2, h3⟩ := side_two (Classical.not_not.1 h)
    rw [h3, dotsV_ok ((lst_iff _).2 (side_form h1 _))] at k
    exact absurd rfl k
  case g6 => intros; have := dotsV_len (sideV c.a c.p true).1; omega
  case g7 =>
    intro _ h _ _ _
    obtain ⟨h1, h2, h3⟩ := side_two (Classical.not_not.1 h)
    rw [h3, side_again h1, decide_eq_true ⟨rfl, rfl⟩]
end Go.Proofs.Ytjngmlkaijpbgaa
namespace Go.E
open Go.RowKit Go.ChangeShapes Go.WideShapes Go.ChangeAt
/-- An argument of a type. -/
def TyA (T : Tab) (L n t : Nat) (av : AV) : Prop :=
  match look T t with
  | some ti => if ti.isAgg then ∃ cs, av = .agg cs ∧ TyC T L n t cs else TyC T L n t [av]
  | none => False
def TyAll (T : Tab) (L n : Nat) : List Nat → List AV → Prop
  | [], [] => True
  | t :: ts, a :: aL => TyA T L n t a ∧ TyAll T L n ts aL
  | _, _ => False
section
variable {P : Program} {T : Tab} {H : Type} {enc : TypeId × Value → H} {W : World} {spare : Nat → Bool} {held : Bool}
theorem plain_not_cell (hT : TabOk P T) {n t : Nat} {ti : TI} (hti : look T t = some ti) (hp : plainT T n t = true) (hg : ti.isAgg = false) {r : Reach} {base : Nat} {v : Value} (hv : Value.okWide P W r base t v) : v.oneCell' = true ∨ ∃ x, v = x ∧ v.cells = #[v] := by
  have hu := (hT t ti hti).1
  unfold Value.okWide at hv
  rw [hu] at hv
  cases n with
  | zero => simp [plainT] at hp
  | succ n =>
    unfold plainT at hp
    rw [hti] at hp
    simp only at hp
    unfold TI.isAgg at hg
    cases hd : ti.desc with
    | bool => rw [hd] at hv; simp only [Cell.okWide, hu, hd, Cell.ok] at hv; cases v <;> simp_all [Value.oneCell', Value.cells]
    | int k => rw [hd] at hv; simp only [Cell.okWide, hu, hd, Cell.ok] at hv; cases v <;> simp_all [Value.oneCell', Value.cells]
    | string => rw [hd] at hv; simp only [Cell.okWide, hu, hd, Cell.ok] at hv; cases v <;> simp_all [Value.oneCell', Value.cells]
    | slice e => rw [hd] at hv; simp only [Cell.okWide, hu, hd, Cell.ok] at hv; cases v <;> simp_all [Value.oneCell', Value.cells]
    | struct fs => rw [hd] at hg; simp at hg
    | array k e => rw [hd] at hg; simp at hg
    | _ => rw [hd] at hp; first | exact absurd hp Bool.false_ne_true | cases hp
theorem open_arg (hT : TabOk P T) {n t : Nat} (hp : plainT T n t = true) {r : Reach} {base : Nat} {v : Value} {d : DataW H} {ps : List MemPlace} (hv : Value.okWide P W r base t v)
    (hd : DataW.Trod enc P W 0 spare held t v d ps) (hw : ∀ m ∈ d.weights P t, m ≤ reachBytes) {L : Nat} (hL : bulkD d ≤ L) : ∃ av, RelV0 (fun k => k < W.heap.size) W av v ∧ TyA T L n t av := by
  obtain ⟨ti, hti⟩ := plain_look hp
  obtain ⟨fuel, hf⟩ := hd
  obtain ⟨avs, hc, hty⟩ := opens hT n t hp fuel _ _ _ hf hw L hL
  by_cases hg : ti.isAgg = true
  · have hu := (hT t ti hti).1
    have hv' := hv
    unfold Value.okWide at hv'
    rw [hu] at hv'
    have : ∃ cs, v = .agg cs := by
      unfold TI.isAgg at hg
      split at hg
      · rename_i fs hd; rw [hd] at hv'; obtain ⟨cs, h, _⟩ := hv'; exact ⟨cs, h⟩
      · rename_i k e hd; rw [hd] at hv'; obtain ⟨cs, h, _⟩ := hv'; exact ⟨cs, h⟩
      · cases hg
    obtain ⟨cs, rfl⟩ := this
    refine ⟨.agg avs, ?_, by unfold TyA; rw [hti]; simp only [hg, if_true]; exact ⟨avs, rfl, hty⟩⟩
    have := RelV0.agg (S := fun k => k < W.heap.size) (w := W) avs cs.toList (by rw [hc.1]; simp [Value.cells]) (fun u hu => hc.2.1 u (by simpa [Value.cells] using hu)) (fun j a u ha hu => hc.2.2 j a u ha (by simpa [Value.cells] using hu))
    simpa using this
  · have hg' : ti.isAgg = false := by simpa using hg
    have h1 : v.cells.toList = [v] := by
      rcases plain_not_cell hT hti hp hg' hv with h | ⟨_, _, h⟩
      · cases v <;> simp_all [Value.oneCell', Value.cells]
      · rw [h]
    rw [h1] at hc
    obtain ⟨c1, _, c3⟩ := hc
    match avs, c1, c3, hty with
    | [a], _, c3, hty => exact ⟨a, c3 0 a v rfl rfl, by unfold TyA; rw [hti]; simp only [hg', Bool.false_eq_true, if_false]; exact hty⟩
theorem open_args (hT : TabOk P T) {L n : Nat} {r : Reach} {base : Nat} : ∀ (ts : List Nat) (vs : List Value) (ds : List (DataW H)) (ps : List MemPlace), (∀ t ∈ ts, plainT T n t = true) →
    (∀ (j : Nat) t v, ts[j]? = some t → vs[j]? = some v → Value.okWide P W r base t v) → DataW.TrodAll enc P W 0 spare held ts vs ds ps → (∀ m ∈ DataW.weightsEach P ts ds, m ≤ reachBytes) → bulkDs ds ≤ L →
    ∃ avs : List AV, avs.length = vs.length ∧ (∀ (j : Nat) (a : AV) (u : Value), avs[j]? = some a → vs[j]? = some u → RelV0 (fun k => k < W.heap.size) W a u) ∧ TyAll T L n ts avs ∧ ds.length = ts.length
  | [], [], [], ps, _, _, _, _, _ => ⟨[], rfl, fun j a u ha => by simp at ha, trivial, rfl⟩
  | t :: ts, v :: vs, d :: ds, ps, hp, hv, hA, hw, hL => by
    simp only [bulkDs] at hL
    obtain ⟨p, q, h1, h2, _⟩ := hA
    obtain ⟨a, e1, e2⟩ := open_arg hT (hp t (by simp)) (hv 0 t v rfl rfl) h1 (fun m hm => hw m (by simp only [DataW.weightsEach, List.mem_append]; exact .inl hm)) (L := L) (by omega)
    obtain ⟨aL, f1, f2, f3, f4⟩ := open_args (L := L) hT ts vs ds q (fun t ht => hp t (List.mem_cons_of_mem _ ht)) (fun j t v ht hv' => hv (j + 1) t v (by simpa using ht) (by simpa using hv')) h2 (fun m hm => hw m (by simp only [DataW.weightsEach, List.mem_append]; exact .inr hm)) (by omega)
    refine ⟨a :: aL, by simp [f1], fun j b u hb hu => ?_, ⟨e2, f3⟩, by simp [f4]⟩
    cases j with
    | zero => simp at hb hu; subst hb hu; exact e1
    | succ j => exact f2 j b u (by simpa using hb) (by simpa using hu)
  | [], _ :: _, _, _, _, _, hA, _, _ => hA.elim
  | [], [], _ :: _, _, _, _, hA, _, _ => hA.elim
  | _ :: _, [], _, _, _, _, hA, _, _ => hA.elim
  | _ :: _, _ :: _, [], _, _, _, hA, _, _ => hA.elim
theorem trodAll_stays (hl : laidOutB P = true) {W' : World} (hb : Below W.heap.size W W') : ∀ (ts : List Nat) (vs : List Value) (ds : List (DataW H)) (ps : List MemPlace), (∀ t ∈ ts, P.readableRec t = true ∧ t < P.types.size) →
    (∀ x ∈ ps, x.block < W.heap.size) → DataW.TrodAll enc P W 0 (fun _ => true) true ts vs ds ps → DataW.TrodAll enc P W' 0 (fun b => decide (b < W.heap.size)) true ts vs ds ps
  | [], [], [], ps, _, _, h => h
  | t :: ts, v :: vs, d :: ds, ps, hr, hlt, h => by
    obtain ⟨p, q, h1, h2, rfl⟩ := h
    exact ⟨p, q, Below.trod hl (hr t (by simp)).1 (hr t (by simp)).2 h1 hb (fun x hx => hlt x (List.mem_append_left _ hx)),
      trodAll_stays hl hb ts vs ds q (fun t ht => hr t (List.mem_cons_of_mem _ ht)) (fun x hx => hlt x (List.mem_append_right _ hx)) h2, rfl⟩
  | [], _ :: _, _, _, _, _, hA => hA.elim
  | [], [], _ :: _, _, _, _, hA => hA.elim
  | _ :: _, [], _, _, _, _, hA => hA.elim
  | _ :: _, _ :: _, [], _, _, _, hA => hA.elim
end
/-- What the contract gives, of one reading. -/
theorem law_core {T : Tab} {C : Checked} {f : FuncId} {fn : Func} {s : ChangeSpec} {H : Type} {enc : TypeId × Value → H} (ts : List Nat) (tb L n : Nat)
    (hT : TabOk C.prog T) (hl : laidOutB C.prog = true)
    (hts : fn.params = ts.toArray) (htb : fn.resultTypes = #[tb]) (hub : C.prog.underlying tb = some .bool) (hpl : ts.all (fun t => plainT T n t && C.prog.readableRec t && Nat.blt t C.prog.types.size) = true)
    (hvars : s.vars = []) (hspec : ∀ ds : List (DataW H), ds.length = ts.length → s.fn H (ds ++ []) = { results := [.lit (.bool true)], args := ds })
    (hcon : ∀ avs, TyAll T L n ts avs → Con C.prog f avs (.b true)) {W : World} {base : Nat} {args : Array Value} {ds gs : List (DataW H)} {before : List MemPlace} {us : List Nat}
    (hval : ∀ (j : Nat) t v, fn.params[j]? = some t → args[j]? = some v → Value.okWide C.prog W .any base t v) (hW : DataW.Whole enc C.prog fn.params.toList s.vars false W args.toList ds gs before)
    (hsz : (DataW.weightsEach C.prog (fn.params.toList ++ us) (ds ++ gs)).all (· ≤ reachBytes) = true) (hbk : bulkDs (ds ++ gs) ≤ L) :
    Calls C.prog f args W fun e W' => ∃ v, e = .returned v ∧ s.post enc C.prog fn false true false false W args v W' := by
  have hW' := hW
  obtain ⟨p, q, hA, hV, rfl, _, _⟩ := hW
  rw [hvars] at hV
  obtain ⟨rfl, rfl⟩ := trodVars_none hV
  rw [List.append_nil] at hW' hbk
  have hpars : fn.params.toList = ts := by rw [hts]
  have hA' : DataW.TrodAll enc C.prog W 0 (fun _ => true) true ts args.toList ds p := by rw [← hpars]; exact hA
  have hpl' : ∀ t ∈ ts, plainT T n t = true ∧ C.prog.readableRec t = true ∧ t < C.prog.types.size := by
    intro t ht
    have := List.all_eq_true.1 hpl t ht
    simp only [Bool.and_eq_true] at this
    exact ⟨this.1.1, this.1.2, by simpa using this.2⟩
  have hw : ∀ m ∈ DataW.weightsEach C.prog ts ds, m ≤ reachBytes := by
    intro m hm
    have hsz' := hsz
    rw [List.append_nil, hpars] at hsz'
    have hsub : ∀ (ts us : List Nat) (ds : List (DataW H)), ∀ m ∈ DataW.weightsEach C.prog ts ds, m ∈ DataW.weightsEach C.prog (ts ++ us) ds := by
      intro ts us ds
      induction ts generalizing ds with
      | nil => intro m hm; cases ds <;> simp [DataW.weightsEach] at hm
      | cons t ts ih =>
        intro m hm
        cases ds with
        | nil => simp [DataW.weightsEach] at hm
        | cons d ds =>
          simp only [DataW.weightsEach, List.cons_append, List.mem_append] at hm ⊢
          rcases hm with hm | hm
          · exact .inl hm
          · exact .inr (ih ds m hm)
    have := List.all_eq_true.1 hsz' m (hsub ts _ ds m hm)
    simpa using this
  obtain ⟨avs, h1, h2, h3, h4⟩ := open_args hT ts args.toList ds p (fun t ht => (hpl' t ht).1) (fun j t v ht hv => hval j t v (by rw [hts]; simpa using ht) (by simpa using hv)) hA' hw hbk
  have hlt : ∀ x ∈ p, x.block < W.heap.size := fun x hx => hW'.lt x hx
  have hsp := hspec ds h4
  have := (hcon avs h3).2 W (fun k => k < W.heap.size) args.toList (fun _ h => h) (by rw [h1]) h2
  rw [Array.toArray_toList] at this
  refine this.mono fun e W' ⟨v, he, hr, hb⟩ => ?_
  cases hr with
  | b =>
    refine ⟨_, he, ds, [], p, [], p, [], hW', ?_, ?_, ?_, hb.frame _, fun h => by cases h⟩
    · rw [hsp, htb]
      exact trodAll_mk1 (shut_bool hub true)
    · rw [hsp, hpars]
      exact trodAll_stays hl hb ts args.toList ds p (fun t ht => (hpl' t ht).2) hlt hA'
    · rw [hsp, hvars]
      rfl
/-- **A law's row, from its contract.** -/
theorem law_lifted {T : Tab} {C : Checked} {os : Os} {f : FuncId} {fn : Func} {s : ChangeSpec} {conds : List PathCond} {H : Type} {enc : TypeId × Value → H} (ts : List Nat) (tb n : Nat)
    (hT : TabOk C.prog T) (hl : laidOutB C.prog = true) (own : ownKnob C.prog.godebug = none) (started : os.Started) (noInit : C.prog.inits.idxOf? f = none) (hfn : C.prog.funcs[f]? = some fn)
    (hts : fn.params = ts.toArray) (htb : fn.resultTypes = #[tb]) (hub : C.prog.underlying tb = some .bool) (hpl : ts.all (fun t => plainT T n t && C.prog.readableRec t && Nat.blt t C.prog.types.size) = true)
    (hvars : s.vars = []) (hspec : ∀ ds : List (DataW H), ds.length = ts.length → s.fn H (ds ++ []) = { results := [.lit (.bool true)], args := ds })
    (witness : ∃ (w : World) (tape : Tape) (i : Input), w.os = os ∧ (w.forCall tape i).Shaped C.prog ∧ i.vars = [] ∧ Input.okWide C.prog (w.forCall tape i) .any w.heap.size f i ∧
      s.pre6 enc C.prog fn conds false (w.forCall tape i).memory i.args ∧ ({} : Assume).holds C.prog (lone (Frame.enter C.prog f i.args .normal) [] (w.forCall tape i)))
    (hcon : ∀ L avs, TyAll T L n ts avs → Con C.prog f avs (.b true)) :
    ReturnsInHanded {} C os f .any (s.pre6 enc C.prog fn conds false) (s.post enc C.prog fn false true false false) := by
  refine returnsInHanded_of_change_sized own started noInit hfn witness ?_
  intro W base args ds gs before hval hW _ hsz _
  exact law_core ts tb (bulkDs (ds ++ gs)) n hT hl hts htb hub hpl hvars hspec (hcon _) hval hW hsz (Nat.le_refl _)
/-- **The same of the second form**: where what is read is of a bounded bulk. -/
theorem law_lifted_upto {T : Tab} {C : Checked} {os : Os} {f : FuncId} {fn : Func} {s : ChangeSpec} {u : OpenSpec} {k : (H : Type) → List (DataW H) → Bool} {conds : List PathCond} {H : Type} {enc : TypeId × Value → H} (F : Stop.Interp) (ts : List Nat) (tb L n : Nat)
    (hu : u = { OpenSpec.ofChange s with cond := some k }) (hk : ∀ ds : List (DataW H), k H ds = true → bulkDs ds ≤ L)
    (hT : TabOk C.prog T) (hl : laidOutB C.prog = true) (own : ownKnob C.prog.godebug = none) (started : os.Started) (noInit : C.prog.inits.idxOf? f = none) (hfn : C.prog.funcs[f]? = some fn)
    (hts : fn.params = ts.toArray) (htb : fn.resultTypes = #[tb]) (hub : C.prog.underlying tb = some .bool) (hpl : ts.all (fun t => plainT T n t && C.prog.readableRec t && Nat.blt t C.prog.types.size) = true)
    (hvars : s.vars = []) (hspec : ∀ ds : List (DataW H), ds.length = ts.length → s.fn H (ds ++ []) = { results := [.lit (.bool true)], args := ds })
    (witness : ∃ (w : World) (tape : Tape) (i : Input), w.os = os ∧ (w.forCall tape i).Shaped C.prog ∧ i.vars = [] ∧ Input.okWide C.prog (w.forCall tape i) .any w.heap.size f i ∧
      u.pre6 enc C.prog fn conds false (w.forCall tape i).memory i.args ∧ ({} : Assume).holds C.prog (lone (Frame.enter C.prog f i.args .normal) [] (w.forCall tape i)))
    (hcon : ∀ avs, TyAll T L n ts avs → Con C.prog f avs (.b true)) :
    ReturnsInHanded {} C os f .any (u.pre6 enc C.prog fn conds false) ((u.at F).post enc C.prog fn false true false false) := by
  subst hu
  refine returnsInHanded_of_cond_sized (k := k) rfl own started noInit hfn witness ?_
  intro W base args ds gs before hval hW _ hkk hsz _
  exact law_core ts tb L n hT hl hts htb hub hpl hvars hspec hcon hval hW hsz (hk _ hkk)
theorem rows_typed {α : Type} {g : α → List AV} {Q : α → Prop} {C : List AV → Prop} (h : ∀ r, C r → ∃ x, r = g x ∧ Q x) : ∀ (rows : List (List AV)), (∀ r ∈ rows, C r) → ∃ xs : List α, rows = xs.map g ∧ ∀ x ∈ xs, Q x
  | [], _ => ⟨[], rfl, fun x hx => by simp at hx⟩
  | r :: rows, hr => by
    obtain ⟨x, h1, h2⟩ := h r (hr r (by simp))
    obtain ⟨xs, h3, h4⟩ := rows_typed h rows fun q hq => hr q (List.mem_cons_of_mem _ hq)
    refine ⟨x :: xs, by rw [h1, h3]; rfl, fun y hy => ?_⟩
    rcases List.mem_cons.1 hy with rfl | hy
    · exact h2
    · exact h4 y hy
end Go.E
namespace Go.Proofs.Ytjngmlkaijpbgaa
open Go.E
set_option maxRecDepth 100000
set_option maxHeartbeats 4000000
open Go.ChangeShapes Go.WideShapes Go.ChangeAt Go.RowKit Go
theorem Try.own : Go.ownKnob Try.prog.godebug = none := by kernel_rfl
theorem Try.laidOut : laidOutB Try.prog = true := by kernel_rfl
def inr (n : Int) : Prop := -9223372036854775808 ≤ n ∧ n ≤ 9223372036854775807
theorem ty3 {L n : Nat} {cs : List AV} (h : TyC tab L (n + 1) 3 cs) : ∃ x, cs = c3 x ∧ inr x := by
  obtain ⟨x, rfl, h1, h2⟩ := h
  exact ⟨x, rfl, h1, h2⟩
theorem ty33 {L n : Nat} {cs : List AV} (h : TyC tab L (n + 2) 33 cs) : ∃ xs : List Int, cs = c33 xs ∧ sz22 xs := by
  obtain ⟨rows, rfl, h1, h2, hL, h3⟩ := h
  obtain ⟨xs, rfl, hx⟩ := rows_typed (fun r hr => ty3 hr) rows h3
  exact ⟨xs, rfl, by rw [List.length_map] at h2; exact h2⟩
theorem ty26 {L n : Nat} {cs : List AV} (h : TyC tab L (n + 2) 26 cs) : ∃ d : Dot, cs = c26 d ∧ inr d.rep ∧ inr d.num := by
  obtain ⟨a, b, rfl, ha, c, d, rfl, hc, rfl⟩ := h
  obtain ⟨x, rfl, hx⟩ := ty3 ha
  obtain ⟨y, rfl, hy⟩ := ty3 hc
  exact ⟨⟨x, y⟩, rfl, hx, hy⟩
theorem one_eq {a b : AV} (h : [a] = [b]) : a = b := by simpa using h
theorem ta3 {L : Nat} {a : AV} (h : TyA tab L 9 3 a) : ∃ x, a = .i .i64 x ∧ inr x := by
  obtain ⟨x, hx, k⟩ := ty3 (L := L) (n := 8) (cs := [a]) h
  exact ⟨x, one_eq hx, k⟩
theorem ta33 {L : Nat} {a : AV} (h : TyA tab L 9 33 a) : ∃ x : List Int, a = .sl (x.map c3) ∧ sz22 x := by
  obtain ⟨x, hx, k⟩ := ty33 (L := L) (n := 7) (cs := [a]) h
  exact ⟨x, one_eq hx, k⟩
theorem ta26 {L : Nat} {a : AV} (h : TyA tab L 9 26 a) : ∃ x : Dot, a = .agg (c26 x) ∧ inr x.rep ∧ inr x.num := by
  obtain ⟨cs, rfl, h2⟩ := (show ∃ cs, a = .agg cs ∧ TyC tab L 9 26 cs from h)
  obtain ⟨d, rfl, k⟩ := ty26 (L := L) (n := 7) h2
  exact ⟨d, rfl, k⟩
theorem ty9 {L n : Nat} {cs : List AV} (h : TyC tab L (n + 1) 9 cs) : ∃ s : ByteArray, cs = [.s s] ∧ s.size ≤ 140737488351232 := by
  obtain ⟨s, rfl, _, h2, _⟩ := h
  exact ⟨s, rfl, h2⟩
theorem ta9 {L : Nat} {a : AV} (h : TyA tab L 9 9 a) : ∃ s : ByteArray, a = .s s ∧ s.size ≤ 140737488351232 := by
  obtain ⟨x, hx, k⟩ := ty9 (L := L) (n := 8) (cs := [a]) h
  exact ⟨x, one_eq hx, k⟩
theorem ty81 {L n : Nat} {cs : List AV} (h : TyC tab L (n + 2) 81 cs) : ∃ d : Span, cs = c81 d ∧ inr d.rep ∧ inr d.lo ∧ inr d.hi := by
  obtain ⟨a, b, rfl, ha, c, d, rfl, hc, e, f, rfl, he, rfl⟩ := h
  obtain ⟨x, rfl, hx⟩ := ty3 ha
  obtain ⟨y, rfl, hy⟩ := ty3 hc
  obtain ⟨z, rfl, hz⟩ := ty3 he
  exact ⟨⟨x, y, z⟩, rfl, hx, hy, hz⟩
def inE (e : Entry) : Prop := inr e.dot.rep ∧ inr e.dot.num ∧ e.sku.size ≤ 140737488351232 ∧ inr e.qty
theorem ty28 {L n : Nat} {cs : List AV} (h : TyC tab L (n + 3) 28 cs) : ∃ e : Entry, cs = c28 e ∧ inE e := by
  obtain ⟨a, b, rfl, ha, c, d, rfl, hc, e, f, rfl, he, rfl⟩ := h
  obtain ⟨x, rfl, hx⟩ := ty26 ha
  obtain ⟨y, rfl, hy⟩ := ty9 hc
  obtain ⟨z, rfl, hz⟩ := ty3 he
  exact ⟨⟨x, y, z⟩, rfl, hx.1, hx.2, hy, hz⟩
theorem ty22 {L n : Nat} {cs : List AV} (h : TyC tab L (n + 4) 22 cs) : ∃ xs : List Entry, cs = [.sl (xs.map c28)] ∧ ((∀ x ∈ xs, inE x) ∧ xs.length * 40 ≤ 140737488351232) ∧ xs.length ≤ L := by
  obtain ⟨rows, rfl, h1, h2, hL, h3⟩ := h
  obtain ⟨xs, rfl, hx⟩ := rows_typed (fun r hr => ty28 hr) rows h3
  exact ⟨xs, rfl, ⟨hx, by rw [List.length_map] at h2; exact h2⟩, by rw [List.length_map] at hL; exact hL⟩
theorem ta22 {L : Nat} {a : AV} (h : TyA tab L 9 22 a) : ∃ xs : List Entry, a = .sl (xs.map c28) ∧ ((∀ x ∈ xs, inE x) ∧ xs.length * 40 ≤ 140737488351232) ∧ xs.length ≤ L := by
  obtain ⟨x, hx, k⟩ := ty22 (L := L) (n := 5) (cs := [a]) h
  exact ⟨x, one_eq hx, k⟩
theorem ty34 {L n : Nat} {cs : List AV} (h : TyC tab L (n + 3) 34 cs) : ∃ xs : List Span, cs = [.sl (xs.map c81)] ∧ (∀ x ∈ xs, inr x.rep ∧ inr x.lo ∧ inr x.hi) ∧ xs.length * 24 ≤ 140737488351232 := by
  obtain ⟨rows, rfl, h1, h2, hL, h3⟩ := h
  obtain ⟨xs, rfl, hx⟩ := rows_typed (fun r hr => ty81 hr) rows h3
  exact ⟨xs, rfl, hx, by rw [List.length_map] at h2; exact h2⟩
def inP (p : Past) : Prop := p.vec.length * 8 ≤ 140737488351232 ∧ (∀ x ∈ p.cloud, inr x.rep ∧ inr x.lo ∧ inr x.hi) ∧ p.cloud.length * 24 ≤ 140737488351232
theorem ty36 {L n : Nat} {cs : List AV} (h : TyC tab L (n + 4) 36 cs) : ∃ p : Past, cs = c36 p ∧ inP p := by
  obtain ⟨a, b, rfl, ha, c, d, rfl, hc, rfl⟩ := h
  obtain ⟨x, rfl, hx⟩ := ty33 (L := L) (n := n + 1) ha
  obtain ⟨y, rfl, hy⟩ := ty34 hc
  exact ⟨⟨x, y⟩, rfl, hx, hy⟩
def inC (c : Case) : Prop := ((∀ x ∈ c.a, inE x) ∧ c.a.length * 40 ≤ 140737488351232) ∧ ((∀ x ∈ c.b, inE x) ∧ c.b.length * 40 ≤ 140737488351232) ∧ inP c.p ∧ c.sku.size ≤ 140737488351232
theorem ty38 {L n : Nat} {cs : List AV} (h : TyC tab L (n + 5) 38 cs) : ∃ c : Case, cs = c38 c ∧ inC c ∧ c.a.length ≤ L ∧ c.b.length ≤ L := by
  obtain ⟨a, b, rfl, ha, a2, b2, rfl, ha2, a3, b3, rfl, ha3, a4, b4, rfl, ha4, a5, b5, rfl, ha5, a6, b6, rfl, ha6, rfl⟩ := h
  obtain ⟨x1, rfl, h1⟩ := ty22 ha
  obtain ⟨x2, rfl, h2⟩ := ty22 ha2
  obtain ⟨x3, rfl, h3⟩ := ty36 ha3
  obtain ⟨x4, rfl, h4⟩ := ty26 (L := L) (n := n + 2) ha4
  obtain ⟨x5, rfl, h5⟩ := ty3 (L := L) (n := n + 3) ha5
  obtain ⟨x6, rfl, h6⟩ := ty9 (L := L) (n := n + 3) ha6
  exact ⟨⟨x1, x2, x3, x4, x5, x6⟩, rfl, ⟨h1.1, h2.1, h3, h6⟩, h1.2, h2.2⟩
theorem ta38 {L : Nat} {a : AV} (h : TyA tab L 9 38 a) : ∃ c : Case, a = .agg (c38 c) ∧ inC c ∧ c.a.length ≤ L ∧ c.b.length ≤ L := by
  obtain ⟨cs, rfl, h2⟩ := (show ∃ cs, a = .agg cs ∧ TyC tab L 9 38 cs from h)
  obtain ⟨d, rfl, k⟩ := ty38 (L := L) (n := 4) h2
  exact ⟨d, rfl, k⟩
mutual
theorem bulk_eq {H : Type} : ∀ d : DataW H, Rows.uptoBulk d = bulkD d
  | .lit l => by cases l <;> simp [Rows.uptoBulk, bulkD]
  | .nil => by simp [Rows.uptoBulk, bulkD]
  | .ptr d => by simp only [Rows.uptoBulk, bulkD, bulk_eq d]
  | .slice elems spare => by simp only [Rows.uptoBulk, bulkD, bulks_eq elems, bulks_eq spare]
  | .agg parts => by simp only [Rows.uptoBulk, bulkD, bulks_eq parts]
  | .iface _ d => by simp only [Rows.uptoBulk, bulkD, bulk_eq d]
  | .map entries => by simp only [Rows.uptoBulk, bulkD, bulkm_eq entries]
  | .held _ => by simp [Rows.uptoBulk, bulkD]
theorem bulks_eq {H : Type} : ∀ l : List (DataW H), Rows.uptoBulkAll l = bulkDs l
  | [] => by simp [Rows.uptoBulkAll, bulkDs]
  | d :: r => by simp only [Rows.uptoBulkAll, bulkDs, bulk_eq d, bulks_eq r]
theorem bulkm_eq {H : Type} : ∀ l : List (Lit × DataW H), Rows.uptoBulkEntries l = bulkDm l
  | [] => by simp [Rows.uptoBulkEntries, bulkDm]
  | x :: r => by simp only [Rows.uptoBulkEntries, bulkDm, bulke_eq x, bulkm_eq r]
theorem bulke_eq {H : Type} : ∀ x : Lit × DataW H, Rows.uptoBulkEntry x = bulkDe x
  | (l, d) => by cases l <;> simp only [Rows.uptoBulkEntry, bulkDe, bulk_eq d]
end
theorem bulk_small {H : Type} (ds : List (DataW H)) (h : Rows.uptoSmall H ds = true) : bulkDs ds ≤ 1048576 := by
  rw [← bulks_eq]
  exact of_decide_eq_true h
end Go.Proofs.Ytjngmlkaijpbgaa
namespace Go.Proofs.Ytjngmlkaijpbgaa
open Go.E Go.ChangeShapes Go.WideShapes Go.ChangeAt Go.RowKit
set_option maxRecDepth 100000
theorem law13 {L : Nat} {a1 : AV} (h1 : TyA tab L 9 38 a1) : Con Try.prog 13 [a1] (.b true) := by
  obtain ⟨x1, rfl, k1⟩ := ta38 h1
  exact con13 x1 (by have := k1.1.2.2.1.2; omega) (by have := k1.1.2.2.1.1; omega)
theorem LinesParts_lifted (os : Os) (started : os.Started) (H : Type) (enc : TypeId × Value → H) :
    ReturnsInHanded {} Try.checked os 13 .any (Rows.linesPartsSpec.pre6 enc Try.prog Try.f13 Rows.linesPartsRow.domain false) (Rows.linesPartsSpec.post enc Try.prog Try.f13 false true false false) := by
  refine law_lifted (C := Try.checked) [38] 4 9 tab_ok Try.laidOut Try.own started (by kernel_rfl) Try.func13 rfl rfl (by kernel_rfl) (by kernel_rfl) rfl ?_
    (ChangeSpec.witness6 (enc := enc) (C := Try.checked) false ⟨#[], #[.agg #[.slice none 0 0, .slice none 0 0, .slice none 0 0, .slice none 0 0, .int .i64 0, .int .i64 0, .int .i64 0, .string ⟨#[]⟩]], []⟩ 8 (by kernel_rfl) (by kernel_rfl) (by kernel_rfl) (by kernel_rfl)) ?_
  · intro ds hds
    rcases ds with _ | ⟨d1, _ | ⟨d2, l⟩⟩
    · exact absurd hds (by simp)
    · kernel_rfl
    · exact absurd hds (by simp)
  · intro L avs h
    rcases avs with _ | ⟨a1, _ | ⟨a2, l⟩⟩
    · exact h.elim
    · exact law13 h.1
    · exact h.2.elim
theorem LinesParts_holds : Rows.LinesPartsSaid :=
  OpenClaim.holds_of_wide 13 Try.f13 rfl rfl rfl rfl rfl rfl rfl ⟨rfl, rfl, rfl, rfl, rfl⟩ rfl rfl rfl rfl rfl (by kernel_rfl) Try.func13 (by kernel_rfl)
    (of_decide_eq_true (by kernel_rfl)) (by unfold Func.isWrapper; first | (rw [if_pos (by decide +kernel)]; kernel_rfl) | (rw [if_neg (by decide +kernel)]; exact ⟨rfl, rfl⟩))
    (fun os started H enc _ => LinesParts_lifted os started H enc)
end Go.Proofs.Ytjngmlkaijpbgaa
