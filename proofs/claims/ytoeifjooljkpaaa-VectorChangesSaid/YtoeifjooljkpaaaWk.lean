/- Wk: walks, written by a program of this claim's own, and what each function hands back. Conditions: none. -/
import Derived.Test.YtoeifjooljkpaaaWj
import Derived.Test.YtoeifjooljkpaaaWg
set_option linter.unusedVariables false
set_option linter.unusedSimpArgs false
namespace Go.Proofs.Ytoeifjooljkpaaa
open Go.E
set_option maxRecDepth 100000
theorem walk4 (v : List Int) (rep : Int) (n : Int)
    (g0 : ¬¬(bumpV v rep n).fst = (bumpV v rep n).fst → AV.b (decide ((putV v rep n).fst = (putV v rep n).fst)) = AV.b true) :
    Con Try.prog (4 : FuncId) [AV.sl (List.map c3 v), AV.i IntKind.i64 rep, AV.i IntKind.i64 n] (AV.b true) := by
  refine con_lens 0 (c3) (v) (by kernel_rfl) Go.Proofs.Try.func4 (by kernel_rfl) fun hl_0 => ?_
  refine st_con tab_ok (by kernel_rfl) [.tmp 6] 91 Go.Proofs.Try.func4 (by kernel_rfl) (by kernel_rfl) ?_
  intro e0 cx
  refine st_seq (by kernel_rfl) ?_
  refine st_reg (A := True) (σ' := ⟨[(0, .sl (List.map c3 v)), (1, .i .i64 (rep)), (2, .i .i64 (n))], []⟩) cx [] [0, 1, 2] [] (by kernel_rfl) (by kernel_rfl) trivial ?_
  refine q_seq_normal ?_
  refine st_seq (by kernel_rfl) ?_
  refine st_reg (A := (Con Try.prog (19 : FuncId) [AV.sl (List.map c3 [(3 : Int)]), AV.i IntKind.i64 (2 : Int), AV.i IntKind.i64 (10 : Int)] (AV.tup [AV.sl (List.map c3 (bumpV [(3 : Int)] (2 : Int) (10 : Int)).fst), AV.agg (c24 (bumpV [(3 : Int)] (2 : Int) (10 : Int)).snd.fst), AV.i IntKind.i64 (bumpV [(3 : Int)] (2 : Int) (10 : Int)).snd.snd]))) (σ' := ⟨[(0, .sl (List.map c3 v)), (1, .i .i64 (rep)), (2, .i .i64 (n)), (8, .ptr (8) (0) (0) (0)), (7, .sl (List.map c3 (bumpV [(3 : Int)] (2 : Int) (10 : Int)).fst)), (9, .i .i64 ((0 : Int)))], [(8, ⟨0, 24, .var [.i .i64 ((2 : Int)), .i .i64 ((1 : Int))]⟩)]⟩) cx [(1, { val := some (.tup [.sl (List.map c3 (bumpV [(3 : Int)] (2 : Int) (10 : Int)).fst), .agg [.i .i64 ((2 : Int)), .i .i64 ((1 : Int))], .i .i64 ((0 : Int))]) })] [0, 1, 2, 8, 7, 9] [8] (by kernel_rfl) (by kernel_rfl) (con19 ([(3 : Int)]) ((2 : Int)) ((10 : Int))) ?_
  refine q_seq_normal ?_
  refine st_seq (by kernel_rfl) ?_
  refine st_seq (by kernel_rfl) ?_
  refine st_reg (A := (Flat (AV.b true)) ∧ (Con Try.prog (20 : FuncId) [AV.sl (List.map c3 (bumpV [(3 : Int)] (2 : Int) (10 : Int)).fst), AV.sl (List.map c3 [(3 : Int), (0 : Int), (1 : Int)])] (AV.b (decide ((bumpV [(3 : Int)] (2 : Int) (10 : Int)).fst = [(3 : Int), (0 : Int), (1 : Int)]))))) (σ' := ⟨[(0, .sl (List.map c3 v)), (1, .i .i64 (rep)), (2, .i .i64 (n)), (8, .ptr (8) (0) (0) (0)), (38, .b (false))], [(8, ⟨0, 24, .var [.i .i64 ((2 : Int)), .i .i64 ((1 : Int))]⟩)]⟩) cx [(15, { val := some (.b (true)), flat := true })] [0, 1, 2, 8, 38] [8] (by kernel_rfl) (by kernel_rfl) ⟨(by exact Flat.b _), (con20 ((bumpV [(3 : Int)] (2 : Int) (10 : Int)).fst) ([(3 : Int), (0 : Int), (1 : Int)]))⟩ ?_
  refine q_seq_normal ?_
  refine st_false (by kernel_rfl) (by kernel_rfl) ?_
  refine st_skip (by kernel_rfl) ?_
  refine q_seq_normal ?_
  refine st_seq (by kernel_rfl) ?_
  refine st_reg (A := (Con Try.prog (21 : FuncId) [AV.sl (List.map c3 v), AV.i IntKind.i64 rep, AV.i IntKind.i64 n] (AV.tup [AV.sl (List.map c3 (bumpV v rep n).fst), AV.agg (c24 (bumpV v rep n).snd.fst), AV.i IntKind.i64 (bumpV v rep n).snd.snd]))) (σ' := ⟨[(0, .sl (List.map c3 v)), (1, .i .i64 (rep)), (2, .i .i64 (n)), (8, .ptr (8) (0) (0) (0)), (11, .ptr (11) (0) (0) (0)), (10, .sl (List.map c3 (bumpV v rep n).fst)), (12, .i .i64 ((bumpV v rep n).snd.snd))], [(8, ⟨0, 24, .var [.i .i64 ((2 : Int)), .i .i64 ((1 : Int))]⟩), (11, ⟨0, 24, .var [.i .i64 ((bumpV v rep n).snd.fst.rep), .i .i64 ((bumpV v rep n).snd.fst.num)]⟩)]⟩) cx [(3, { val := some (.tup [.sl (List.map c3 (bumpV v rep n).fst), .agg [.i .i64 ((bumpV v rep n).snd.fst.rep), .i .i64 ((bumpV v rep n).snd.fst.num)], .i .i64 ((bumpV v rep n).snd.snd)]) })] [0, 1, 2, 8, 11, 10, 12] [8, 11] (by kernel_rfl) (by kernel_rfl) (con21 (v) (rep) (n)) ?_
  refine q_seq_normal ?_
  refine st_seq (by kernel_rfl) ?_
  refine st_reg (A := (Con Try.prog (22 : FuncId) [AV.sl (List.map c3 v), AV.i IntKind.i64 rep, AV.i IntKind.i64 n] (AV.tup [AV.sl (List.map c3 (putV v rep n).fst), AV.i IntKind.i64 (putV v rep n).snd]))) (σ' := ⟨[(0, .sl (List.map c3 v)), (1, .i .i64 (rep)), (2, .i .i64 (n)), (8, .ptr (8) (0) (0) (0)), (11, .ptr (11) (0) (0) (0)), (10, .sl (List.map c3 (bumpV v rep n).fst)), (12, .i .i64 ((bumpV v rep n).snd.snd)), (13, .sl (List.map c3 (putV v rep n).fst)), (14, .i .i64 ((putV v rep n).snd))], [(8, ⟨0, 24, .var [.i .i64 ((2 : Int)), .i .i64 ((1 : Int))]⟩), (11, ⟨0, 24, .var [.i .i64 ((bumpV v rep n).snd.fst.rep), .i .i64 ((bumpV v rep n).snd.fst.num)]⟩)]⟩) cx [(3, { val := some (.tup [.sl (List.map c3 (putV v rep n).fst), .i .i64 ((putV v rep n).snd)]) })] [0, 1, 2, 8, 11, 10, 12, 13, 14] [8, 11] (by kernel_rfl) (by kernel_rfl) (con22 (v) (rep) (n)) ?_
  refine q_seq_normal ?_
  refine st_seq (by kernel_rfl) ?_
  refine st_reg (A := (Con Try.prog (19 : FuncId) [AV.sl (List.map c3 v), AV.i IntKind.i64 rep, AV.i IntKind.i64 n] (AV.tup [AV.sl (List.map c3 (bumpV v rep n).fst), AV.agg (c24 (bumpV v rep n).snd.fst), AV.i IntKind.i64 (bumpV v rep n).snd.snd]))) (σ' := ⟨[(0, .sl (List.map c3 v)), (1, .i .i64 (rep)), (2, .i .i64 (n)), (8, .ptr (8) (0) (0) (0)), (11, .ptr (11) (0) (0) (0)), (10, .sl (List.map c3 (bumpV v rep n).fst)), (12, .i .i64 ((bumpV v rep n).snd.snd)), (13, .sl (List.map c3 (putV v rep n).fst)), (14, .i .i64 ((putV v rep n).snd)), (7, .sl (List.map c3 (bumpV v rep n).fst)), (9, .i .i64 ((bumpV v rep n).snd.snd))], [(8, ⟨0, 24, .var [.i .i64 ((bumpV v rep n).snd.fst.rep), .i .i64 ((bumpV v rep n).snd.fst.num)]⟩), (11, ⟨0, 24, .var [.i .i64 ((bumpV v rep n).snd.fst.rep), .i .i64 ((bumpV v rep n).snd.fst.num)]⟩)]⟩) cx [(3, { val := some (.tup [.sl (List.map c3 (bumpV v rep n).fst), .agg [.i .i64 ((bumpV v rep n).snd.fst.rep), .i .i64 ((bumpV v rep n).snd.fst.num)], .i .i64 ((bumpV v rep n).snd.snd)]) })] [0, 1, 2, 8, 11, 10, 12, 13, 14, 7, 9] [8, 11] (by kernel_rfl) (by kernel_rfl) (con19 (v) (rep) (n)) ?_
  refine q_seq_normal ?_
  refine st_seq (by kernel_rfl) ?_
  refine st_seq (by kernel_rfl) ?_
  refine st_reg (A := (AV.b ((bumpV v rep n).snd.snd != (bumpV v rep n).snd.snd) = AV.b false) ∧ (AggEq Try.prog (24 : Nat) [AV.i IntKind.i64 (bumpV v rep n).snd.fst.rep, AV.i IntKind.i64 (bumpV v rep n).snd.fst.num] [AV.i IntKind.i64 (bumpV v rep n).snd.fst.rep, AV.i IntKind.i64 (bumpV v rep n).snd.fst.num] !false) ∧ (Con Try.prog (20 : FuncId) [AV.sl (List.map c3 (bumpV v rep n).fst), AV.sl (List.map c3 (bumpV v rep n).fst)] (AV.b (decide ((bumpV v rep n).fst = (bumpV v rep n).fst)))) ∧ ((AV.b !decide ((bumpV v rep n).fst = (bumpV v rep n).fst)) = AV.b (decide ¬(bumpV v rep n).fst = (bumpV v rep n).fst))) (σ' := ⟨[(0, .sl (List.map c3 v)), (1, .i .i64 (rep)), (2, .i .i64 (n)), (13, .sl (List.map c3 (putV v rep n).fst)), (14, .i .i64 ((putV v rep n).snd)), (75, .b (decide ¬(bumpV v rep n).fst = (bumpV v rep n).fst))], []⟩) cx [(2, { tell := some (.b (false)) }), (6, { val := some (.b (false)) }), (11, { val := some (.b (decide ((bumpV v rep n).fst = (bumpV v rep n).fst))) }), (12, { tell := some (.b (decide ¬(bumpV v rep n).fst = (bumpV v rep n).fst)) })] [0, 1, 2, 13, 14, 75] [] (by kernel_rfl) (by kernel_rfl) ⟨(told_ins), (aggEq_true (eq24 (bumpV v rep n).snd.1 (bumpV v rep n).snd.1) (Eq.refl (bumpV v rep n).snd.1)), (con20 ((bumpV v rep n).fst) ((bumpV v rep n).fst)), (told_notd)⟩ ?_
  refine q_seq_normal ?_
  refine st_dec (¬(bumpV v rep n).fst = (bumpV v rep n).fst) (by kernel_rfl) (by kernel_rfl) (fun h_0 => absurd h_0 (fun hn => hn rfl)) (fun h_0 => ?_)
  refine st_skip (by kernel_rfl) ?_
  refine q_seq_normal ?_
  refine st_seq (by kernel_rfl) ?_
  refine st_reg (A := (Con Try.prog (23 : FuncId) [AV.sl (List.map c3 v), AV.i IntKind.i64 rep, AV.i IntKind.i64 n] (AV.tup [AV.sl (List.map c3 (putV v rep n).fst), AV.i IntKind.i64 (putV v rep n).snd]))) (σ' := ⟨[(13, .sl (List.map c3 (putV v rep n).fst)), (14, .i .i64 ((putV v rep n).snd)), (7, .sl (List.map c3 (putV v rep n).fst)), (9, .i .i64 ((putV v rep n).snd))], []⟩) cx [(3, { val := some (.tup [.sl (List.map c3 (putV v rep n).fst), .i .i64 ((putV v rep n).snd)]) })] [13, 14, 7, 9] [] (by kernel_rfl) (by kernel_rfl) (con23 (v) (rep) (n)) ?_
  refine q_seq_normal ?_
  refine st_seq (by kernel_rfl) ?_
  refine st_reg (A := (AV.b ((putV v rep n).snd == (putV v rep n).snd) = AV.b true) ∧ (Con Try.prog (20 : FuncId) [AV.sl (List.map c3 (putV v rep n).fst), AV.sl (List.map c3 (putV v rep n).fst)] (AV.b (decide ((putV v rep n).fst = (putV v rep n).fst))))) (σ' := ⟨[(6, .b (decide ((putV v rep n).fst = (putV v rep n).fst)))], []⟩) cx [(2, { tell := some (.b (true)) }), (6, { val := some (.b (decide ((putV v rep n).fst = (putV v rep n).fst))) })] [6] [] (by kernel_rfl) (by kernel_rfl) ⟨(told_ies), (con20 ((putV v rep n).fst) ((putV v rep n).fst))⟩ ?_
  refine q_seq_normal ?_
  refine st_ret (by kernel_rfl) ?_
  exact q_ret (r := .b (decide ((putV v rep n).fst = (putV v rep n).fst))) (obl := []) (by kernel_rfl) trivial (AVle.eq (g0 h_0))
theorem con4 (v : List Int) (rep n : Int) : Con Try.prog 4 [.sl (v.map c3), .i .i64 rep, .i .i64 n] (.b true) :=
  walk4 v rep n (fun _ => by rw [decide_eq_true rfl])
end Go.Proofs.Ytoeifjooljkpaaa
