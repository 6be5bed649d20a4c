/- Lb: walks, written by a program of this claim's own, and what each function hands back. Conditions: none. -/
import Derived.Test.YtjngmlkaijpbgaaLa
set_option linter.unusedVariables false
set_option linter.unusedSimpArgs false
namespace Go.Proofs.Ytjngmlkaijpbgaa
open Go.E
set_option maxRecDepth 100000
set_option maxHeartbeats 4000000
def someL : List Entry := [⟨⟨0, 3⟩, ⟨#[65]⟩, 5⟩, ⟨⟨1, 1⟩, ⟨#[66]⟩, 2⟩, ⟨⟨1, 4⟩, ⟨#[65]⟩, 1⟩]
theorem walk17 
    (g0 : AV.sl (List.map c28 [{ dot := { rep := (0 : Int), num := (3 : Int) : Dot }, sku := { data := #[(65 : UInt8)] : ByteArray }, qty := (5 : Int) : Entry }, { dot := { rep := (1 : Int), num := (1 : Int) : Dot }, sku := { data := #[(66 : UInt8)] : ByteArray }, qty := (2 : Int) : Entry }, { dot := { rep := (1 : Int), num := (4 : Int) : Dot }, sku := { data := #[(65 : UInt8)] : ByteArray }, qty := (1 : Int) : Entry }]) = AV.sl (List.map c28 someL)) :
    Con Try.prog (17 : FuncId) [] (AV.sl (List.map c28 someL)) := by
  refine st_con tab_ok (by kernel_rfl) [.tmp 0] 5 Go.Proofs.Try.func17 (by kernel_rfl) (by kernel_rfl) ?_
  intro e0 cx
  refine st_seq (by kernel_rfl) ?_
  refine st_reg (A := True) (σ' := ⟨[], []⟩) cx [] [] [] (by kernel_rfl) (by kernel_rfl) trivial ?_
  refine q_seq_normal ?_
  refine st_seq (by kernel_rfl) ?_
  refine st_reg (A := (Con Try.prog (15 : FuncId) [AV.i IntKind.i64 (0 : Int), AV.i IntKind.i64 (3 : Int), AV.s { data := #[(65 : UInt8)] : ByteArray }, AV.i IntKind.i64 (5 : Int)] (AV.agg (c28 { dot := { rep := (0 : Int), num := (3 : Int) : Dot }, sku := { data := #[(65 : UInt8)] : ByteArray }, qty := (5 : Int) : Entry }))) ∧ (Con Try.prog (15 : FuncId) [AV.i IntKind.i64 (1 : Int), AV.i IntKind.i64 (1 : Int), AV.s { data := #[(66 : UInt8)] : ByteArray }, AV.i IntKind.i64 (2 : Int)] (AV.agg (c28 { dot := { rep := (1 : Int), num := (1 : Int) : Dot }, sku := { data := #[(66 : UInt8)] : ByteArray }, qty := (2 : Int) : Entry }))) ∧ (Con Try.prog (15 : FuncId) [AV.i IntKind.i64 (1 : Int), AV.i IntKind.i64 (4 : Int), AV.s { data := #[(65 : UInt8)] : ByteArray }, AV.i IntKind.i64 (1 : Int)] (AV.agg (c28 { dot := { rep := (1 : Int), num := (4 : Int) : Dot }, sku := { data := #[(65 : UInt8)] : ByteArray }, qty := (1 : Int) : Entry })))) (σ' := ⟨[(0, .own 4 0)], [(4, ⟨0, 28, .row 4 (List.map c28 [{ dot := { rep := (0 : Int), num := (3 : Int) : Dot }, sku := { data := #[(65 : UInt8)] : ByteArray }, qty := (5 : Int) : Entry }, { dot := { rep := (1 : Int), num := (1 : Int) : Dot }, sku := { data := #[(66 : UInt8)] : ByteArray }, qty := (2 : Int) : Entry }, { dot := { rep := (1 : Int), num := (4 : Int) : Dot }, sku := { data := #[(65 : UInt8)] : ByteArray }, qty := (1 : Int) : Entry }])⟩)]⟩) cx [(0, { val := some (.agg [.i .i64 ((0 : Int)), .i .i64 ((3 : Int)), .s ({ dot := { rep := (0 : Int), num := (3 : Int) : Dot }, sku := { data := #[(65 : UInt8)] : ByteArray }, qty := (5 : Int) : Entry }.sku), .i .i64 ((5 : Int))]) }), (1, { val := some (.agg [.i .i64 ((1 : Int)), .i .i64 ((1 : Int)), .s ({ dot := { rep := (1 : Int), num := (1 : Int) : Dot }, sku := { data := #[(66 : UInt8)] : ByteArray }, qty := (2 : Int) : Entry }.sku), .i .i64 ((2 : Int))]) }), (2, { val := some (.agg [.i .i64 ((1 : Int)), .i .i64 ((4 : Int)), .s ({ dot := { rep := (1 : Int), num := (4 : Int) : Dot }, sku := { data := #[(65 : UInt8)] : ByteArray }, qty := (1 : Int) : Entry }.sku), .i .i64 ((1 : Int))]) })] [0] [4] (by kernel_rfl) (by kernel_rfl) ⟨(con15 ((0 : Int)) ((3 : Int)) ({ data := #[(65 : UInt8)] : ByteArray }) ((5 : Int))), (con15 ((1 : Int)) ((1 : Int)) ({ data := #[(66 : UInt8)] : ByteArray }) ((2 : Int))), (con15 ((1 : Int)) ((4 : Int)) ({ data := #[(65 : UInt8)] : ByteArray }) ((1 : Int)))⟩ ?_
  refine q_seq_normal ?_
  refine st_ret (by kernel_rfl) ?_
  exact q_ret (r := .sl (List.map c28 [{ dot := { rep := (0 : Int), num := (3 : Int) : Dot }, sku := { data := #[(65 : UInt8)] : ByteArray }, qty := (5 : Int) : Entry }, { dot := { rep := (1 : Int), num := (1 : Int) : Dot }, sku := { data := #[(66 : UInt8)] : ByteArray }, qty := (2 : Int) : Entry }, { dot := { rep := (1 : Int), num := (4 : Int) : Dot }, sku := { data := #[(65 : UInt8)] : ByteArray }, qty := (1 : Int) : Entry }])) (obl := []) (by kernel_rfl) trivial (AVle.eq g0)
theorem con17  : Con Try.prog 17 [] (.sl (someL.map c28)) :=
  walk17 rfl
theorem walk3 (es : List Entry)
    (g0 : inv30i es (0 : Int))
    (g1 : ∀ (i_0 : Int), (0 : Int) ≤ i_0 → i_0 ≤ (↑es.length : Int) → i_0 < (↑es.length : Int) → inv30i es (i_0 + (1 : Int))) :
    Con Try.prog (3 : FuncId) [AV.sl (List.map c28 es)] (AV.b true) := by
  refine con_lens 0 (c28) (es) (by kernel_rfl) Go.Proofs.Try.func3 (by kernel_rfl) fun hl_0 => ?_
  refine st_con tab_ok (by kernel_rfl) [.tmp 2] 42 Go.Proofs.Try.func3 (by kernel_rfl) (by kernel_rfl) ?_
  intro e0 cx
  refine st_seq (by kernel_rfl) ?_
  refine st_reg (A := True) (σ' := ⟨[(0, .sl (List.map c28 es))], []⟩) cx [] [0] [] (by kernel_rfl) (by kernel_rfl) trivial ?_
  refine q_seq_normal ?_
  refine st_seq (by kernel_rfl) ?_
  refine st_seq (by kernel_rfl) ?_
  refine st_reg (A := (Con Try.prog (15 : FuncId) [AV.i IntKind.i64 (0 : Int), AV.i IntKind.i64 (1 : Int), AV.s { data := #[(65 : UInt8)] : ByteArray }, AV.i IntKind.i64 (1 : Int)] (AV.agg (c28 { dot := { rep := (0 : Int), num := (1 : Int) : Dot }, sku := { data := #[(65 : UInt8)] : ByteArray }, qty := (1 : Int) : Entry }))) ∧ (Con Try.prog (14 : FuncId) [AV.agg (c28 { dot := { rep := (0 : Int), num := (1 : Int) : Dot }, sku := { data := #[(65 : UInt8)] : ByteArray }, qty := (1 : Int) : Entry })] (AV.i IntKind.i64 (entE { dot := { rep := (0 : Int), num := (1 : Int) : Dot }, sku := { data := #[(65 : UInt8)] : ByteArray }, qty := (1 : Int) : Entry }))) ∧ (Con Try.prog (15 : FuncId) [AV.i IntKind.i64 (16 : Int), AV.i IntKind.i64 (0 : Int), AV.s { data := #[(97 : UInt8)] : ByteArray }, AV.i IntKind.i64 (0 : Int)] (AV.agg (c28 { dot := { rep := (16 : Int), num := (0 : Int) : Dot }, sku := { data := #[(97 : UInt8)] : ByteArray }, qty := (0 : Int) : Entry }))) ∧ (Con Try.prog (14 : FuncId) [AV.agg (c28 { dot := { rep := (16 : Int), num := (0 : Int) : Dot }, sku := { data := #[(97 : UInt8)] : ByteArray }, qty := (0 : Int) : Entry })] (AV.i IntKind.i64 (entE { dot := { rep := (16 : Int), num := (0 : Int) : Dot }, sku := { data := #[(97 : UInt8)] : ByteArray }, qty := (0 : Int) : Entry }))) ∧ (Con Try.prog (17 : FuncId) [] (AV.sl (List.map c28 someL))) ∧ (Con Try.prog (16 : FuncId) [AV.sl (List.map c28 someL)] (AV.i IntKind.i64 (lstE someL)))) (σ' := ⟨[(0, .sl (List.map c28 es)), (18, .b (false))], []⟩) cx [(0, { val := some (.agg [.i .i64 ((0 : Int)), .i .i64 ((1 : Int)), .s ({ dot := { rep := (0 : Int), num := (1 : Int) : Dot }, sku := { data := #[(65 : UInt8)] : ByteArray }, qty := (1 : Int) : Entry }.sku), .i .i64 ((1 : Int))]) }), (1, { val := some (.i .i64 ((0 : Int))) }), (4, { val := some (.agg [.i .i64 ((16 : Int)), .i .i64 ((0 : Int)), .s ({ dot := { rep := (16 : Int), num := (0 : Int) : Dot }, sku := { data := #[(97 : UInt8)] : ByteArray }, qty := (0 : Int) : Entry }.sku), .i .i64 ((0 : Int))]) }), (5, { val := some (.i .i64 ((3 : Int))) }), (9, { val := some (.sl (List.map c28 someL)) }), (10, { val := some (.i .i64 ((0 : Int))) })] [0, 18] [] (by kernel_rfl) (by kernel_rfl) ⟨(con15 ((0 : Int)) ((1 : Int)) ({ data := #[(65 : UInt8)] : ByteArray }) ((1 : Int))), (con14 ({ dot := { rep := (0 : Int), num := (1 : Int) : Dot }, sku := { data := #[(65 : UInt8)] : ByteArray }, qty := (1 : Int) : Entry })), (con15 ((16 : Int)) ((0 : Int)) ({ data := #[(97 : UInt8)] : ByteArray }) ((0 : Int))), (con14 ({ dot := { rep := (16 : Int), num := (0 : Int) : Dot }, sku := { data := #[(97 : UInt8)] : ByteArray }, qty := (0 : Int) : Entry })), (con17 ), (con16 (someL))⟩ ?_
  refine q_seq_normal ?_
  refine st_false (by kernel_rfl) (by kernel_rfl) ?_
  refine st_skip (by kernel_rfl) ?_
  refine q_seq_normal ?_
  refine st_seq (by kernel_rfl) ?_
  refine st_seq (by kernel_rfl) ?_
  refine st_reg (A := (Con Try.prog (15 : FuncId) [AV.i IntKind.i64 (0 : Int), AV.i IntKind.i64 (3 : Int), AV.s { data := #[(65 : UInt8)] : ByteArray }, AV.i IntKind.i64 (5 : Int)] (AV.agg (c28 { dot := { rep := (0 : Int), num := (3 : Int) : Dot }, sku := { data := #[(65 : UInt8)] : ByteArray }, qty := (5 : Int) : Entry }))) ∧ (Con Try.prog (15 : FuncId) [AV.i IntKind.i64 (0 : Int), AV.i IntKind.i64 (3 : Int), AV.s { data := #[(65 : UInt8)] : ByteArray }, AV.i IntKind.i64 (1 : Int)] (AV.agg (c28 { dot := { rep := (0 : Int), num := (3 : Int) : Dot }, sku := { data := #[(65 : UInt8)] : ByteArray }, qty := (1 : Int) : Entry }))) ∧ (Flat (AV.i IntKind.i64 (1 : Int))) ∧ (Con Try.prog (16 : FuncId) [AV.sl (List.map c28 [{ dot := { rep := (0 : Int), num := (3 : Int) : Dot }, sku := { data := #[(65 : UInt8)] : ByteArray }, qty := (5 : Int) : Entry }, { dot := { rep := (0 : Int), num := (3 : Int) : Dot }, sku := { data := #[(65 : UInt8)] : ByteArray }, qty := (1 : Int) : Entry }])] (AV.i IntKind.i64 (lstE [{ dot := { rep := (0 : Int), num := (3 : Int) : Dot }, sku := { data := #[(65 : UInt8)] : ByteArray }, qty := (5 : Int) : Entry }, { dot := { rep := (0 : Int), num := (3 : Int) : Dot }, sku := { data := #[(65 : UInt8)] : ByteArray }, qty := (1 : Int) : Entry }])))) (σ' := ⟨[(0, .sl (List.map c28 es)), (23, .b (false))], []⟩) cx [(0, { val := some (.agg [.i .i64 ((0 : Int)), .i .i64 ((3 : Int)), .s ({ dot := { rep := (0 : Int), num := (3 : Int) : Dot }, sku := { data := #[(65 : UInt8)] : ByteArray }, qty := (5 : Int) : Entry }.sku), .i .i64 ((5 : Int))]) }), (1, { val := some (.agg [.i .i64 ((0 : Int)), .i .i64 ((3 : Int)), .s ({ dot := { rep := (0 : Int), num := (3 : Int) : Dot }, sku := { data := #[(65 : UInt8)] : ByteArray }, qty := (1 : Int) : Entry }.sku), .i .i64 ((1 : Int))]) }), (3, { val := some (.i .i64 ((1 : Int))), flat := true })] [0, 23] [] (by kernel_rfl) (by kernel_rfl) ⟨(con15 ((0 : Int)) ((3 : Int)) ({ data := #[(65 : UInt8)] : ByteArray }) ((5 : Int))), (con15 ((0 : Int)) ((3 : Int)) ({ data := #[(65 : UInt8)] : ByteArray }) ((1 : Int))), (by exact Flat.i _ _), (con16 ([{ dot := { rep := (0 : Int), num := (3 : Int) : Dot }, sku := { data := #[(65 : UInt8)] : ByteArray }, qty := (5 : Int) : Entry }, { dot := { rep := (0 : Int), num := (3 : Int) : Dot }, sku := { data := #[(65 : UInt8)] : ByteArray }, qty := (1 : Int) : Entry }]))⟩ ?_
  refine q_seq_normal ?_
  refine st_false (by kernel_rfl) (by kernel_rfl) ?_
  refine st_skip (by kernel_rfl) ?_
  refine q_seq_normal ?_
  refine st_seq (by kernel_rfl) ?_
  refine st_reg (A := (Con Try.prog (18 : FuncId) [AV.sl (List.map c28 es)] (AV.i IntKind.i64 (lstE es)))) (σ' := ⟨[(0, .sl (List.map c28 es)), (3, .i .i64 (lstE es))], []⟩) cx [(1, { val := some (.i .i64 (lstE es)) })] [0, 3] [] (by kernel_rfl) (by kernel_rfl) (con18 (es)) ?_
  refine q_seq_normal ?_
  refine st_seq (by kernel_rfl) ?_
  refine st_seq (by kernel_rfl) ?_
  refine st_reg (A := (AV.i IntKind.i64 (↑(List.map c28 es).length : Int) = AV.i IntKind.i64 (↑es.length : Int))) (σ' := ⟨[(0, .sl (List.map c28 es)), (3, .i .i64 (lstE es)), (26, .sl (List.map c28 es)), (27, .i .i64 ((↑es.length : Int))), (28, .i .i64 ((0 : Int)))], []⟩) cx [(1, { tell := some (.i .i64 ((↑es.length : Int))) })] [0, 3, 26, 27, 28] [] (by kernel_rfl) (by kernel_rfl) (told_len c28 es) ?_
  refine q_seq_normal ?_
  refine st_block 0 (by kernel_rfl) ?_
  refine st_loop (X := Int) (fun x => ⟨[(0, .sl (List.map c28 es)), (3, .i .i64 (lstE es)), (26, .sl (List.map c28 es)), (27, .i .i64 ((↑es.length : Int))), (28, .i .i64 (x))], []⟩) (fun x ↦ dec30i es x) (fun x ↦ inv30i es x) [0, 3, 26, 27, 28] [] ((0 : Int)) (by kernel_rfl) (by kernel_rfl) g0 ?_
  intro i_0 h_1
  obtain ⟨h_2, h_3⟩ : (0 : Int) ≤ i_0 ∧ i_0 ≤ (↑es.length : Int) := h_1
  refine st_seq (by kernel_rfl) ?_
  refine st_reg (A := (AV.b (decide (i_0 < (↑es.length : Int))) = AV.b (decide (i_0 < (↑es.length : Int))))) (σ' := ⟨[(0, .sl (List.map c28 es)), (3, .i .i64 (lstE es)), (26, .sl (List.map c28 es)), (27, .i .i64 ((↑es.length : Int))), (28, .i .i64 (i_0)), (29, .b (decide (i_0 < (↑es.length : Int))))], []⟩) cx [(0, { tell := some (.b (decide (i_0 < (↑es.length : Int)))) })] [0, 3, 26, 27, 28, 29] [] (by kernel_rfl) (by kernel_rfl) (by kernel_rfl) ?_
  refine q_seq_normal ?_
  refine st_seq (by kernel_rfl) ?_
  refine st_dec (i_0 < (↑es.length : Int)) (by kernel_rfl) (by kernel_rfl) (fun h_4 => ?_) (fun h_4 => ?_)
  ·
    refine st_skip (by kernel_rfl) ?_
    refine q_seq_normal ?_
    refine st_seq (by kernel_rfl) ?_
    refine st_block 1 (by kernel_rfl) ?_
    refine st_seq (by kernel_rfl) ?_
    refine st_reg (A := ((0 : Int) ≤ i_0) ∧ ((List.map c28 es)[i_0.toNat]? = some (c28 es[i_0.toNat]!)) ∧ ((c28 es[i_0.toNat]!).length = (4 : Nat)) ∧ ((4 : Nat) ≤ [AV.i IntKind.i64 es[i_0.toNat]!.dot.rep, AV.i IntKind.i64 es[i_0.toNat]!.dot.num, AV.s es[i_0.toNat]!.sku, AV.i IntKind.i64 es[i_0.toNat]!.qty].length)) (σ' := ⟨[(0, .sl (List.map c28 es)), (3, .i .i64 (lstE es)), (26, .sl (List.map c28 es)), (27, .i .i64 ((↑es.length : Int))), (28, .i .i64 (i_0)), (5, .ptr (5) (0) (0) (0))], [(5, ⟨0, 28, .var [.i .i64 (es[i_0.toNat]!.dot.rep), .i .i64 (es[i_0.toNat]!.dot.num), .s (es[i_0.toNat]!.sku), .i .i64 (es[i_0.toNat]!.qty)]⟩)]⟩) cx [(0, { row := (c28 es[i_0.toNat]!) })] [0, 3, 26, 27, 28, 5] [5] (by kernel_rfl) (by kernel_rfl) ⟨(by (with_reducible assumption)), (by (with_reducible refine get_map ?_; omega)), (by kernel_rfl), (by (simp only [List.length_append, List.length_cons, List.length_nil]; omega))⟩ ?_
    refine q_seq_normal ?_
    refine st_seq (by kernel_rfl) ?_
    refine st_any (A := (Con Try.prog (14 : FuncId) [AV.agg (c28 es[i_0.toNat]!)] (AV.i IntKind.i64 (entE es[i_0.toNat]!))) ∧ (Con Try.prog (19 : FuncId) [AV.agg (c28 es[i_0.toNat]!)] (AV.i IntKind.i64 (entE es[i_0.toNat]!))) ∧ (AV.b (entE es[i_0.toNat]! != entE es[i_0.toNat]!) = AV.b false)) (σ' := ⟨[(0, .sl (List.map c28 es)), (3, .i .i64 (lstE es)), (26, .sl (List.map c28 es)), (27, .i .i64 ((↑es.length : Int))), (28, .i .i64 (i_0)), (36, .b (false))], []⟩) cx [(1, { val := some (.i .i64 (entE es[i_0.toNat]!)) }), (3, { val := some (.i .i64 (entE es[i_0.toNat]!)) }), (4, { tell := some (.b (false)) })] [0, 3, 26, 27, 28, 36] [] (by kernel_rfl) (by kernel_rfl) ⟨(con14 (es[i_0.toNat]!)), (con19 (es[i_0.toNat]!)), (told_ins)⟩ ?_
    refine q_seq_normal ?_
    refine st_false (by kernel_rfl) (by kernel_rfl) ?_
    refine st_skip (by kernel_rfl) ?_
    refine q_blk_normal ?_
    refine q_seq_normal ?_
    refine st_reg (A := (AV.i IntKind.i64 (IntKind.i64.wrap (i_0 + (1 : Int))) = AV.i IntKind.i64 (i_0 + (1 : Int)))) (σ' := ⟨[(0, .sl (List.map c28 es)), (3, .i .i64 (lstE es)), (26, .sl (List.map c28 es)), (27, .i .i64 ((↑es.length : Int))), (28, .i .i64 (i_0 + (1 : Int)))], []⟩) cx [(0, { tell := some (.i .i64 (i_0 + (1 : Int))) })] [0, 3, 26, 27, 28] [] (by kernel_rfl) (by kernel_rfl) (told_i64 (by omega) (by omega)) ?_
    refine q_seq_normal ?_
    exact loop_next (i_0 + (1 : Int)) (by kernel_rfl) (show ((↑es.length : Int) - (i_0 + (1 : Int))).toNat < ((↑es.length : Int) - i_0).toNat from (by omega)) (g1 i_0 h_2 h_3 h_4)
  ·
    refine st_exit 0 (by kernel_rfl) ?_
    refine q_seq_exit ?_
    refine q_seq_exit ?_
    refine q_blk_hit ?_
    refine q_seq_normal ?_
    refine st_seq (by kernel_rfl) ?_
    refine st_reg (A := (Con Try.prog (16 : FuncId) [AV.sl (List.map c28 es)] (AV.i IntKind.i64 (lstE es))) ∧ (AV.b (lstE es == lstE es) = AV.b true)) (σ' := ⟨[(2, .b (true))], []⟩) cx [(1, { val := some (.i .i64 (lstE es)) }), (3, { tell := some (.b (true)) })] [2] [] (by kernel_rfl) (by kernel_rfl) ⟨(con16 (es)), (told_ies)⟩ ?_
    refine q_seq_normal ?_
    refine st_ret (by kernel_rfl) ?_
    exact q_ret (r := .b (true)) (obl := []) (by kernel_rfl) trivial (AVle.refl _)
theorem con3 (es : List Entry) : Con Try.prog 3 [.sl (es.map c28)] (.b true) :=
  walk3 es ⟨by omega, by omega⟩ (fun i h0 h1 h2 => ⟨by omega, by omega⟩)
end Go.Proofs.Ytjngmlkaijpbgaa
