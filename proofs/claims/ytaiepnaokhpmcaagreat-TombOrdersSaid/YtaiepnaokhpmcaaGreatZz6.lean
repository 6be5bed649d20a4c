/- Lc: walks, written by a program of this claim's own, and what each function hands back. Conditions: none. Lf: lines: Sort, Find and what the document says of them. Conditions: sizes. Tt: tomb: in plain words. Conditions: none. Lq: entries in form: how many there are. Conditions: none. Tu: tomb: Check, Less, Within, Order. Conditions: sizes. Lm: lines: Dots, Inside, Outside. Conditions: sizes. Tv: the document's Check, Less, Within, Order, Copy, Equal. Conditions: sizes. Tw: the law of Within, Order, Less. Conditions: sizes. EN: from a law's contract to its row: 'for every input it answers true, and the input reads as it did'. Conditions: none named, none written. Wx: what is handed in, by its types. Conditions: none. Wy: what is handed in, by its types (acts, facts). Conditions: none. Qj: facts of the program that every row asks for, each by itself. Conditions: none. -/
import Derived.Below
import Derived.OwnWalk
import Derived.WalkKit
import Derived.KernelRfl
import Derived.Laws.MakeOwn
import Derived.Laws.OwnMore
import Derived.Laws.Slices
import Derived.Laws.CopyOwn
import Derived.Laws.AppendOwnNone
import Derived.Laws.Rows
import Derived.Orders
import Derived.Test.YtaiepnaokhpmcaaGreatProg
import Derived.DataReads
import Derived.ChangeOld
import Derived.DataElems
import Derived.SizedLaws
import Derived.ChangeKeysEq
import Derived.Sort.LotA
import Derived.Shelf.SlSortFuncK.RowK2
import Derived.Lib.Walk
import Derived.Shelf.SlLaysE0
import Derived.Shelf.RegionOpenPlain
import Derived.Deep.LoopGhost
import Derived.Lib.SliceRun
import Derived.Shelf.SlSortFuncK.SWK
import Derived.Deep.Cut
import Derived.Deep.CutRange
import Derived.Deep.DeepCutAuto
import Derived.Lib.ReflectliteSwap
import Derived.Laws.Externs
import Derived.Lib.ReflectliteSlice
import Derived.Shelf.SlSortCmp.NoneTotal
import Derived.Lib.Bytealg
import Derived.ProofKit
import Derived.JoinedCond
import Derived.Deep.CondSized
import Derived.Test.YtaiepnaokhpmcaaGreatRows
import Derived.Test.YtaiepnaokhpmcaaGreatZz5
set_option linter.unusedVariables false
set_option linter.unusedSimpArgs false
namespace Go.Proofs.YtaiepnaokhpmcaaGreat
open Go.E
set_option maxRecDepth 100000
set_option maxHeartbeats 4000000
def ofV (es : List Entry) (sku : ByteArray) : List Entry × Int :=
 if okL es = true then (if good sku = true then (es.filter (fun e => decide (e.sku = sku)), 0) else ([], 5)) else ([], 1)
theorem con44 (a b : List Entry) : Con Tryz.prog 44 [.sl (a.map c45), .sl (b.map c45)] (.b (decide (a = b))) :=
 by
 refine con_lens 0 (c45) (a) (by kernel_rfl) Go.Proofs.Tryz.func44 (by kernel_rfl) fun hl_0 => ?_
 refine con_lens 1 (c45) (b) (by kernel_rfl) Go.Proofs.Tryz.func44 (by kernel_rfl) fun hl_1 => ?_
 refine st_con tab_ok (by kernel_rfl) [.tmp 4] 26 Go.Proofs.Tryz.func44 (by kernel_rfl) (by kernel_rfl) ?_
 intro e0 cx
 refine sq ?_
 refine rg (A := True) cx [] [0, 1] [] trivial ?_
 refine sn (sq ?_)
 refine sq ?_
 refine rg (A := _ ∧ _ ∧ (AV.b ((↑a.length:Int) != (↑b.length:Int)) = AV.b (decide ¬(↑a.length:Int) = (↑b.length:Int)))) cx [(1, { tell := some (.i .i64 ((↑a.length:Int))) }), (3, { tell := some (.i .i64 ((↑b.length:Int))) }), (4, { tell := some (.b (decide ¬(↑a.length:Int) = (↑b.length:Int))) })] [0, 1, 10] [] ⟨(told_len c45 a), (told_len c45 b), (told_neq)⟩ ?_
 refine sn ?_
 refine st_dec (¬(↑a.length:Int) = (↑b.length:Int)) (by kernel_rfl) (by kernel_rfl) (fun h_0 => ?_) (fun h_0 => ?_)
 refine sq ?_
 refine rg (A := True) cx [] [4] [] trivial ?_
 refine sn ?_
 refine st_ret (by kernel_rfl) ?_
 refine q_seq_ret ?_
 refine q_ret (r := .b (false)) (obl := []) (by kernel_rfl) trivial (AVle.eq (show AV.b false = AV.b (decide (a = b)) from ?g0)); rotate_left 1
 refine st_skip (by kernel_rfl) ?_
 refine sn (sq ?_)
 refine sq ?_
 refine rg (A := True) cx [] [0, 1, 5] [] trivial ?_
 refine sn ?_
 refine st_block 0 (by kernel_rfl) ?_
 refine st_loop (X := Int) (fun x => ⟨[(0, .sl (List.map c45 a)), (1, .sl (List.map c45 b)), (5, .i .i64 (x))], []⟩) (fun x ↦ dec30 a x) (fun x ↦ inv30 a b x) [0, 1, 5] [] ((0:Int)) (by kernel_rfl) (by kernel_rfl) (show inv30 a b (0:Int) from ?g1) ?_; rotate_left 1
 intro i_1 h_2
 obtain ⟨h_3, h_4, h_5⟩ : (0:Int) ≤ i_1 ∧ i_1 ≤ (↑a.length:Int) ∧ ∀ (j:Nat), (↑j:Int) < i_1 → a[j]! = b[j]! := h_2
 refine sq ?_
 refine sq ?_
 refine rg (A := _ ∧ (AV.b (decide (i_1 < (↑a.length:Int))) = AV.b (decide (i_1 < (↑a.length:Int))))) cx [(2, { tell := some (.i .i64 ((↑a.length:Int))) }), (3, { tell := some (.b (decide (i_1 < (↑a.length:Int)))) })] [0, 1, 5, 14] [] ⟨(told_len c45 a), (by kernel_rfl)⟩ ?_
 refine sn ?_
 refine st_dec (i_1 < (↑a.length:Int)) (by kernel_rfl) (by kernel_rfl) (fun h_6 => ?_) (fun h_6 => ?_)
 refine st_skip (by kernel_rfl) ?_
 refine sn (sq ?_)
 refine st_block 1 (by kernel_rfl) ?_
 refine sq ?_
 refine ra (A := ((0:Int) ≤ i_1) ∧ ((List.map c45 a)[i_1.toNat]? = some (c45 a[i_1.toNat]!)) ∧ ((c45 a[i_1.toNat]!).length = (4:Nat)) ∧ ((4:Nat) ≤ [AV.i .i64 a[i_1.toNat]!.dot.rep, AV.i .i64 a[i_1.toNat]!.dot.num, AV.s a[i_1.toNat]!.sku, AV.i .i64 a[i_1.toNat]!.qty].length) ∧ ((0:Int) ≤ i_1) ∧ ((List.map c45 b)[i_1.toNat]? = some (c45 b[i_1.toNat]!)) ∧ ((c45 b[i_1.toNat]!).length = (4:Nat)) ∧ ((4:Nat) ≤ [AV.i .i64 b[i_1.toNat]!.dot.rep, AV.i .i64 b[i_1.toNat]!.dot.num, AV.s b[i_1.toNat]!.sku, AV.i .i64 b[i_1.toNat]!.qty].length) ∧ (AggEq Tryz.prog (45:Nat) [AV.i .i64 a[i_1.toNat]!.dot.rep, AV.i .i64 a[i_1.toNat]!.dot.num, AV.s a[i_1.toNat]!.sku, AV.i .i64 a[i_1.toNat]!.qty] [AV.i .i64 b[i_1.toNat]!.dot.rep, AV.i .i64 b[i_1.toNat]!.dot.num, AV.s b[i_1.toNat]!.sku, AV.i .i64 b[i_1.toNat]!.qty] !decide ¬a[i_1.toNat]! = b[i_1.toNat]!)) cx [(2, { row := (c45 a[i_1.toNat]!) }), (6, { row := (c45 b[i_1.toNat]!) }), (8, { val := some (.b (decide ¬a[i_1.toNat]! = b[i_1.toNat]!)) })] [0, 1, 5, 25] [] ⟨(by (with_reducible assumption)), (by (with_reducible refine get_map ?_; omega)), (by kernel_rfl), (by (simp only [List.length_append, List.length_cons, List.length_nil]; omega)), (by (with_reducible assumption)), (by (with_reducible refine get_map ?_; omega)), (by kernel_rfl), (by (simp only [List.length_append, List.length_cons, List.length_nil]; omega)), (aggNe_dec (eq45 a[i_1.toNat]! b[i_1.toNat]!))⟩ ?_
 refine sn ?_
 refine st_dec (¬a[i_1.toNat]! = b[i_1.toNat]!) (by kernel_rfl) (by kernel_rfl) (fun h_7 => ?_) (fun h_7 => ?_)
 refine sq ?_
 refine rg (A := True) cx [] [4] [] trivial ?_
 refine sn ?_
 refine st_ret (by kernel_rfl) ?_
 refine q_blk_ret ?_
 refine q_seq_ret ?_
 refine q_seq_ret ?_
 refine q_blk_ret ?_
 refine q_seq_ret ?_
 refine q_ret (r := .b (false)) (obl := []) (by kernel_rfl) trivial (AVle.eq (show AV.b false = AV.b (decide (a = b)) from ?g2)); rotate_left 1
 refine st_skip (by kernel_rfl) ?_
 refine q_blk_normal ?_
 refine sn ?_
 refine rg (A := (AV.i .i64 (IntKind.i64.wrap (i_1 + (1:Int))) = AV.i .i64 (i_1 + (1:Int)))) cx [(1, { tell := some (.i .i64 (i_1 + (1:Int))) })] [0, 1, 5] [] (told_i64 (by omega) (by omega)) ?_
 refine sn ?_
 refine loop_next (i_1 + (1:Int)) (by kernel_rfl) (show ((↑a.length:Int) - (i_1 + (1:Int))).toNat < ((↑a.length:Int) - i_1).toNat from (by omega)) (show inv30 a b (i_1 + (1:Int)) from ?g3); rotate_left 1
 refine st_exit 0 (by kernel_rfl) ?_
 refine q_seq_exit ?_
 refine q_seq_exit ?_
 refine q_blk_hit ?_
 refine sn (sq ?_)
 refine rg (A := True) cx [] [4] [] trivial ?_
 refine sn ?_
 refine st_ret (by kernel_rfl) ?_
 refine q_ret (r := .b (true)) (obl := []) (by kernel_rfl) trivial (AVle.eq (show AV.b true = AV.b (decide (a = b)) from ?g4)); rotate_left 1
 revert h_0; rotate_left
 revert h_0; rotate_left
 revert h_0 i_1 h_3 h_4 h_5 h_6 h_7; rotate_left
 revert h_0 i_1 h_3 h_4 h_5 h_6 h_7; rotate_left
 revert h_0 i_1 h_3 h_4 h_5 h_6; rotate_left
 case g1 => exact (fun h => ⟨by omega, by omega, fun j hj => by omega⟩)
 case' g4 => refine (fun h i h1 h2 h3 h4 => ?_)
 case' g3 => refine (fun h i h1 h2 h3 h4 h5 => ⟨by omega, by omega, fun j hj => ?_⟩)
 case' g2 => refine (fun h i h1 h2 h3 h4 h5 => ?_)
 case' g0 => refine (fun h => ?_)
 ·congr 1; symm; rw [decide_eq_false_iff_not]; rintro rfl; exact h rfl
 ·congr 1; symm; rw [decide_eq_false_iff_not]; rintro rfl; exact h5 rfl
 ·by_cases e : j = i.toNat
  ·subst e; exact Classical.not_not.1 h5
  ·exact h3 j (by omega)
 ·congr 1; symm; rw [decide_eq_true_iff]; exact bang_eq (Classical.not_not.1 h) fun j hj => h3 j (by omega)
end Go.Proofs.YtaiepnaokhpmcaaGreat
namespace Go.Proofs.YtaiepnaokhpmcaaGreat
open Go.E
set_option maxRecDepth 100000
set_option maxHeartbeats 4000000
def findE (es : List Entry) (d : Dot) : Entry × Bool := match es.find? (fun e => decide (e.dot = d)) with | some e => (e, true) | none => (default, false)
def inv28 (es : List Entry) (d : Dot) (i r n a b:Int) (s : ByteArray) (q:Int) : Prop := 0 ≤ i ∧ i ≤ es.length ∧ r = d.rep ∧ n = d.num ∧ ∀ j : Nat, (j:Int) < i → ¬ es[j]!.dot = d
def dec28 (es : List Entry) (i r n a b:Int) (s : ByteArray) (q:Int) : Nat := (es.length - i).toNat
def isPre {α : Type} (es : List α) (i:Int) (l : List α) : Prop := l = es.take i.toNat
theorem find_at {es : List Entry} {d : Dot} : ∀ {i : Nat}, i < es.length → es[i]!.dot = d → (∀ j : Nat, j < i → ¬ es[j]!.dot = d) → findE es d = (es[i]!, true) := by
 induction es with
 | nil => intro i hi; simp at hi
 | cons e es ih =>
  intro i hi hb hok
  cases i with
  | zero =>
   have hb' : e.dot = d := by simpa using hb
   unfold findE
   simp [List.find?_cons, hb']
  | succ i =>
   have h0 : ¬ e.dot = d := by simpa using hok 0 (by omega)
   have := ih (i := i) (by simpa using hi) (by simpa using hb) (fun j hj => by simpa using hok (j + 1) (by omega))
   unfold findE at this ⊢
   simpa [List.find?_cons, h0] using this
theorem find_no {es : List Entry} {d : Dot} (h : ∀ j : Nat, j < es.length → ¬ es[j]!.dot = d) : findE es d = (default, false) := by
 unfold findE
 have : es.find? (fun e => decide (e.dot = d)) = none := by
  rw [List.find?_eq_none]
  intro x hx
  obtain ⟨j, hj, rfl⟩ := List.mem_iff_getElem.1 hx
  have := h j hj
  rw [getElem!_pos es j hj] at this
  simpa using this
 rw [this]
theorem con67 (es : List Entry) (d : Dot) : Con Tryz.prog 67 [.sl (es.map c45), .agg (c43 d)] (.tup [.agg (c45 (findE es d).1), .b (findE es d).2]) :=
 by
 refine con_lens 0 (c45) (es) (by kernel_rfl) Go.Proofs.Tryz.func67 (by kernel_rfl) fun hl_0 => ?_
 refine st_con tab_ok (by kernel_rfl) [.cell 4 45, .tmp 5] 21 Go.Proofs.Tryz.func67 (by kernel_rfl) (by kernel_rfl) ?_
 intro e0 cx
 refine sq ?_
 refine rg (A := True) cx [] [0, 3, 4] [3, 4] trivial ?_
 refine sn (sq ?_)
 refine sq ?_
 refine rg (A := _) cx [(1, { tell := some (.i .i64 ((↑es.length:Int))) })] [3, 4, 8, 9, 10] [3, 4] (told_len c45 es) ?_
 refine sn ?_
 refine st_block 0 (by kernel_rfl) ?_
 refine st_loop (X := Int × Int × Int × Int × Int × ByteArray × Int) (fun x => ⟨[(3, .ptr (3) (0) (0) (0)), (4, .ptr (4) (0) (0) (0)), (8, .sl (List.map c45 es)), (9, .i .i64 ((↑es.length:Int))), (10, .i .i64 (x.fst))], [(3, ⟨0, 43, .var [.i .i64 (x.snd.fst), .i .i64 (x.snd.snd.fst)]⟩), (4, ⟨0, 45, .var [.i .i64 (x.snd.snd.snd.fst), .i .i64 (x.snd.snd.snd.snd.fst), .s (x.snd.snd.snd.snd.snd.fst), .i .i64 (x.snd.snd.snd.snd.snd.snd)]⟩)]⟩) (fun x ↦ dec28 es x.fst x.snd.fst x.snd.snd.fst x.snd.snd.snd.fst x.snd.snd.snd.snd.fst x.snd.snd.snd.snd.snd.fst x.snd.snd.snd.snd.snd.snd) (fun x ↦ inv28 es d x.fst x.snd.fst x.snd.snd.fst x.snd.snd.snd.fst x.snd.snd.snd.snd.fst x.snd.snd.snd.snd.snd.fst x.snd.snd.snd.snd.snd.snd) [3, 4, 8, 9, 10] [3, 4] (((0:Int), d.rep, d.num, (0:Int), (0:Int), { data := #[] : ByteArray }, (0:Int))) (by kernel_rfl) (by kernel_rfl) (show inv28 es d (0:Int) d.rep d.num (0:Int) (0:Int) { data := #[] : ByteArray } (0:Int) from ?g0) ?_; rotate_left 1
 rintro ⟨i_0, r_1, n_2, a_3, b_4, s_5, q_6⟩ h_7
 obtain ⟨h_8, h_9, h_10, h_11, h_12⟩ : (0:Int) ≤ i_0 ∧ i_0 ≤ (↑es.length:Int) ∧ r_1 = d.rep ∧ n_2 = d.num ∧ ∀ (j:Nat), (↑j:Int) < i_0 → ¬es[j]!.dot = d := h_7
 refine sq ?_
 refine rg (A := (AV.b (decide (i_0 < (↑es.length:Int))) = AV.b (decide (i_0 < (↑es.length:Int))))) cx [(0, { tell := some (.b (decide (i_0 < (↑es.length:Int)))) })] [3, 4, 8, 9, 10, 11] [3, 4] (by kernel_rfl) ?_
 refine sn (sq ?_)
 refine st_dec (i_0 < (↑es.length:Int)) (by kernel_rfl) (by kernel_rfl) (fun h_13 => ?_) (fun h_13 => ?_)
 refine st_skip (by kernel_rfl) ?_
 refine sn (sq ?_)
 refine st_block 1 (by kernel_rfl) ?_
 refine sq ?_
 refine rg (A := ((0:Int) ≤ i_0) ∧ ((List.map c45 es)[i_0.toNat]? = some (c45 es[i_0.toNat]!)) ∧ ((c45 es[i_0.toNat]!).length = (4:Nat)) ∧ ((4:Nat) ≤ [AV.i .i64 es[i_0.toNat]!.dot.rep, AV.i .i64 es[i_0.toNat]!.dot.num, AV.s es[i_0.toNat]!.sku, AV.i .i64 es[i_0.toNat]!.qty].length)) cx [(0, { row := (c45 es[i_0.toNat]!) })] [3, 4, 8, 9, 10, 7] [3, 4, 7] ⟨(by (with_reducible assumption)), (by (with_reducible refine get_map ?_; omega)), (by kernel_rfl), (by (simp only [List.length_append, List.length_cons, List.length_nil]; omega))⟩ ?_
 refine sn (sq ?_)
 refine rg (A := (AggEq Tryz.prog (43:Nat) [AV.i .i64 es[i_0.toNat]!.dot.rep, AV.i .i64 es[i_0.toNat]!.dot.num] [AV.i .i64 r_1, AV.i .i64 n_2] (decide (es[i_0.toNat]!.dot = { rep := r_1, num := n_2 : Dot })))) cx [(3, { val := some (.b (decide (es[i_0.toNat]!.dot = { rep := r_1, num := n_2 : Dot }))) })] [3, 4, 8, 9, 10, 7, 17] [3, 4, 7] (eq43 es[i_0.toNat]!.dot { rep := r_1, num := n_2 : Dot }) ?_
 refine sn ?_
 refine st_dec (es[i_0.toNat]!.dot = { rep := r_1, num := n_2 : Dot }) (by kernel_rfl) (by kernel_rfl) (fun h_14 => ?_) (fun h_14 => ?_)
 refine sq ?_
 refine rg (A := True) cx [] [4, 5] [4] trivial ?_
 refine sn ?_
 refine st_ret (by kernel_rfl) ?_
 refine q_blk_ret ?_
 refine q_seq_ret ?_
 refine q_seq_ret ?_
 refine q_blk_ret ?_
 refine q_seq_ret ?_
 refine q_ret (r := .tup [.agg [.i .i64 (es[i_0.toNat]!.dot.rep), .i .i64 (es[i_0.toNat]!.dot.num), .s (es[i_0.toNat]!.sku), .i .i64 (es[i_0.toNat]!.qty)], .b (true)]) (obl := []) (by kernel_rfl) trivial (AVle.tup (ZLe.cons (AVle.eq (show AV.agg [AV.i .i64 es[i_0.toNat]!.dot.rep, AV.i .i64 es[i_0.toNat]!.dot.num, AV.s es[i_0.toNat]!.sku, AV.i .i64 es[i_0.toNat]!.qty] = AV.agg [AV.i .i64 (findE es d).fst.dot.rep, AV.i .i64 (findE es d).fst.dot.num, AV.s (findE es d).fst.sku, AV.i .i64 (findE es d).fst.qty] from ?g2)) (ZLe.cons (AVle.eq (show AV.b true = AV.b (findE es d).snd from ?g1)) ZLe.nil))); rotate_left 2
 refine st_skip (by kernel_rfl) ?_
 refine q_blk_normal ?_
 refine sn ?_
 refine rg (A := (AV.i .i64 (IntKind.i64.wrap (i_0 + (1:Int))) = AV.i .i64 (i_0 + (1:Int)))) cx [(0, { tell := some (.i .i64 (i_0 + (1:Int))) })] [3, 4, 8, 9, 10] [3, 4] (told_i64 (by omega) (by omega)) ?_
 refine sn ?_
 refine loop_next ((i_0 + (1:Int), r_1, n_2, a_3, b_4, s_5, q_6)) (by kernel_rfl) (show ((↑es.length:Int) - (i_0 + (1:Int))).toNat < ((↑es.length:Int) - i_0).toNat from (by omega)) (show inv28 es d (i_0 + (1:Int)) r_1 n_2 a_3 b_4 s_5 q_6 from ?g3); rotate_left 1
 refine st_exit 0 (by kernel_rfl) ?_
 refine q_seq_exit ?_
 refine q_seq_exit ?_
 refine q_blk_hit ?_
 refine sn (sq ?_)
 refine rg (A := True) cx [] [4, 5] [4] trivial ?_
 refine sn ?_
 refine st_ret (by kernel_rfl) ?_
 refine q_ret (r := .tup [.agg [.i .i64 ((0:Int)), .i .i64 ((0:Int)), .s ({ data := #[] : ByteArray }), .i .i64 ((0:Int))], .b (false)]) (obl := []) (by kernel_rfl) trivial (AVle.tup (ZLe.cons (AVle.eq (show AV.agg [AV.i .i64 (0:Int), AV.i .i64 (0:Int), AV.s { data := #[] : ByteArray }, AV.i .i64 (0:Int)] = AV.agg [AV.i .i64 (findE es d).fst.dot.rep, AV.i .i64 (findE es d).fst.dot.num, AV.s (findE es d).fst.sku, AV.i .i64 (findE es d).fst.qty] from ?g5)) (ZLe.cons (AVle.eq (show AV.b false = AV.b (findE es d).snd from ?g4)) ZLe.nil))); rotate_left 2
 rotate_left
 revert i_0 r_1 n_2 a_3 b_4 s_5 q_6 h_8 h_9 h_10 h_11 h_12 h_13 h_14; rotate_left
 revert i_0 r_1 n_2 a_3 b_4 s_5 q_6 h_8 h_9 h_10 h_11 h_12 h_13 h_14; rotate_left
 revert i_0 r_1 n_2 a_3 b_4 s_5 q_6 h_8 h_9 h_10 h_11 h_12 h_13 h_14; rotate_left
 revert i_0 r_1 n_2 a_3 b_4 s_5 q_6 h_8 h_9 h_10 h_11 h_12 h_13; rotate_left
 revert i_0 r_1 n_2 a_3 b_4 s_5 q_6 h_8 h_9 h_10 h_11 h_12 h_13; rotate_left
 case g0 => exact ⟨by omega, by omega, rfl, rfl, fun j hj => by omega⟩
 case g1 => exact (fun i r n a b s q h0 h1 h2 h3 h4 h5 h6 => by subst h2 h3; rw [find_at (by omega) h6 (fun j hj => h4 j (by omega))])
 case g2 => exact (fun i r n a b s q h0 h1 h2 h3 h4 h5 h6 => by subst h2 h3; rw [find_at (by omega) h6 (fun j hj => h4 j (by omega))])
 case g3 => exact (fun i r n a b s q h0 h1 h2 h3 h4 h5 h6 => ⟨by omega, by omega, h2, h3, fun j hj => by
   subst h2 h3
   by_cases e : j = i.toNat
   ·rw [e]; exact h6
   ·exact h4 j (by omega)⟩)
 case g4 => exact (fun i r n a b s q h0 h1 h2 h3 h4 h5 => by rw [find_no (fun j hj => h4 j (by omega))])
 case g5 => exact (fun i r n a b s q h0 h1 h2 h3 h4 h5 => by rw [find_no (fun j hj => h4 j (by omega))]; rfl)
theorem con40 (es : List Entry) (d : Dot) : Con Tryz.prog 40 [.sl (es.map c45), .agg (c43 d)] (.tup [.agg (c45 (findE es d).1), .b (findE es d).2]) :=
 by
 refine con_lens 0 (c45) (es) (by kernel_rfl) Go.Proofs.Tryz.func40 (by kernel_rfl) fun hl_0 => ?_
 refine st_con tab_ok (by kernel_rfl) [.cell 4 45, .tmp 5] 25 Go.Proofs.Tryz.func40 (by kernel_rfl) (by kernel_rfl) ?_
 intro e0 cx
 refine sq ?_
 refine rg (A := True) cx [] [0, 3, 4] [3, 4] trivial ?_
 refine sn (sq ?_)
 refine sq ?_
 refine rg (A := True) cx [] [0, 3, 4, 6] [3, 4] trivial ?_
 refine sn ?_
 refine st_block 0 (by kernel_rfl) ?_
 refine st_loop (X := Int × Int × Int × Int × Int × ByteArray × Int) (fun x => ⟨[(0, .sl (List.map c45 es)), (3, .ptr (3) (0) (0) (0)), (4, .ptr (4) (0) (0) (0)), (6, .i .i64 (x.fst))], [(3, ⟨0, 43, .var [.i .i64 (x.snd.fst), .i .i64 (x.snd.snd.fst)]⟩), (4, ⟨0, 45, .var [.i .i64 (x.snd.snd.snd.fst), .i .i64 (x.snd.snd.snd.snd.fst), .s (x.snd.snd.snd.snd.snd.fst), .i .i64 (x.snd.snd.snd.snd.snd.snd)]⟩)]⟩) (fun x ↦ dec28 es x.fst x.snd.fst x.snd.snd.fst x.snd.snd.snd.fst x.snd.snd.snd.snd.fst x.snd.snd.snd.snd.snd.fst x.snd.snd.snd.snd.snd.snd) (fun x ↦ inv28 es d x.fst x.snd.fst x.snd.snd.fst x.snd.snd.snd.fst x.snd.snd.snd.snd.fst x.snd.snd.snd.snd.snd.fst x.snd.snd.snd.snd.snd.snd) [0, 3, 4, 6] [3, 4] (((0:Int), d.rep, d.num, (0:Int), (0:Int), { data := #[] : ByteArray }, (0:Int))) (by kernel_rfl) (by kernel_rfl) (show inv28 es d (0:Int) d.rep d.num (0:Int) (0:Int) { data := #[] : ByteArray } (0:Int) from ?g0) ?_; rotate_left 1
 rintro ⟨i_0, r_1, n_2, a_3, b_4, s_5, q_6⟩ h_7
 obtain ⟨h_8, h_9, h_10, h_11, h_12⟩ : (0:Int) ≤ i_0 ∧ i_0 ≤ (↑es.length:Int) ∧ r_1 = d.rep ∧ n_2 = d.num ∧ ∀ (j:Nat), (↑j:Int) < i_0 → ¬es[j]!.dot = d := h_7
 refine sq ?_
 refine sq ?_
 refine rg (A := _ ∧ (AV.b (decide (i_0 < (↑es.length:Int))) = AV.b (decide (i_0 < (↑es.length:Int))))) cx [(2, { tell := some (.i .i64 ((↑es.length:Int))) }), (3, { tell := some (.b (decide (i_0 < (↑es.length:Int)))) })] [0, 3, 4, 6, 10] [3, 4] ⟨(told_len c45 es), (by kernel_rfl)⟩ ?_
 refine sn ?_
 refine st_dec (i_0 < (↑es.length:Int)) (by kernel_rfl) (by kernel_rfl) (fun h_13 => ?_) (fun h_13 => ?_)
 refine st_skip (by kernel_rfl) ?_
 refine sn (sq ?_)
 refine st_block 1 (by kernel_rfl) ?_
 refine sq ?_
 refine ra (A := ((0:Int) ≤ i_0) ∧ ((List.map c45 es)[i_0.toNat]? = some (c45 es[i_0.toNat]!)) ∧ ((c45 es[i_0.toNat]!).length = (4:Nat)) ∧ ((2:Nat) ≤ [AV.i .i64 es[i_0.toNat]!.dot.rep, AV.i .i64 es[i_0.toNat]!.dot.num, AV.s es[i_0.toNat]!.sku, AV.i .i64 es[i_0.toNat]!.qty].length) ∧ (AggEq Tryz.prog (43:Nat) [AV.i .i64 es[i_0.toNat]!.dot.rep, AV.i .i64 es[i_0.toNat]!.dot.num] [AV.i .i64 r_1, AV.i .i64 n_2] (decide (es[i_0.toNat]!.dot = { rep := r_1, num := n_2 : Dot })))) cx [(2, { row := (c45 es[i_0.toNat]!) }), (6, { val := some (.b (decide (es[i_0.toNat]!.dot = { rep := r_1, num := n_2 : Dot }))) })] [0, 3, 4, 6, 19] [3, 4] ⟨(by (with_reducible assumption)), (by (with_reducible refine get_map ?_; omega)), (by kernel_rfl), (by (simp only [List.length_append, List.length_cons, List.length_nil]; omega)), (eq43 es[i_0.toNat]!.dot { rep := r_1, num := n_2 : Dot })⟩ ?_
 refine sn ?_
 refine st_dec (es[i_0.toNat]!.dot = { rep := r_1, num := n_2 : Dot }) (by kernel_rfl) (by kernel_rfl) (fun h_14 => ?_) (fun h_14 => ?_)
 refine sq ?_
 refine rg (A := ((0:Int) ≤ i_0) ∧ ((List.map c45 es)[i_0.toNat]? = some (c45 es[i_0.toNat]!)) ∧ ((c45 es[i_0.toNat]!).length = (4:Nat)) ∧ ((4:Nat) ≤ [AV.i .i64 es[i_0.toNat]!.dot.rep, AV.i .i64 es[i_0.toNat]!.dot.num, AV.s es[i_0.toNat]!.sku, AV.i .i64 es[i_0.toNat]!.qty].length)) cx [(2, { row := (c45 es[i_0.toNat]!) })] [4, 5] [4] ⟨(by (with_reducible assumption)), (by (with_reducible refine get_map ?_; omega)), (by kernel_rfl), (by (simp only [List.length_append, List.length_cons, List.length_nil]; omega))⟩ ?_
 refine sn ?_
 refine st_ret (by kernel_rfl) ?_
 refine q_blk_ret ?_
 refine q_seq_ret ?_
 refine q_seq_ret ?_
 refine q_blk_ret ?_
 refine q_seq_ret ?_
 refine q_ret (r := .tup [.agg [.i .i64 (es[i_0.toNat]!.dot.rep), .i .i64 (es[i_0.toNat]!.dot.num), .s (es[i_0.toNat]!.sku), .i .i64 (es[i_0.toNat]!.qty)], .b (true)]) (obl := []) (by kernel_rfl) trivial (AVle.tup (ZLe.cons (AVle.eq (show AV.agg [AV.i .i64 es[i_0.toNat]!.dot.rep, AV.i .i64 es[i_0.toNat]!.dot.num, AV.s es[i_0.toNat]!.sku, AV.i .i64 es[i_0.toNat]!.qty] = AV.agg [AV.i .i64 (findE es d).fst.dot.rep, AV.i .i64 (findE es d).fst.dot.num, AV.s (findE es d).fst.sku, AV.i .i64 (findE es d).fst.qty] from ?g2)) (ZLe.cons (AVle.eq (show AV.b true = AV.b (findE es d).snd from ?g1)) ZLe.nil))); rotate_left 2
 refine st_skip (by kernel_rfl) ?_
 refine q_blk_normal ?_
 refine sn ?_
 refine rg (A := (AV.i .i64 (IntKind.i64.wrap (i_0 + (1:Int))) = AV.i .i64 (i_0 + (1:Int)))) cx [(1, { tell := some (.i .i64 (i_0 + (1:Int))) })] [0, 3, 4, 6] [3, 4] (told_i64 (by omega) (by omega)) ?_
 refine sn ?_
 refine loop_next ((i_0 + (1:Int), r_1, n_2, a_3, b_4, s_5, q_6)) (by kernel_rfl) (show ((↑es.length:Int) - (i_0 + (1:Int))).toNat < ((↑es.length:Int) - i_0).toNat from (by omega)) (show inv28 es d (i_0 + (1:Int)) r_1 n_2 a_3 b_4 s_5 q_6 from ?g3); rotate_left 1
 refine st_exit 0 (by kernel_rfl) ?_
 refine q_seq_exit ?_
 refine q_seq_exit ?_
 refine q_blk_hit ?_
 refine sn (sq ?_)
 refine rg (A := True) cx [] [4, 5] [4] trivial ?_
 refine sn ?_
 refine st_ret (by kernel_rfl) ?_
 refine q_ret (r := .tup [.agg [.i .i64 ((0:Int)), .i .i64 ((0:Int)), .s ({ data := #[] : ByteArray }), .i .i64 ((0:Int))], .b (false)]) (obl := []) (by kernel_rfl) trivial (AVle.tup (ZLe.cons (AVle.eq (show AV.agg [AV.i .i64 (0:Int), AV.i .i64 (0:Int), AV.s { data := #[] : ByteArray }, AV.i .i64 (0:Int)] = AV.agg [AV.i .i64 (findE es d).fst.dot.rep, AV.i .i64 (findE es d).fst.dot.num, AV.s (findE es d).fst.sku, AV.i .i64 (findE es d).fst.qty] from ?g5)) (ZLe.cons (AVle.eq (show AV.b false = AV.b (findE es d).snd from ?g4)) ZLe.nil))); rotate_left 2
 rotate_left
 revert i_0 r_1 n_2 a_3 b_4 s_5 q_6 h_8 h_9 h_10 h_11 h_12 h_13 h_14; rotate_left
 revert i_0 r_1 n_2 a_3 b_4 s_5 q_6 h_8 h_9 h_10 h_11 h_12 h_13 h_14; rotate_left
 revert i_0 r_1 n_2 a_3 b_4 s_5 q_6 h_8 h_9 h_10 h_11 h_12 h_13 h_14; rotate_left
 revert i_0 r_1 n_2 a_3 b_4 s_5 q_6 h_8 h_9 h_10 h_11 h_12 h_13; rotate_left
 revert i_0 r_1 n_2 a_3 b_4 s_5 q_6 h_8 h_9 h_10 h_11 h_12 h_13; rotate_left
 case g0 => exact ⟨by omega, by omega, rfl, rfl, fun j hj => by omega⟩
 case g1 => exact (fun i r n a b s q h0 h1 h2 h3 h4 h5 h6 => by subst h2 h3; rw [find_at (by omega) h6 (fun j hj => h4 j (by omega))])
 case g2 => exact (fun i r n a b s q h0 h1 h2 h3 h4 h5 h6 => by subst h2 h3; rw [find_at (by omega) h6 (fun j hj => h4 j (by omega))])
 case g3 => exact (fun i r n a b s q h0 h1 h2 h3 h4 h5 h6 => ⟨by omega, by omega, h2, h3, fun j hj => by
   subst h2 h3
   by_cases e : j = i.toNat
   ·rw [e]; exact h6
   ·exact h4 j (by omega)⟩)
 case g4 => exact (fun i r n a b s q h0 h1 h2 h3 h4 h5 => by rw [find_no (fun j hj => h4 j (by omega))])
 case g5 => exact (fun i r n a b s q h0 h1 h2 h3 h4 h5 => by rw [find_no (fun j hj => h4 j (by omega))]; rfl)
end Go.Proofs.YtaiepnaokhpmcaaGreat
namespace Go.Proofs.YtaiepnaokhpmcaaGreat
open Go.E
set_option maxRecDepth 100000
set_option maxHeartbeats 4000000
def bsN (l : List Record) (r : Record) : Int := (l.countP fun x => decide (cmpRec x r < 0):Nat)
def bsF (l : List Record) (r : Record) : Bool := l.any fun x => decide (cmpRec x r = 0)
def isBs (l : List Record) (r : Record) (i j:Int) : Prop := (∀ k : Nat, (k:Int) < i → cmpRec l[k]! r < 0) ∧ ∀ k : Nat, j ≤ k → k < l.length → ¬ cmpRec l[k]! r < 0
def invBs (l : List Record) (r : Record) (i j:Int) : Prop := 0 ≤ i ∧ i ≤ j ∧ j ≤ l.length ∧ isBs l r i j
theorem up_at {l : List Record} (h : upR l) {i j : Nat} (hij : i < j) (hj : j < l.length) : cmpRec l[i]! l[j]! < 0 := by
 have := List.pairwise_iff_getElem.1 h i j (by omega) hj hij
 rwa [getElem!_pos l i (by omega), getElem!_pos l j hj]
theorem bs_lo {l : List Record} {r : Record} {i j h : Int} (hu : upR l) (h0 : 0 ≤ i) (h1 : i ≤ h) (h2 : h < j) (h3 : j ≤ l.length) (hc : cmpRec l[h.toNat]! r < 0) (hi : isBs l r i j) : invBs l r (h + 1) j := by
 refine ⟨by omega, by omega, h3, fun k hk => ?_, hi.2⟩
 by_cases e : k = h.toNat
 ·rw [e]; exact hc
 ·exact ordRec.lt (up_at hu (i := k) (j := h.toNat) (by omega) (by omega)) (by omega)
theorem bs_hi {l : List Record} {r : Record} {i j h : Int} (hu : upR l) (h0 : 0 ≤ i) (h1 : i ≤ h) (h2 : h < j) (h3 : j ≤ l.length) (hc : ¬ cmpRec l[h.toNat]! r < 0) (hi : isBs l r i j) : invBs l r i h := by
 refine ⟨h0, h1, by omega, hi.1, fun k hk hl => ?_⟩
 by_cases e : k = h.toNat
 ·rw [e]; exact hc
 ·intro c
  exact hc (ordRec.lt (up_at hu (i := h.toNat) (j := k) (by omega) hl) (by omega))
theorem bs_end {l : List Record} {r : Record} {i j : Int} (h0 : 0 ≤ i) (hij : i ≤ j) (h : ¬ i < j) (hj : j ≤ l.length) (hi : isBs l r i j) : bsN l r = i := by
 have e : l.countP (fun x => decide (cmpRec x r < 0)) = i.toNat := by
  have h1 : (l.take i.toNat).countP (fun x => decide (cmpRec x r < 0)) = i.toNat := by
   have : (l.take i.toNat).length = i.toNat := by rw [List.length_take]; omega
   conv => rhs; rw [← this]
   rw [List.countP_eq_length]
   intro x hx
   obtain ⟨k, hk, rfl⟩ := List.mem_iff_getElem.1 hx
   rw [List.getElem_take]
   have hk' : k < i.toNat := by rw [this] at hk; exact hk
   have := hi.1 k (by omega)
   rw [getElem!_pos l k (by omega)] at this
   simpa using this
  have h2 : (l.drop i.toNat).countP (fun x => decide (cmpRec x r < 0)) = 0 := by
   rw [List.countP_eq_zero]
   intro x hx
   obtain ⟨k, hk, rfl⟩ := List.mem_iff_getElem.1 hx
   rw [List.length_drop] at hk
   rw [List.getElem_drop]
   have := hi.2 (i.toNat + k) (by omega) (by omega)
   rw [getElem!_pos l _ (by omega)] at this
   simpa using this
  have := List.countP_append (p := fun x => decide (cmpRec x r < 0)) (l₁ := l.take i.toNat) (l₂ := l.drop i.toNat)
  rw [List.take_append_drop] at this
  omega
 unfold bsN
 rw [e]
 omega
theorem bs_found {l : List Record} {r : Record} {i j : Int} (hu : upR l) (h0 : 0 ≤ i) (hij : i ≤ j) (h : ¬ i < j) (hj : j ≤ l.length) (hi : isBs l r i j) : bsF l r = decide (i < l.length ∧ cmpRec l[i.toNat]! r = 0) := by
 rw [Bool.eq_iff_iff]
 unfold bsF
 rw [List.any_eq_true, decide_eq_true_iff]
 constructor
 ·rintro ⟨x, hx, k⟩
  rw [decide_eq_true_iff] at k
  obtain ⟨n, hn, rfl⟩ := List.mem_iff_getElem.1 hx
  have hn' : i ≤ n := Int.not_lt.1 fun c => by
   have := hi.1 n c
   rw [getElem!_pos l n hn] at this
   omega
  have he : n = i.toNat := by
   apply Classical.byContradiction
   intro c
   have h1 := up_at hu (i := i.toNat) (j := n) (by omega) hn
   rw [getElem!_pos l n hn] at h1
   have h2 := hi.2 i.toNat (by omega) (by omega)
   exact h2 (ordRec.lt h1 (by omega))
  subst he
  exact ⟨by omega, by rw [getElem!_pos l _ hn]; exact k⟩
 ·rintro ⟨h1, h2⟩
  exact ⟨l[i.toNat]!, bang_in (by omega), by rw [decide_eq_true_iff]; exact h2⟩
theorem bsF_mem {l : List Record} {r : Record} (hl : ∀ x ∈ l, x.past = normP x.past) (hr : r.past = normP r.past) : bsF l r = decide (r ∈ l) := by
 rw [Bool.eq_iff_iff]
 unfold bsF
 rw [List.any_eq_true, decide_eq_true_iff]
 constructor
 ·rintro ⟨x, hx, k⟩
  rw [decide_eq_true_iff] at k
  rw [← rec_same (hl x hx) hr k]
  exact hx
 ·intro h
  exact ⟨r, h, by rw [decide_eq_true_iff]; exact ordRec.self r⟩
noncomputable def hasE (es : List Entry) (e : Entry) : Bool := decide (findE es e.dot = (e, true))
noncomputable def lessV (a b : Facts) : Facts := ⟨a.adds.filter fun e => !hasE b.adds e, minusP a.gone b.gone, a.recs.filter fun r => decide (¬ r ∈ b.recs)⟩
noncomputable def noneF (f : Facts) : Bool := decide ((f.adds.length:Int) = 0 ∧ sizeP f.gone = 0 ∧ (f.recs.length:Int) = 0)
noncomputable def botF (a b : Facts) : Bool := okF a && okF b
noncomputable def chkF (f : Facts) : Int := if okF f = true then 0 else 1
noncomputable def withV (a b : Facts) : Bool × Int := if botF a b = true then (noneF (lessV a b), 0) else (false, 1)
noncomputable def ordV (a b : Facts) : Int × Int := if botF a b = true then ((if noneF (lessV a b) = true ∧ noneF (lessV b a) = true then 0 else if noneF (lessV a b) = true then 1 else if noneF (lessV b a) = true then 2 else 3), 0) else (0, 1)
def zeroF : Facts := ⟨[], ⟨[], []⟩, []⟩
noncomputable def lesV (a b : Facts) : Facts × Int := if botF a b = true then (lessV a b, 0) else (zeroF, 1)
theorem okF_iff {f : Facts} : okF f = true ↔ lstE f.adds = 0 ∧ f.gone = normP f.gone ∧ recE f.recs = 0 := by rw [okF_eq, decide_eq_true_iff]
theorem rec_forms {rs : List Record} (h : recE rs = 0) : ∀ r ∈ rs, r.past = normP r.past := fun r hr => (ck_ok.1 (((recE_iff rs).1 h).1 r hr)).2.1
theorem rec_up {rs : List Record} (h : recE rs = 0) : upR rs := ((recE_iff rs).1 h).2
theorem botF_iff {a b : Facts} : botF a b = true ↔ okF a = true ∧ okF b = true := by unfold botF; rw [Bool.and_eq_true]
def isLe (a b : Facts) (i:Int) (o : List Entry) : Prop := o = (a.adds.take i.toNat).filter fun e => !hasE b.adds e
def isLr (a b : Facts) (i:Int) (o : List Record) : Prop := o = (a.recs.take i.toNat).filter fun r => decide (¬ r ∈ b.recs)
theorem filt_next {α : Type} [Inhabited α] {p : α → Bool} {l o : List α} {i : Int} (h0 : 0 ≤ i) (hi : i < l.length) (ho : o = (l.take i.toNat).filter p) : (l.take (i + 1).toNat).filter p = o ++ if p l[i.toNat]! = true then [l[i.toNat]!] else [] := by
 rw [← take_step h0 hi, List.filter_append, ho]
 congr 1
 generalize l[i.toNat]! = x
 split
 ·rename_i h; simp [List.filter_cons, h]
 ·rename_i h; simp [List.filter_cons, h]
end Go.Proofs.YtaiepnaokhpmcaaGreat
namespace Go.Proofs.YtaiepnaokhpmcaaGreat
open Go.E
set_option maxRecDepth 100000
set_option maxHeartbeats 4000000
theorem ent_ok {e : Entry} (h : entE e = 0) : 0 ≤ e.dot.rep ∧ e.dot.rep < 16 ∧ 1 ≤ e.dot.num ∧ e.dot.num ≤ 1000000000 := by
 unfold entE at h
 split at h
 ·cases h
 ·split at h
  ·cases h
  ·omega
theorem okL_at {es : List Entry} (h : okL es = true) {i : Nat} (hi : i < es.length) : entE es[i]! = 0 ∧ (i = 0 ∨ dLt es[i - 1]!.dot es[i]!.dot = true) := (okAt_iff _ _).1 ((allUp_iff _ _).1 h i hi)
theorem okL_key {es : List Entry} (h : okL es = true) : ∀ i : Nat, i < es.length → (i:Int) + 1 ≤ es[i]!.dot.rep * 1000000000 + es[i]!.dot.num
 | 0, hi => by have := ent_ok (okL_at h hi).1; omega
 | i + 1, hi => by
  have h1 := okL_key h i (by omega)
  have h2 := ent_ok (okL_at h hi).1
  have h3 := ent_ok (okL_at h (show i < es.length by omega)).1
  have h4 := (okL_at h hi).2
  rcases h4 with h4 | h4
  ·omega
  ·simp only [Nat.add_sub_cancel, dLt, decide_eq_true_eq] at h4
   omega
theorem okL_len {es : List Entry} (h : okL es = true) : es.length ≤ 16000000000 := by
 by_cases h0 : es.length = 0
 ·omega
 ·have h1 := okL_key h (es.length - 1) (by omega)
  have h2 := ent_ok (okL_at h (show es.length - 1 < es.length by omega)).1
  omega
theorem lst_ok {es : List Entry} (h : lstE es = 0) : okL es = true := by
 unfold lstE at h
 split at h
 ·assumption
 ·cases h
end Go.Proofs.YtaiepnaokhpmcaaGreat
namespace Go.Proofs.YtaiepnaokhpmcaaGreat
open Go.E
set_option maxRecDepth 100000
set_option maxHeartbeats 4000000
def szG (f : Facts) : Prop := szF f ∧ f.recs.length * 64 ≤ 140737488351232
def sameAB (a b : Facts) (x1 : List Entry) (x2 : List Int) (x3 : List Span) (x4 : List Record) (y1 : List Entry) (y2 : List Int) (y3 : List Span) (y4 : List Record) : Prop := x1 = a.adds ∧ x2 = a.gone.vec ∧ x3 = a.gone.cloud ∧ x4 = a.recs ∧ y1 = b.adds ∧ y2 = b.gone.vec ∧ y3 = b.gone.cloud ∧ y4 = b.recs
def invTl (a b : Facts) (i:Int) (x1 : List Entry) (x2 : List Int) (x3 : List Span) (x4 : List Record) (y1 : List Entry) (y2 : List Int) (y3 : List Span) (y4 : List Record) (o : List Entry) : Prop :=
 sameAB a b x1 x2 x3 x4 y1 y2 y3 y4 ∧ 0 ≤ i ∧ i ≤ a.adds.length ∧ (o.length:Int) ≤ i ∧ isLe a b i o
def decTl (a : Facts) (i:Int) (x1 : List Entry) (x2 : List Int) (x3 : List Span) (x4 : List Record) (y1 : List Entry) (y2 : List Int) (y3 : List Span) (y4 : List Record) (o : List Entry) : Nat := (a.adds.length - i).toNat
def invTm (a b : Facts) (i:Int) (y1 : List Entry) (y2 : List Int) (y3 : List Span) (y4 : List Record) (gv : List Int) (gc : List Span) (o : List Entry) (q : List Record) : Prop :=
 y4 = b.recs ∧ gv = (minusP a.gone b.gone).vec ∧ gc = (minusP a.gone b.gone).cloud ∧ o = (lessV a b).adds ∧ 0 ≤ i ∧ i ≤ a.recs.length ∧ (q.length:Int) ≤ i ∧ isLr a b i q
def decTm (a : Facts) (i:Int) (y1 : List Entry) (y2 : List Int) (y3 : List Span) (y4 : List Record) (gv : List Int) (gc : List Span) (o : List Entry) (q : List Record) : Nat := (a.recs.length - i).toNat
def invBu (l : List Record) (r : Record) (i j:Int) (s : ByteArray) (v : List Int) (c : List Span) : Prop := s = r.sku ∧ v = r.past.vec ∧ c = r.past.cloud ∧ invBs l r i j
def decBu (l : List Record) (i j:Int) (s : ByteArray) (v : List Int) (c : List Span) : Nat := (j - i).toNat
theorem chk_zero {f : Facts} : chkF f = 0 ↔ okF f = true := by
 unfold chkF
 by_cases h : okF f = true
 ·rw [if_pos h]; exact ⟨fun _ => h, fun _ => rfl⟩
 ·rw [if_neg h]; exact ⟨fun k => by omega, fun k => absurd k h⟩
theorem half_eq {x : Int} (h : 0 ≤ x) : x.fdiv (2 ^ min (Int.toNat 1) IntKind.u64.bits) = x / 2 := by
 show x.fdiv 2 = x / 2
 exact Int.fdiv_eq_ediv_of_nonneg x (by decide)
theorem less_sz {a b : Facts} (ha : szF a) : szF (lessV a b) := by
 refine ⟨⟨?_, ?_⟩, fun r hr => ?_⟩
 ·have := (tabP_len fun r => minR (openT [a.gone] r) (openT [b.gone] r)).1
  have e : (minusP a.gone b.gone).cloud.length ≤ 8000000000 := this
  show (minusP a.gone b.gone).cloud.length * 16 ≤ _
  omega
 ·have := (tabP_len fun r => minR (openT [a.gone] r) (openT [b.gone] r)).2
  show (minusP a.gone b.gone).vec.length ≤ _
  have e : (minusP a.gone b.gone).vec.length ≤ 16 := this
  omega
 ·have hr : r ∈ a.recs.filter fun r => decide (¬ r ∈ b.recs) := hr
  exact ha.2 r (List.mem_filter.1 hr).1
theorem has_iff {es : List Entry} {e : Entry} : hasE es e = true ↔ ¬ (¬ (findE es e.dot).2 = true ∨ ¬ (findE es e.dot).1 = e) := by
 unfold hasE
 rw [decide_eq_true_iff]
 constructor
 ·intro h
  rw [h]
  simp
 ·intro h
  have h1 : (findE es e.dot).2 = true := Classical.byContradiction fun k => h (.inl k)
  have h2 : (findE es e.dot).1 = e := Classical.byContradiction fun k => h (.inr k)
  exact Prod.ext h2 h1
theorem con39 (f : Facts) (hb : szF f) : Con Tryz.prog 39 [.agg (c29 f)] (.i .i64 (chkF f)) :=
 by
 have no : (¬lstE f.adds = 0 ∨ ¬f.gone = normP f.gone ∨ ¬recE f.recs = 0) ↔ ¬ okF f = true := by
  rw [okF_iff]
  constructor
  ·rintro (h | h | h) k
   ·exact h k.1
   ·exact h k.2.1
   ·exact h k.2.2
  ·intro h
   by_cases a : lstE f.adds = 0
   ·by_cases b : f.gone = normP f.gone
    ·exact .inr (.inr fun c => h ⟨a, b, c⟩)
    ·exact .inr (.inl b)
   ·exact .inl a
 refine st_con tab_ok (by kernel_rfl) [.tmp 2] 19 Go.Proofs.Tryz.func39 (by kernel_rfl) (by kernel_rfl) ?_
 intro e0 cx
 refine sq ?_
 refine rg (A := True) cx [] [1] [1] trivial ?_
 refine sn (sq ?_)
 refine sq ?_
 refine st_join (σ' := ⟨[(18, .b (decide (¬lstE f.adds = (0:Int) ∨ ¬f.gone = normP f.gone ∨ ¬recE f.recs = (0:Int))))], []⟩) ?_ ?_
 refine st_split (¬lstE f.adds = (0:Int)) (fun h_1 => ?_) (fun h_1 => ?_)
 refine rg (A := _ ∧ _ ∧ (AV.b true = AV.b (decide (¬lstE f.adds = (0:Int) ∨ ¬f.gone = normP f.gone ∨ ¬recE f.recs = (0:Int))))) cx [(2, { val := some (.i .i64 (lstE f.adds)) }), (3, { tell := some (.b (true)) }), (15, { tell := some (.b (decide (¬lstE f.adds = (0:Int) ∨ ¬f.gone = normP f.gone ∨ ¬recE f.recs = (0:Int)))) })] [18] [] ⟨(con65 (f.adds)), (told_neqt h_1), (by simp only [eq_false h_1, told_simp1, told_simp2, and_true, true_and, and_false, false_and, or_true, true_or, or_false, false_or, not_true_eq_false, not_false_eq_true, decide_true, decide_false, Bool.decide_eq_true])⟩ ?_
 exact ⟨rfl, by kernel_rfl⟩
 refine st_split (¬f.gone = normP f.gone) (fun h_2 => ?_) (fun h_2 => ?_)
 refine rg (A := _ ∧ (AV.b (lstE f.adds != (0:Int)) = AV.b (decide ¬lstE f.adds = (0:Int))) ∧ _ ∧ _ ∧ _ ∧ (AV.b true = AV.b (decide (¬lstE f.adds = (0:Int) ∨ ¬f.gone = normP f.gone ∨ ¬recE f.recs = (0:Int))))) cx [(2, { val := some (.i .i64 (lstE f.adds)) }), (3, { tell := some (.b (decide ¬lstE f.adds = (0:Int))) }), (4, { tell := some (.b (false)) }), (7, { val := some (.b (decide (f.gone = normP f.gone))), tell := some (.b (false)) }), (15, { tell := some (.b (decide (¬lstE f.adds = (0:Int) ∨ ¬f.gone = normP f.gone ∨ ¬recE f.recs = (0:Int)))) })] [18] [] ⟨(con65 (f.adds)), (told_neq), (told_false h_1), (told_false h_2), (con82 (f.gone) ?g0), (by first | (simp only [eq_false h_1, eq_false h_2, told_simp1, told_simp2, and_true, true_and, and_false, false_and, or_true, true_or, or_false, false_or, not_true_eq_false, not_false_eq_true, decide_true, decide_false, Bool.decide_eq_true]; done) | simp_all)⟩ ?_; rotate_left 1
 exact ⟨rfl, by kernel_rfl⟩
 refine rg (A := _ ∧ (AV.b (lstE f.adds != (0:Int)) = AV.b (decide ¬lstE f.adds = (0:Int))) ∧ _ ∧ _ ∧ ((AV.b !decide (f.gone = normP f.gone)) = AV.b (decide ¬f.gone = normP f.gone)) ∧ _ ∧ _ ∧ (AV.b (recE f.recs != (0:Int)) = AV.b (decide ¬recE f.recs = (0:Int))) ∧ (AV.b (decide ¬recE f.recs = (0:Int)) = AV.b (decide (¬lstE f.adds = (0:Int) ∨ ¬f.gone = normP f.gone ∨ ¬recE f.recs = (0:Int))))) cx [(2, { val := some (.i .i64 (lstE f.adds)) }), (3, { tell := some (.b (decide ¬lstE f.adds = (0:Int))) }), (4, { tell := some (.b (false)) }), (7, { val := some (.b (decide (f.gone = normP f.gone))) }), (8, { tell := some (.b (decide ¬f.gone = normP f.gone)) }), (9, { tell := some (.b (false)) }), (13, { val := some (.i .i64 (recE f.recs)) }), (14, { tell := some (.b (decide ¬recE f.recs = (0:Int))) }), (15, { tell := some (.b (decide (¬lstE f.adds = (0:Int) ∨ ¬f.gone = normP f.gone ∨ ¬recE f.recs = (0:Int)))) })] [18] [] ⟨(con65 (f.adds)), (told_neq), (told_false h_1), (con82 (f.gone) ?g1), (told_notd), (told_false h_2), (con83 (f.recs) ?g2), (told_neq), (by first | (simp only [eq_false h_1, eq_false h_2, told_simp1, told_simp2, and_true, true_and, and_false, false_and, or_true, true_or, or_false, false_or, not_true_eq_false, not_false_eq_true, decide_true, decide_false, Bool.decide_eq_true]; done) | simp_all)⟩ ?_; rotate_left 2
 exact ⟨rfl, by kernel_rfl⟩
 refine sn ?_
 refine st_dec (¬lstE f.adds = (0:Int) ∨ ¬f.gone = normP f.gone ∨ ¬recE f.recs = (0:Int)) (by kernel_rfl) (by kernel_rfl) (fun h_3 => ?_) (fun h_3 => ?_)
 refine sq ?_
 refine rg (A := True) cx [] [2] [] trivial ?_
 refine sn ?_
 refine st_ret (by kernel_rfl) ?_
 refine q_seq_ret ?_
 refine q_ret (r := .i .i64 ((1:Int))) (obl := []) (by kernel_rfl) trivial (AVle.eq (show AV.i .i64 (1:Int) = AV.i .i64 (chkF f) from ?g3)); rotate_left 1
 refine st_skip (by kernel_rfl) ?_
 refine sn (sq ?_)
 refine rg (A := True) cx [] [2] [] trivial ?_
 refine sn ?_
 refine st_ret (by kernel_rfl) ?_
 refine q_ret (r := .i .i64 ((0:Int))) (obl := []) (by kernel_rfl) trivial (AVle.eq (show AV.i .i64 (0:Int) = AV.i .i64 (chkF f) from ?g4)); rotate_left 1
 revert h_1 h_2; rotate_left
 revert h_1 h_2; rotate_left
 revert h_1 h_2; rotate_left
 revert h_3; rotate_left
 revert h_3; rotate_left
 case g0 => intros; exact hb.1.1
 case g1 => intros; exact hb.1.1
 case g2 => intros; exact szQ_s hb.2
 case g3 => intro h; unfold chkF; rw [if_neg (no.1 h)]
 case g4 => intro h; unfold chkF; rw [if_pos (Classical.not_not.1 fun k => h (no.2 k))]
theorem con56 (a b : Facts) (ha : szF a) (hb : szF b) : Con Tryz.prog 56 [.agg (c29 a), .agg (c29 b)] (.b (botF a b)) :=
 by
 refine st_con tab_ok (by kernel_rfl) [.tmp 4] 13 Go.Proofs.Tryz.func56 (by kernel_rfl) (by kernel_rfl) ?_
 intro e0 cx
 refine sq ?_
 refine rg (A := True) cx [] [2, 3] [2, 3] trivial ?_
 refine sn (sq ?_)
 refine st_join (σ' := ⟨[(4, .b (decide (chkF a = (0:Int) ∧ chkF b = (0:Int))))], []⟩) ?_ ?_
 refine st_split (chkF a = (0:Int)) (fun h_1 => ?_) (fun h_1 => ?_)
 refine rg (A := _ ∧ _ ∧ _ ∧ (AV.b (chkF b == (0:Int)) = AV.b (decide (chkF b = (0:Int)))) ∧ (AV.b (decide (chkF b = (0:Int))) = AV.b (decide (chkF a = (0:Int) ∧ chkF b = (0:Int))))) cx [(1, { val := some (.i .i64 (chkF a)) }), (2, { tell := some (.b (true)) }), (5, { val := some (.i .i64 (chkF b)) }), (6, { tell := some (.b (decide (chkF b = (0:Int)))) }), (8, { tell := some (.b (decide (chkF a = (0:Int) ∧ chkF b = (0:Int)))) })] [4] [] ⟨(con39 (a) (by (with_reducible assumption))), (told_true h_1), (con39 (b) (by (with_reducible assumption))), (by kernel_rfl), (by simp only [eq_true h_1, told_simp1, told_simp2, and_true, true_and, and_false, false_and, or_true, true_or, or_false, false_or, not_true_eq_false, not_false_eq_true, decide_true, decide_false, Bool.decide_eq_true])⟩ ?_
 exact ⟨rfl, by kernel_rfl⟩
 refine rg (A := _ ∧ _ ∧ (AV.b false = AV.b (decide (chkF a = (0:Int) ∧ chkF b = (0:Int))))) cx [(1, { val := some (.i .i64 (chkF a)) }), (2, { tell := some (.b (false)) }), (8, { tell := some (.b (decide (chkF a = (0:Int) ∧ chkF b = (0:Int)))) })] [4] [] ⟨(con39 (a) (by (with_reducible assumption))), (told_false h_1), (by simp only [eq_false h_1, told_simp1, told_simp2, and_true, true_and, and_false, false_and, or_true, true_or, or_false, false_or, not_true_eq_false, not_false_eq_true, decide_true, decide_false, Bool.decide_eq_true])⟩ ?_
 exact ⟨rfl, by kernel_rfl⟩
 refine sn ?_
 refine st_ret (by kernel_rfl) ?_
 refine q_ret (r := .b (decide (chkF a = (0:Int) ∧ chkF b = (0:Int)))) (obl := []) (by kernel_rfl) trivial (AVle.eq (show AV.b (decide (chkF a = (0:Int) ∧ chkF b = (0:Int))) = AV.b (botF a b) from ?g0)); rotate_left 1
 case g0 =>
  refine congrArg AV.b ?_
  rw [Bool.eq_iff_iff, decide_eq_true_iff, chk_zero, chk_zero, botF_iff]
theorem con105 (l : List Record) (r : Record) (hu : upR l) (hl : szRs l) (hr : szR r) (hn : l.length ≤ 4611686018427387904) : Con Tryz.prog 105 [.sl (l.map c81), .agg (c81 r), .fn (.func 106) [] []] (.tup [.i .i64 (bsN l r), .b (bsF l r)]) :=
 by
 refine con_lens 0 (c81) (l) (by kernel_rfl) Go.Proofs.Tryz.func105 (by kernel_rfl) fun hl_0 => ?_
 refine st_con tab_ok (by kernel_rfl) [.tmp 6, .tmp 7] 49 Go.Proofs.Tryz.func105 (by kernel_rfl) (by kernel_rfl) ?_
 intro e0 cx
 refine sq ?_
 refine rg (A := True) cx [] [0, 2, 4] [4] trivial ?_
 refine sn (sq ?_)
 refine rg (A := _) cx [(1, { tell := some (.i .i64 ((↑l.length:Int))) })] [0, 2, 4, 8] [4] (told_len c81 l) ?_
 refine sn (sq ?_)
 refine rg (A := True) cx [] [0, 2, 4, 8, 9, 10] [4] trivial ?_
 refine sn (sq ?_)
 refine st_block 0 (by kernel_rfl) ?_
 refine st_loop (X := Int × Int × ByteArray × List Int × List Span) (fun x => ⟨[(0, .sl (List.map c81 l)), (2, .fn (Fn.func (106 : FuncId)) [] []), (4, .ptr (4) (0) (0) (0)), (8, .i .i64 ((↑l.length:Int))), (9, .i .i64 (x.fst)), (10, .i .i64 (x.snd.fst))], [(4, ⟨0, 81, .var [.s (x.snd.snd.fst), .sl (List.map c3 x.snd.snd.snd.fst), .sl (List.map c104 x.snd.snd.snd.snd)]⟩)]⟩) (fun x ↦ decBu l x.fst x.snd.fst x.snd.snd.fst x.snd.snd.snd.fst x.snd.snd.snd.snd) (fun x ↦ invBu l r x.fst x.snd.fst x.snd.snd.fst x.snd.snd.snd.fst x.snd.snd.snd.snd) [0, 2, 4, 8, 9, 10] [4] (((0:Int), (↑l.length:Int), r.sku, r.past.vec, r.past.cloud)) (by kernel_rfl) (by kernel_rfl) (show invBu l r (0:Int) (↑l.length:Int) r.sku r.past.vec r.past.cloud from ?g0) ?_; rotate_left 1
 rintro ⟨i_0, j_1, s_2, v_3, c_4⟩ h_5
 obtain ⟨h_6, h_7, h_8, h_9⟩ : s_2 = r.sku ∧ v_3 = r.past.vec ∧ c_4 = r.past.cloud ∧ invBs l r i_0 j_1 := h_5
 refine sq ?_
 refine sq ?_
 refine rg (A := (AV.b (decide (i_0 < j_1)) = AV.b (decide (i_0 < j_1)))) cx [(2, { tell := some (.b (decide (i_0 < j_1))) })] [0, 2, 4, 8, 9, 10, 17] [4] (by kernel_rfl) ?_
 refine sn ?_
 refine st_dec (i_0 < j_1) (by kernel_rfl) (by kernel_rfl) (fun h_10 => ?_) (fun h_10 => ?_)
 refine st_skip (by kernel_rfl) ?_
 refine sn ?_
 refine st_block 1 (by kernel_rfl) ?_
 refine sq ?_
 refine rg (A := (AV.i .i64 (IntKind.i64.wrap (i_0 + j_1)) = AV.i .i64 (i_0 + j_1)) ∧ (AV.i IntKind.u64 (IntKind.u64.wrap (i_0 + j_1)) = AV.i IntKind.u64 (i_0 + j_1)) ∧ (AV.i .i64 (IntKind.i64.wrap ((i_0 + j_1).fdiv ((2:Int) ^ min (Int.toNat (1:Int)) IntKind.u64.bits))) = AV.i .i64 ((i_0 + j_1).fdiv ((2:Int) ^ min (Int.toNat (1:Int)) IntKind.u64.bits)))) cx [(2, { tell := some (.i .i64 (i_0 + j_1)) }), (3, { tell := some (.i .u64 (i_0 + j_1)) }), (5, { tell := some (.i .i64 ((i_0 + j_1).fdiv ((2:Int) ^ min (Int.toNat (1:Int)) IntKind.u64.bits))) })] [0, 2, 4, 8, 9, 10, 11] [4] ⟨(told_i64 ?g1 ?g2), (told_u64 ?g3 ?g4), (told_i64 ?g5 ?g6)⟩ ?_; rotate_left 6
 refine sn (sq ?_)
 refine ra (A := ((0:Int) ≤ (i_0 + j_1).fdiv ((2:Int) ^ min (Int.toNat (1:Int)) IntKind.u64.bits)) ∧ ((List.map c81 l)[((i_0 + j_1).fdiv ((2:Int) ^ min (Int.toNat (1:Int)) IntKind.u64.bits)).toNat]? = some (c81 l[((i_0 + j_1).fdiv ((2:Int) ^ min (Int.toNat (1:Int)) IntKind.u64.bits)).toNat]!)) ∧ ((c81 l[((i_0 + j_1).fdiv ((2:Int) ^ min (Int.toNat (1:Int)) IntKind.u64.bits)).toNat]!).length = (3:Nat)) ∧ ((3:Nat) ≤ [AV.s l[((i_0 + j_1).fdiv ((2:Int) ^ min (Int.toNat (1:Int)) IntKind.u64.bits)).toNat]!.sku, AV.sl (List.map c3 l[((i_0 + j_1).fdiv ((2:Int) ^ min (Int.toNat (1:Int)) IntKind.u64.bits)).toNat]!.past.vec), AV.sl (List.map c104 l[((i_0 + j_1).fdiv ((2:Int) ^ min (Int.toNat (1:Int)) IntKind.u64.bits)).toNat]!.past.cloud)].length) ∧ _ ∧ (AV.b (decide (cmpRec l[((i_0 + j_1).fdiv ((2:Int) ^ min (Int.toNat (1:Int)) IntKind.u64.bits)).toNat]! { sku := s_2, past := { vec := v_3, cloud := c_4 : Past } : Record } < (0:Int))) = AV.b (decide (cmpRec l[((i_0 + j_1).fdiv ((2:Int) ^ min (Int.toNat (1:Int)) IntKind.u64.bits)).toNat]! { sku := s_2, past := { vec := v_3, cloud := c_4 : Past } : Record } < (0:Int))))) cx [(3, { row := (c81 l[((i_0 + j_1).fdiv ((2:Int) ^ min (Int.toNat (1:Int)) IntKind.u64.bits)).toNat]!) }), (6, { val := some (.i .i64 (cmpRec l[((i_0 + j_1).fdiv ((2:Int) ^ min (Int.toNat (1:Int)) IntKind.u64.bits)).toNat]! { sku := s_2, past := { vec := v_3, cloud := c_4 : Past } : Record })) }), (7, { tell := some (.b (decide (cmpRec l[((i_0 + j_1).fdiv ((2:Int) ^ min (Int.toNat (1:Int)) IntKind.u64.bits)).toNat]! { sku := s_2, past := { vec := v_3, cloud := c_4 : Past } : Record } < (0:Int)))) })] [0, 2, 4, 8, 9, 10, 11, 31] [4] ⟨?g7, ?g8, (by kernel_rfl), (by (simp only [List.length_append, List.length_cons, List.length_nil]; omega)), (con106 (l[((i_0 + j_1).fdiv ((2:Int) ^ min (Int.toNat (1:Int)) IntKind.u64.bits)).toNat]!) ({ sku := s_2, past := { vec := v_3, cloud := c_4 : Past } : Record }) ?g9 ?g10), (by kernel_rfl)⟩ ?_; rotate_left 4
 refine sn ?_
 refine st_dec (cmpRec l[((i_0 + j_1).fdiv ((2:Int) ^ min (Int.toNat (1:Int)) IntKind.u64.bits)).toNat]! { sku := s_2, past := { vec := v_3, cloud := c_4 : Past } : Record } < (0:Int)) (by kernel_rfl) (by kernel_rfl) (fun h_11 => ?_) (fun h_11 => ?_)
 refine rg (A := (AV.i .i64 (IntKind.i64.wrap ((i_0 + j_1).fdiv ((2:Int) ^ min (Int.toNat (1:Int)) IntKind.u64.bits) + (1:Int))) = AV.i .i64 ((i_0 + j_1).fdiv ((2:Int) ^ min (Int.toNat (1:Int)) IntKind.u64.bits) + (1:Int)))) cx [(1, { tell := some (.i .i64 ((i_0 + j_1).fdiv ((2:Int) ^ min (Int.toNat (1:Int)) IntKind.u64.bits) + (1:Int))) })] [0, 2, 4, 8, 9, 10] [4] (told_i64 ?g11 ?g12) ?_; rotate_left 2
 refine q_blk_normal ?_
 refine sn ?_
 refine loop_next (((i_0 + j_1).fdiv ((2:Int) ^ min (Int.toNat (1:Int)) IntKind.u64.bits) + (1:Int), j_1, s_2, v_3, c_4)) (by kernel_rfl) (show (j_1 - ((i_0 + j_1).fdiv ((2:Int) ^ min (Int.toNat (1:Int)) IntKind.u64.bits) + (1:Int))).toNat < (j_1 - i_0).toNat from ?g13) (show invBu l r ((i_0 + j_1).fdiv ((2:Int) ^ min (Int.toNat (1:Int)) IntKind.u64.bits) + (1:Int)) j_1 s_2 v_3 c_4 from ?g14); rotate_left 2
 refine rg (A := True) cx [] [0, 2, 4, 8, 9, 10] [4] trivial ?_
 refine q_blk_normal ?_
 refine sn ?_
 refine loop_next ((i_0, (i_0 + j_1).fdiv ((2:Int) ^ min (Int.toNat (1:Int)) IntKind.u64.bits), s_2, v_3, c_4)) (by kernel_rfl) (show ((i_0 + j_1).fdiv ((2:Int) ^ min (Int.toNat (1:Int)) IntKind.u64.bits) - i_0).toNat < (j_1 - i_0).toNat from ?g15) (show invBu l r i_0 ((i_0 + j_1).fdiv ((2:Int) ^ min (Int.toNat (1:Int)) IntKind.u64.bits)) s_2 v_3 c_4 from ?g16); rotate_left 2
 refine st_exit 0 (by kernel_rfl) ?_
 refine q_seq_exit ?_
 refine q_seq_exit ?_
 refine q_blk_hit ?_
 refine sn (sq ?_)
 refine st_join (σ' := ⟨[(6, .i .i64 (i_0)), (7, .b (decide (i_0 < (↑l.length:Int) ∧ cmpRec l[i_0.toNat]! { sku := s_2, past := { vec := v_3, cloud := c_4 : Past } : Record } = (0:Int))))], []⟩) ?_ ?_
 refine st_split (i_0 < (↑l.length:Int)) (fun h_13 => ?_) (fun h_13 => ?_)
 refine ra (A := _ ∧ ((0:Int) ≤ i_0) ∧ ((List.map c81 l)[i_0.toNat]? = some (c81 l[i_0.toNat]!)) ∧ ((c81 l[i_0.toNat]!).length = (3:Nat)) ∧ ((3:Nat) ≤ [AV.s l[i_0.toNat]!.sku, AV.sl (List.map c3 l[i_0.toNat]!.past.vec), AV.sl (List.map c104 l[i_0.toNat]!.past.cloud)].length) ∧ _ ∧ (AV.b (cmpRec l[i_0.toNat]! { sku := s_2, past := { vec := v_3, cloud := c_4 : Past } : Record } == (0:Int)) = AV.b (decide (cmpRec l[i_0.toNat]! { sku := s_2, past := { vec := v_3, cloud := c_4 : Past } : Record } = (0:Int)))) ∧ (AV.b (decide (cmpRec l[i_0.toNat]! { sku := s_2, past := { vec := v_3, cloud := c_4 : Past } : Record } = (0:Int))) = AV.b (decide (i_0 < (↑l.length:Int) ∧ cmpRec l[i_0.toNat]! { sku := s_2, past := { vec := v_3, cloud := c_4 : Past } : Record } = (0:Int))))) cx [(3, { tell := some (.b (true)) }), (8, { row := (c81 l[i_0.toNat]!) }), (11, { val := some (.i .i64 (cmpRec l[i_0.toNat]! { sku := s_2, past := { vec := v_3, cloud := c_4 : Past } : Record })) }), (12, { tell := some (.b (decide (cmpRec l[i_0.toNat]! { sku := s_2, past := { vec := v_3, cloud := c_4 : Past } : Record } = (0:Int)))) }), (15, { tell := some (.b (decide (i_0 < (↑l.length:Int) ∧ cmpRec l[i_0.toNat]! { sku := s_2, past := { vec := v_3, cloud := c_4 : Past } : Record } = (0:Int)))) })] [6, 7] [] ⟨(told_true h_13), ?g17, ?g18, (by kernel_rfl), (by (simp only [List.length_append, List.length_cons, List.length_nil]; omega)), (con106 (l[i_0.toNat]!) ({ sku := s_2, past := { vec := v_3, cloud := c_4 : Past } : Record }) ?g19 ?g20), (by kernel_rfl), (by simp only [eq_true h_13, told_simp1, told_simp2, and_true, true_and, and_false, false_and, or_true, true_or, or_false, false_or, not_true_eq_false, not_false_eq_true, decide_true, decide_false, Bool.decide_eq_true])⟩ ?_; rotate_left 4
 exact ⟨rfl, by kernel_rfl⟩
 refine ra (A := _ ∧ (AV.b false = AV.b (decide (i_0 < (↑l.length:Int) ∧ cmpRec l[i_0.toNat]! { sku := s_2, past := { vec := v_3, cloud := c_4 : Past } : Record } = (0:Int))))) cx [(3, { tell := some (.b (false)) }), (15, { tell := some (.b (decide (i_0 < (↑l.length:Int) ∧ cmpRec l[i_0.toNat]! { sku := s_2, past := { vec := v_3, cloud := c_4 : Past } : Record } = (0:Int)))) })] [6, 7] [] ⟨(told_false h_13), (by simp only [eq_false h_13, told_simp1, told_simp2, and_true, true_and, and_false, false_and, or_true, true_or, or_false, false_or, not_true_eq_false, not_false_eq_true, decide_true, decide_false, Bool.decide_eq_true])⟩ ?_
 exact ⟨rfl, by kernel_rfl⟩
 refine sn ?_
 refine st_ret (by kernel_rfl) ?_
 refine q_ret (r := .tup [.i .i64 (i_0), .b (decide (i_0 < (↑l.length:Int) ∧ cmpRec l[i_0.toNat]! { sku := s_2, past := { vec := v_3, cloud := c_4 : Past } : Record } = (0:Int)))]) (obl := []) (by kernel_rfl) trivial (AVle.tup (ZLe.cons (AVle.eq (show AV.i .i64 i_0 = AV.i .i64 (bsN l r) from ?g22)) (ZLe.cons (AVle.eq (show AV.b (decide (i_0 < (↑l.length:Int) ∧ cmpRec l[i_0.toNat]! { sku := s_2, past := { vec := v_3, cloud := c_4 : Past } : Record } = (0:Int))) = AV.b (bsF l r) from ?g21)) ZLe.nil))); rotate_left 2
 rotate_left
 revert i_0 j_1 s_2 v_3 c_4 h_6 h_7 h_8 h_9 h_10; rotate_left
 revert i_0 j_1 s_2 v_3 c_4 h_6 h_7 h_8 h_9 h_10; rotate_left
 revert i_0 j_1 s_2 v_3 c_4 h_6 h_7 h_8 h_9 h_10; rotate_left
 revert i_0 j_1 s_2 v_3 c_4 h_6 h_7 h_8 h_9 h_10; rotate_left
 revert i_0 j_1 s_2 v_3 c_4 h_6 h_7 h_8 h_9 h_10; rotate_left
 revert i_0 j_1 s_2 v_3 c_4 h_6 h_7 h_8 h_9 h_10; rotate_left
 revert i_0 j_1 s_2 v_3 c_4 h_6 h_7 h_8 h_9 h_10; rotate_left
 revert i_0 j_1 s_2 v_3 c_4 h_6 h_7 h_8 h_9 h_10; rotate_left
 revert i_0 j_1 s_2 v_3 c_4 h_6 h_7 h_8 h_9 h_10; rotate_left
 revert i_0 j_1 s_2 v_3 c_4 h_6 h_7 h_8 h_9 h_10; rotate_left
 revert i_0 j_1 s_2 v_3 c_4 h_6 h_7 h_8 h_9 h_10 h_11; rotate_left
 revert i_0 j_1 s_2 v_3 c_4 h_6 h_7 h_8 h_9 h_10 h_11; rotate_left
 revert i_0 j_1 s_2 v_3 c_4 h_6 h_7 h_8 h_9 h_10 h_11; rotate_left
 revert i_0 j_1 s_2 v_3 c_4 h_6 h_7 h_8 h_9 h_10 h_11; rotate_left
 revert i_0 j_1 s_2 v_3 c_4 h_6 h_7 h_8 h_9 h_10 h_11; rotate_left
 revert i_0 j_1 s_2 v_3 c_4 h_6 h_7 h_8 h_9 h_10 h_11; rotate_left
 revert i_0 j_1 s_2 v_3 c_4 h_6 h_7 h_8 h_9 h_10 h_13; rotate_left
 revert i_0 j_1 s_2 v_3 c_4 h_6 h_7 h_8 h_9 h_10 h_13; rotate_left
 revert i_0 j_1 s_2 v_3 c_4 h_6 h_7 h_8 h_9 h_10 h_13; rotate_left
 revert i_0 j_1 s_2 v_3 c_4 h_6 h_7 h_8 h_9 h_10 h_13; rotate_left
 revert i_0 j_1 s_2 v_3 c_4 h_6 h_7 h_8 h_9 h_10; rotate_left
 revert i_0 j_1 s_2 v_3 c_4 h_6 h_7 h_8 h_9 h_10; rotate_left
 case g0 => exact ⟨rfl, rfl, rfl, by omega, by omega, by omega, fun k hk => by omega, fun k h1 h2 => by omega⟩
 case g8 => intro i j s v c e1 e2 e3 k m; obtain ⟨k0, k1, k2, k3⟩ := k; rw [half_eq (by omega)]; exact get_map (by omega)
 case g9 => intro i j s v c e1 e2 e3 k m; obtain ⟨k0, k1, k2, k3⟩ := k; rw [half_eq (by omega)]; exact szRs_at hl (by omega) (by omega)
 case g10 => intro i j s v c e1 e2 e3 k m; subst e1 e2 e3; exact hr
 case g14 =>
  intro i j s v c e1 e2 e3 k m n
  obtain ⟨k0, k1, k2, k3⟩ := k
  rw [half_eq (by omega)] at n ⊢
  subst e1 e2 e3
  exact ⟨rfl, rfl, rfl, bs_lo hu k0 (by omega) (by omega) k2 n k3⟩
 case g16 =>
  intro i j s v c e1 e2 e3 k m n
  obtain ⟨k0, k1, k2, k3⟩ := k
  rw [half_eq (by omega)] at n ⊢
  subst e1 e2 e3
  exact ⟨rfl, rfl, rfl, bs_hi hu k0 (by omega) (by omega) k2 n k3⟩
 case g17 => intro i j s v c e1 e2 e3 k m n; exact k.1
 case g18 => intro i j s v c e1 e2 e3 k m n; exact get_map (by have := k.1; omega)
 case g19 => intro i j s v c e1 e2 e3 k m n; exact szRs_at hl k.1 n
 case g20 => intro i j s v c e1 e2 e3 k m n; subst e1 e2 e3; exact hr
 case g21 => intro i j s v c e1 e2 e3 k m; subst e1 e2 e3; obtain ⟨k0, k1, k2, k3⟩ := k; rw [bs_found hu k0 k1 m k2 k3]
 case g22 => intro i j s v c e1 e2 e3 k m; obtain ⟨k0, k1, k2, k3⟩ := k; rw [bs_end k0 k1 m k2 k3]
 all_goals (intro i j s v c e1 e2 e3 k m; obtain ⟨k0, k1, k2, k3⟩ := k; (try rw [half_eq (by omega)]); (first | omega | (intro n; omega)))
theorem con58 (a b : Facts) (ha : szG a) (hb : szG b) (h1 : okF a = true) (h2 : okF b = true) : Con Tryz.prog 58 [.agg (c29 a), .agg (c29 b)] (.agg (c29 (lessV a b))) :=
 by
 obtain ⟨f1, f2, f3⟩ := okF_iff.1 h1
 obtain ⟨g1, g2, g3⟩ := okF_iff.1 h2
 have hlen : a.adds.length ≤ 16000000000 := okL_len (lst_ok f1)
 have hrl := ha.2
 have hrb := hb.2
 refine st_con tab_ok (by kernel_rfl) [.cell 4 29] 78 Go.Proofs.Tryz.func58 (by kernel_rfl) (by kernel_rfl) ?_
 intro e0 cx
 refine sq ?_
 refine rg (A := True) cx [] [2, 3, 4] [2, 3, 4] trivial ?_
 refine sn (sq ?_)
 refine rg (A := True) cx [] [2, 3, 4, 5] [2, 3, 4, 5] trivial ?_
 refine sn (sq ?_)
 refine sq ?_
 refine rg (A := _) cx [(2, { tell := some (.i .i64 ((↑a.adds.length:Int))) })] [2, 3, 4, 5, 15, 16, 17] [2, 3, 4, 5] (told_len c45 a.adds) ?_
 refine sn ?_
 refine st_block 0 (by kernel_rfl) ?_
 refine awp_cellIn 5 45 4 0 5500 (σ' := ⟨[(2, .ptr (2) (0) (0) (0)), (3, .ptr (3) (0) (0) (0)), (4, .ptr (4) (0) (0) (0)), (5, .ptr (5) (0) (0) (0)), (15, .sl (List.map c45 a.adds)), (16, .i .i64 ((↑a.adds.length:Int))), (17, .i .i64 ((0:Int)))], [(2, ⟨0, 29, .var [.sl (List.map c45 a.adds), .sl (List.map c3 a.gone.vec), .sl (List.map c104 a.gone.cloud), .sl (List.map c81 a.recs)]⟩), (3, ⟨0, 29, .var [.sl (List.map c45 b.adds), .sl (List.map c3 b.gone.vec), .sl (List.map c104 b.gone.cloud), .sl (List.map c81 b.recs)]⟩), (4, ⟨0, 29, .var [.nl, .nl, .nl, .nl]⟩), (5, ⟨0, 29, .var [.own 5500 0, .nl, .nl, .nl]⟩), (5500, ⟨0, 45, .row 4 (List.map c45 [])⟩)]⟩) (by kernel_rfl) ?_
 refine st_loop (X := Int × List Entry × List Int × List Span × List Record × List Entry × List Int × List Span × List Record × List Entry) (fun x => ⟨[(2, .ptr (2) (0) (0) (0)), (3, .ptr (3) (0) (0) (0)), (4, .ptr (4) (0) (0) (0)), (5, .ptr (5) (0) (0) (0)), (15, .sl (List.map c45 a.adds)), (16, .i .i64 ((↑a.adds.length:Int))), (17, .i .i64 (x.fst))], [(2, ⟨0, 29, .var [.sl (List.map c45 x.snd.fst), .sl (List.map c3 x.snd.snd.fst), .sl (List.map c104 x.snd.snd.snd.fst), .sl (List.map c81 x.snd.snd.snd.snd.fst)]⟩), (3, ⟨0, 29, .var [.sl (List.map c45 x.snd.snd.snd.snd.snd.fst), .sl (List.map c3 x.snd.snd.snd.snd.snd.snd.fst), .sl (List.map c104 x.snd.snd.snd.snd.snd.snd.snd.fst), .sl (List.map c81 x.snd.snd.snd.snd.snd.snd.snd.snd.fst)]⟩), (4, ⟨0, 29, .var [.nl, .nl, .nl, .nl]⟩), (5, ⟨0, 29, .var [.own 5500 0, .nl, .nl, .nl]⟩), (5500, ⟨0, 45, .row 4 (List.map c45 x.snd.snd.snd.snd.snd.snd.snd.snd.snd)⟩)]⟩) (fun x ↦ decTl a x.fst x.snd.fst x.snd.snd.fst x.snd.snd.snd.fst x.snd.snd.snd.snd.fst x.snd.snd.snd.snd.snd.fst x.snd.snd.snd.snd.snd.snd.fst x.snd.snd.snd.snd.snd.snd.snd.fst x.snd.snd.snd.snd.snd.snd.snd.snd.fst x.snd.snd.snd.snd.snd.snd.snd.snd.snd) (fun x ↦ invTl a b x.fst x.snd.fst x.snd.snd.fst x.snd.snd.snd.fst x.snd.snd.snd.snd.fst x.snd.snd.snd.snd.snd.fst x.snd.snd.snd.snd.snd.snd.fst x.snd.snd.snd.snd.snd.snd.snd.fst x.snd.snd.snd.snd.snd.snd.snd.snd.fst x.snd.snd.snd.snd.snd.snd.snd.snd.snd) [2, 3, 4, 5, 15, 16, 17] [2, 3, 4, 5, 5500] (((0:Int), a.adds, a.gone.vec, a.gone.cloud, a.recs, b.adds, b.gone.vec, b.gone.cloud, b.recs, [])) (by kernel_rfl) (by kernel_rfl) (show invTl a b (0:Int) a.adds a.gone.vec a.gone.cloud a.recs b.adds b.gone.vec b.gone.cloud b.recs [] from ?g0) ?_; rotate_left 1
 rintro ⟨i_0, x_1, x_2, x_3, x_4, y_5, y_6, y_7, y_8, o_9⟩ h_10
 obtain ⟨h_11, h_12, h_13, h_14, h_15⟩ : sameAB a b x_1 x_2 x_3 x_4 y_5 y_6 y_7 y_8 ∧ (0:Int) ≤ i_0 ∧ i_0 ≤ (↑a.adds.length:Int) ∧ (↑o_9.length:Int) ≤ i_0 ∧ isLe a b i_0 o_9 := h_10
 refine sq ?_
 refine rg (A := (AV.b (decide (i_0 < (↑a.adds.length:Int))) = AV.b (decide (i_0 < (↑a.adds.length:Int))))) cx [(0, { tell := some (.b (decide (i_0 < (↑a.adds.length:Int)))) })] [2, 3, 4, 5, 15, 16, 17, 18] [2, 3, 4, 5, 5500] (by kernel_rfl) ?_
 refine sn (sq ?_)
 refine st_dec (i_0 < (↑a.adds.length:Int)) (by kernel_rfl) (by kernel_rfl) (fun h_16 => ?_) (fun h_16 => ?_)
 refine st_skip (by kernel_rfl) ?_
 refine sn (sq ?_)
 refine st_block 1 (by kernel_rfl) ?_
 refine sq ?_
 refine rg (A := ((0:Int) ≤ i_0) ∧ ((List.map c45 a.adds)[i_0.toNat]? = some (c45 a.adds[i_0.toNat]!)) ∧ ((c45 a.adds[i_0.toNat]!).length = (4:Nat)) ∧ ((4:Nat) ≤ [AV.i .i64 a.adds[i_0.toNat]!.dot.rep, AV.i .i64 a.adds[i_0.toNat]!.dot.num, AV.s a.adds[i_0.toNat]!.sku, AV.i .i64 a.adds[i_0.toNat]!.qty].length)) cx [(0, { row := (c45 a.adds[i_0.toNat]!) })] [2, 3, 4, 5, 15, 16, 17, 7] [2, 3, 4, 5, 5500, 7] ⟨(by (with_reducible assumption)), (by (with_reducible refine get_map ?_; omega)), (by kernel_rfl), (by (simp only [List.length_append, List.length_cons, List.length_nil]; omega))⟩ ?_
 refine sn (sq ?_)
 refine rg (A := _) cx [(4, { val := some (.tup [.agg [.i .i64 ((findE y_5 a.adds[i_0.toNat]!.dot).fst.dot.rep), .i .i64 ((findE y_5 a.adds[i_0.toNat]!.dot).fst.dot.num), .s ((findE y_5 a.adds[i_0.toNat]!.dot).fst.sku), .i .i64 ((findE y_5 a.adds[i_0.toNat]!.dot).fst.qty)], .b ((findE y_5 a.adds[i_0.toNat]!.dot).snd)]) })] [2, 3, 4, 5, 15, 16, 17, 7, 8, 9] [2, 3, 4, 5, 5500, 7, 8] (con67 (y_5) (a.adds[i_0.toNat]!.dot)) ?_
 refine sn (sq ?_)
 refine st_join (σ' := ⟨[(2, .ptr (2) (0) (0) (0)), (3, .ptr (3) (0) (0) (0)), (4, .ptr (4) (0) (0) (0)), (5, .ptr (5) (0) (0) (0)), (15, .sl (List.map c45 a.adds)), (16, .i .i64 ((↑a.adds.length:Int))), (17, .i .i64 (i_0)), (7, .ptr (7) (0) (0) (0)), (35, .b (decide (¬(findE y_5 a.adds[i_0.toNat]!.dot).snd = true ∨ ¬(findE y_5 a.adds[i_0.toNat]!.dot).fst = a.adds[i_0.toNat]!)))], [(2, ⟨0, 29, .var [.sl (List.map c45 x_1), .sl (List.map c3 x_2), .sl (List.map c104 x_3), .sl (List.map c81 x_4)]⟩), (3, ⟨0, 29, .var [.sl (List.map c45 y_5), .sl (List.map c3 y_6), .sl (List.map c104 y_7), .sl (List.map c81 y_8)]⟩), (4, ⟨0, 29, .var [.nl, .nl, .nl, .nl]⟩), (5, ⟨0, 29, .var [.own 5500 0, .nl, .nl, .nl]⟩), (5500, ⟨0, 45, .row 4 (List.map c45 o_9)⟩), (7, ⟨0, 45, .var [.i .i64 (a.adds[i_0.toNat]!.dot.rep), .i .i64 (a.adds[i_0.toNat]!.dot.num), .s (a.adds[i_0.toNat]!.sku), .i .i64 (a.adds[i_0.toNat]!.qty)]⟩)]⟩) ?_ ?_
 refine st_split (¬(findE y_5 a.adds[i_0.toNat]!.dot).snd = true) (fun h_18 => ?_) (fun h_18 => ?_)
 refine rg (A := _ ∧ (AV.b true = AV.b (decide (¬(findE y_5 a.adds[i_0.toNat]!.dot).snd = true ∨ ¬(findE y_5 a.adds[i_0.toNat]!.dot).fst = a.adds[i_0.toNat]!)))) cx [(0, { tell := some (.b (false)) }), (6, { tell := some (.b (decide (¬(findE y_5 a.adds[i_0.toNat]!.dot).snd = true ∨ ¬(findE y_5 a.adds[i_0.toNat]!.dot).fst = a.adds[i_0.toNat]!))) })] [2, 3, 4, 5, 15, 16, 17, 7, 35] [2, 3, 4, 5, 5500, 7] ⟨(told_eqn h_18), (by simp only [eq_false h_18, told_simp1, told_simp2, and_true, true_and, and_false, false_and, or_true, true_or, or_false, false_or, not_true_eq_false, not_false_eq_true, decide_true, decide_false, Bool.decide_eq_true])⟩ ?_
 exact ⟨rfl, by kernel_rfl⟩
 refine rg (A := ((AV.b !(findE y_5 a.adds[i_0.toNat]!.dot).snd) = AV.b (decide ¬(findE y_5 a.adds[i_0.toNat]!.dot).snd = true)) ∧ _ ∧ (AggEq Tryz.prog (45:Nat) [AV.i .i64 (findE y_5 a.adds[i_0.toNat]!.dot).fst.dot.rep, AV.i .i64 (findE y_5 a.adds[i_0.toNat]!.dot).fst.dot.num, AV.s (findE y_5 a.adds[i_0.toNat]!.dot).fst.sku, AV.i .i64 (findE y_5 a.adds[i_0.toNat]!.dot).fst.qty] [AV.i .i64 a.adds[i_0.toNat]!.dot.rep, AV.i .i64 a.adds[i_0.toNat]!.dot.num, AV.s a.adds[i_0.toNat]!.sku, AV.i .i64 a.adds[i_0.toNat]!.qty] !decide ¬(findE y_5 a.adds[i_0.toNat]!.dot).fst = a.adds[i_0.toNat]!) ∧ (AV.b (decide ¬(findE y_5 a.adds[i_0.toNat]!.dot).fst = a.adds[i_0.toNat]!) = AV.b (decide (¬(findE y_5 a.adds[i_0.toNat]!.dot).snd = true ∨ ¬(findE y_5 a.adds[i_0.toNat]!.dot).fst = a.adds[i_0.toNat]!)))) cx [(1, { tell := some (.b (decide ¬(findE y_5 a.adds[i_0.toNat]!.dot).snd = true)) }), (2, { tell := some (.b (false)) }), (5, { val := some (.b (decide ¬(findE y_5 a.adds[i_0.toNat]!.dot).fst = a.adds[i_0.toNat]!)) }), (6, { tell := some (.b (decide (¬(findE y_5 a.adds[i_0.toNat]!.dot).snd = true ∨ ¬(findE y_5 a.adds[i_0.toNat]!.dot).fst = a.adds[i_0.toNat]!))) })] [2, 3, 4, 5, 15, 16, 17, 7, 35] [2, 3, 4, 5, 5500, 7] ⟨(told_not), (told_false h_18), (aggNe_dec (eq45 (findE y_5 a.adds[i_0.toNat]!.dot).fst a.adds[i_0.toNat]!)), (by first | (simp only [eq_false h_18, told_simp1, told_simp2, and_true, true_and, and_false, false_and, or_true, true_or, or_false, false_or, not_true_eq_false, not_false_eq_true, decide_true, decide_false, Bool.decide_eq_true]; done) | simp_all)⟩ ?_
 exact ⟨rfl, by kernel_rfl⟩
 refine sn ?_
 refine st_dec (¬(findE y_5 a.adds[i_0.toNat]!.dot).snd = true ∨ ¬(findE y_5 a.adds[i_0.toNat]!.dot).fst = a.adds[i_0.toNat]!) (by kernel_rfl) (by kernel_rfl) (fun h_19 => ?_) (fun h_19 => ?_)
 refine rg (A := (45 = (45:Nat)) ∧ ((4:Nat) = 4) ∧ ([AV.i .i64 (0:Int), AV.i .i64 (0:Int), AV.s { data := #[] : ByteArray }, AV.i .i64 (0:Int)].length = (4:Nat)) ∧ (∀ (r : List AV), r ∈ List.map c45 [a.adds[i_0.toNat]!] → r.length = 4) ∧ ((List.map c45 o_9).length + (List.map c45 [a.adds[i_0.toNat]!]).length ≤ maxLen) ∧ (((List.map c45 o_9).length + (List.map c45 [a.adds[i_0.toNat]!]).length) * (40:Nat) ≤ (140737488355328:Nat)) ∧ (List.map c45 o_9 ++ List.map c45 [a.adds[i_0.toNat]!] = List.map c45 (o_9 ++ [a.adds[i_0.toNat]!]))) cx [(4, { rows := some (List.map c45 (o_9 ++ [a.adds[i_0.toNat]!])) })] [2, 3, 4, 5, 15, 16, 17] [2, 3, 4, 5, 5500] ⟨(by kernel_rfl), (by kernel_rfl), (by kernel_rfl), (by (with_reducible refine len_map (fun _ => ?_) _; kernel_rfl)), ?g1, ?g2, (by (with_reducible refine app_map ?_; kernel_rfl))⟩ ?_; rotate_left 2
 refine q_blk_normal ?_
 refine sn ?_
 refine rg (A := (AV.i .i64 (IntKind.i64.wrap (i_0 + (1:Int))) = AV.i .i64 (i_0 + (1:Int)))) cx [(0, { tell := some (.i .i64 (i_0 + (1:Int))) })] [2, 3, 4, 5, 15, 16, 17] [2, 3, 4, 5, 5500] (told_i64 (by omega) ?g3) ?_; rotate_left 1
 refine sn ?_
 refine loop_next ((i_0 + (1:Int), x_1, x_2, x_3, x_4, y_5, y_6, y_7, y_8, o_9 ++ [a.adds[i_0.toNat]!])) (by kernel_rfl) (show ((↑a.adds.length:Int) - (i_0 + (1:Int))).toNat < ((↑a.adds.length:Int) - i_0).toNat from (by omega)) (show invTl a b (i_0 + (1:Int)) x_1 x_2 x_3 x_4 y_5 y_6 y_7 y_8 (o_9 ++ [a.adds[i_0.toNat]!]) from ?g4); rotate_left 1
 refine st_skip (by kernel_rfl) ?_
 refine q_blk_normal ?_
 refine sn ?_
 refine rg (A := (AV.i .i64 (IntKind.i64.wrap (i_0 + (1:Int))) = AV.i .i64 (i_0 + (1:Int)))) cx [(0, { tell := some (.i .i64 (i_0 + (1:Int))) })] [2, 3, 4, 5, 15, 16, 17] [2, 3, 4, 5, 5500] (told_i64 (by omega) ?g5) ?_; rotate_left 1
 refine sn ?_
 refine loop_next ((i_0 + (1:Int), x_1, x_2, x_3, x_4, y_5, y_6, y_7, y_8, o_9)) (by kernel_rfl) (show ((↑a.adds.length:Int) - (i_0 + (1:Int))).toNat < ((↑a.adds.length:Int) - i_0).toNat from (by omega)) (show invTl a b (i_0 + (1:Int)) x_1 x_2 x_3 x_4 y_5 y_6 y_7 y_8 o_9 from ?g6); rotate_left 1
 refine st_exit 0 (by kernel_rfl) ?_
 refine q_seq_exit ?_
 refine q_seq_exit ?_
 refine q_blk_hit ?_
 refine sn (sq ?_)
 refine rg (A := _) cx [(4, { val := some (.agg [.sl (List.map c3 (minusP { vec := x_2, cloud := x_3 : Past } { vec := y_6, cloud := y_7 : Past }).vec), .sl (List.map c104 (minusP { vec := x_2, cloud := x_3 : Past } { vec := y_6, cloud := y_7 : Past }).cloud)]) })] [2, 3, 4, 5] [2, 3, 4, 5, 5500] (con104 ({ vec := x_2, cloud := x_3 : Past }) ({ vec := y_6, cloud := y_7 : Past }) ?g7 ?g8) ?_; rotate_left 2
 refine sn (sq ?_)
 refine sq ?_
 refine rg (A := _) cx [(2, { tell := some (.i .i64 ((↑x_4.length:Int))) })] [3, 4, 5, 50, 51, 52] [3, 4, 5, 5500] (told_len c81 x_4) ?_
 refine sn ?_
 refine st_block 2 (by kernel_rfl) ?_
 refine awp_cellIn 5 81 3 3 5503 (σ' := ⟨[(3, .ptr (3) (0) (0) (0)), (4, .ptr (4) (0) (0) (0)), (5, .ptr (5) (0) (0) (0)), (50, .sl (List.map c81 x_4)), (51, .i .i64 ((↑x_4.length:Int))), (52, .i .i64 ((0:Int)))], [(3, ⟨0, 29, .var [.sl (List.map c45 y_5), .sl (List.map c3 y_6), .sl (List.map c104 y_7), .sl (List.map c81 y_8)]⟩), (4, ⟨0, 29, .var [.nl, .nl, .nl, .nl]⟩), (5, ⟨0, 29, .var [.own 5500 0, .sl (List.map c3 (minusP { vec := x_2, cloud := x_3 : Past } { vec := y_6, cloud := y_7 : Past }).vec), .sl (List.map c104 (minusP { vec := x_2, cloud := x_3 : Past } { vec := y_6, cloud := y_7 : Past }).cloud), .own 5503 0]⟩), (5500, ⟨0, 45, .row 4 (List.map c45 o_9)⟩), (5503, ⟨0, 81, .row 3 (List.map c81 [])⟩)]⟩) (by kernel_rfl) ?_
 refine st_loop (X := Int × List Entry × List Int × List Span × List Record × List Int × List Span × List Entry × List Record) (fun x => ⟨[(3, .ptr (3) (0) (0) (0)), (4, .ptr (4) (0) (0) (0)), (5, .ptr (5) (0) (0) (0)), (50, .sl (List.map c81 x_4)), (51, .i .i64 ((↑x_4.length:Int))), (52, .i .i64 (x.fst))], [(3, ⟨0, 29, .var [.sl (List.map c45 x.snd.fst), .sl (List.map c3 x.snd.snd.fst), .sl (List.map c104 x.snd.snd.snd.fst), .sl (List.map c81 x.snd.snd.snd.snd.fst)]⟩), (4, ⟨0, 29, .var [.nl, .nl, .nl, .nl]⟩), (5, ⟨0, 29, .var [.own 5500 0, .sl (List.map c3 x.snd.snd.snd.snd.snd.fst), .sl (List.map c104 x.snd.snd.snd.snd.snd.snd.fst), .own 5503 0]⟩), (5500, ⟨0, 45, .row 4 (List.map c45 x.snd.snd.snd.snd.snd.snd.snd.fst)⟩), (5503, ⟨0, 81, .row 3 (List.map c81 x.snd.snd.snd.snd.snd.snd.snd.snd)⟩)]⟩) (fun x ↦ decTm a x.fst x.snd.fst x.snd.snd.fst x.snd.snd.snd.fst x.snd.snd.snd.snd.fst x.snd.snd.snd.snd.snd.fst x.snd.snd.snd.snd.snd.snd.fst x.snd.snd.snd.snd.snd.snd.snd.fst x.snd.snd.snd.snd.snd.snd.snd.snd) (fun x ↦ invTm a b x.fst x.snd.fst x.snd.snd.fst x.snd.snd.snd.fst x.snd.snd.snd.snd.fst x.snd.snd.snd.snd.snd.fst x.snd.snd.snd.snd.snd.snd.fst x.snd.snd.snd.snd.snd.snd.snd.fst x.snd.snd.snd.snd.snd.snd.snd.snd) [3, 4, 5, 50, 51, 52] [3, 4, 5, 5500, 5503] (((0:Int), y_5, y_6, y_7, y_8, (minusP { vec := x_2, cloud := x_3 : Past } { vec := y_6, cloud := y_7 : Past }).vec, (minusP { vec := x_2, cloud := x_3 : Past } { vec := y_6, cloud := y_7 : Past }).cloud, o_9, [])) (by kernel_rfl) (by kernel_rfl) (show invTm a b (0:Int) y_5 y_6 y_7 y_8 (minusP { vec := x_2, cloud := x_3 : Past } { vec := y_6, cloud := y_7 : Past }).vec (minusP { vec := x_2, cloud := x_3 : Past } { vec := y_6, cloud := y_7 : Past }).cloud o_9 [] from ?g9) ?_; rotate_left 1
 rintro ⟨i_20, y_21, y_22, y_23, y_24, gv_25, gc_26, o_27, q_28⟩ h_29
 obtain ⟨h_30, h_31, h_32, h_33, h_34, h_35, h_36, h_37⟩ : y_24 = b.recs ∧ gv_25 = (minusP a.gone b.gone).vec ∧ gc_26 = (minusP a.gone b.gone).cloud ∧ o_27 = (lessV a b).adds ∧ (0:Int) ≤ i_20 ∧ i_20 ≤ (↑a.recs.length:Int) ∧ (↑q_28.length:Int) ≤ i_20 ∧ isLr a b i_20 q_28 := h_29
 refine sq ?_
 refine rg (A := (AV.b (decide (i_20 < (↑x_4.length:Int))) = AV.b (decide (i_20 < (↑x_4.length:Int))))) cx [(0, { tell := some (.b (decide (i_20 < (↑x_4.length:Int)))) })] [3, 4, 5, 50, 51, 52, 53] [3, 4, 5, 5500, 5503] (by kernel_rfl) ?_
 refine sn (sq ?_)
 refine st_dec (i_20 < (↑x_4.length:Int)) (by kernel_rfl) (by kernel_rfl) (fun h_38 => ?_) (fun h_38 => ?_)
 refine st_skip (by kernel_rfl) ?_
 refine sn (sq ?_)
 refine st_block 3 (by kernel_rfl) ?_
 refine sq ?_
 refine rg (A := ((0:Int) ≤ i_20) ∧ ((List.map c81 x_4)[i_20.toNat]? = some (c81 x_4[i_20.toNat]!)) ∧ ((c81 x_4[i_20.toNat]!).length = (3:Nat)) ∧ ((3:Nat) ≤ [AV.s x_4[i_20.toNat]!.sku, AV.sl (List.map c3 x_4[i_20.toNat]!.past.vec), AV.sl (List.map c104 x_4[i_20.toNat]!.past.cloud)].length)) cx [(0, { row := (c81 x_4[i_20.toNat]!) })] [3, 4, 5, 50, 51, 52, 11] [3, 4, 5, 5500, 5503, 11] ⟨(by (with_reducible assumption)), (by (with_reducible refine get_map ?_; omega)), (by kernel_rfl), (by (simp only [List.length_append, List.length_cons, List.length_nil]; omega))⟩ ?_
 refine sn (sq ?_)
 refine rg (A := _) cx [(3, { val := some (.tup [.i .i64 (bsN y_24 x_4[i_20.toNat]!), .b (bsF y_24 x_4[i_20.toNat]!)]) })] [3, 4, 5, 50, 51, 52, 11, 13] [3, 4, 5, 5500, 5503, 11] (con105 (y_24) (x_4[i_20.toNat]!) ?g10 ?g11 ?g12 ?g13) ?_; rotate_left 4
 refine sn (sq ?_)
 refine rg (A := ((AV.b !bsF y_24 x_4[i_20.toNat]!) = AV.b (decide ¬bsF y_24 x_4[i_20.toNat]! = true))) cx [(1, { tell := some (.b (decide ¬bsF y_24 x_4[i_20.toNat]! = true)) })] [3, 4, 5, 50, 51, 52, 11, 64] [3, 4, 5, 5500, 5503, 11] (told_not) ?_
 refine sn ?_
 refine st_dec (¬bsF y_24 x_4[i_20.toNat]! = true) (by kernel_rfl) (by kernel_rfl) (fun h_39 => ?_) (fun h_39 => ?_)
 refine ra (A := _ ∧ (81 = (81:Nat)) ∧ ((3:Nat) = 3) ∧ ([AV.s { data := #[] : ByteArray }, AV.nl, AV.nl].length = (3:Nat)) ∧ (∀ (r : List AV), r ∈ List.map c81 [{ sku := x_4[i_20.toNat]!.sku, past := normP x_4[i_20.toNat]!.past : Record }] → r.length = 3) ∧ ((List.map c81 q_28).length + (List.map c81 [{ sku := x_4[i_20.toNat]!.sku, past := normP x_4[i_20.toNat]!.past : Record }]).length ≤ maxLen) ∧ (((List.map c81 q_28).length + (List.map c81 [{ sku := x_4[i_20.toNat]!.sku, past := normP x_4[i_20.toNat]!.past : Record }]).length) * (64:Nat) ≤ (140737488355328:Nat)) ∧ (List.map c81 q_28 ++ List.map c81 [{ sku := x_4[i_20.toNat]!.sku, past := normP x_4[i_20.toNat]!.past : Record }] = List.map c81 (q_28 ++ [{ sku := x_4[i_20.toNat]!.sku, past := normP x_4[i_20.toNat]!.past : Record }]))) cx [(6, { val := some (.agg [.sl (List.map c3 (normP x_4[i_20.toNat]!.past).vec), .sl (List.map c104 (normP x_4[i_20.toNat]!.past).cloud)]) }), (9, { rows := some (List.map c81 (q_28 ++ [{ sku := x_4[i_20.toNat]!.sku, past := normP x_4[i_20.toNat]!.past : Record }])) })] [3, 4, 5, 50, 51, 52] [3, 4, 5, 5500, 5503] ⟨(con107 (x_4[i_20.toNat]!.past) ?g14), (by kernel_rfl), (by kernel_rfl), (by kernel_rfl), (by (with_reducible refine len_map (fun _ => ?_) _; kernel_rfl)), ?g15, ?g16, (by (with_reducible refine app_map ?_; kernel_rfl))⟩ ?_; rotate_left 3
 refine q_blk_normal ?_
 refine sn ?_
 refine rg (A := (AV.i .i64 (IntKind.i64.wrap (i_20 + (1:Int))) = AV.i .i64 (i_20 + (1:Int)))) cx [(0, { tell := some (.i .i64 (i_20 + (1:Int))) })] [3, 4, 5, 50, 51, 52] [3, 4, 5, 5500, 5503] (told_i64 (by omega) ?g17) ?_; rotate_left 1
 refine sn ?_
 refine loop_next ((i_20 + (1:Int), y_21, y_22, y_23, y_24, gv_25, gc_26, o_27, q_28 ++ [{ sku := x_4[i_20.toNat]!.sku, past := normP x_4[i_20.toNat]!.past : Record }])) (by kernel_rfl) (show ((↑a.recs.length:Int) - (i_20 + (1:Int))).toNat < ((↑a.recs.length:Int) - i_20).toNat from ?g18) (show invTm a b (i_20 + (1:Int)) y_21 y_22 y_23 y_24 gv_25 gc_26 o_27 (q_28 ++ [{ sku := x_4[i_20.toNat]!.sku, past := normP x_4[i_20.toNat]!.past : Record }]) from ?g19); rotate_left 2
 refine st_skip (by kernel_rfl) ?_
 refine q_blk_normal ?_
 refine sn ?_
 refine rg (A := (AV.i .i64 (IntKind.i64.wrap (i_20 + (1:Int))) = AV.i .i64 (i_20 + (1:Int)))) cx [(0, { tell := some (.i .i64 (i_20 + (1:Int))) })] [3, 4, 5, 50, 51, 52] [3, 4, 5, 5500, 5503] (told_i64 (by omega) ?g20) ?_; rotate_left 1
 refine sn ?_
 refine loop_next ((i_20 + (1:Int), y_21, y_22, y_23, y_24, gv_25, gc_26, o_27, q_28)) (by kernel_rfl) (show ((↑a.recs.length:Int) - (i_20 + (1:Int))).toNat < ((↑a.recs.length:Int) - i_20).toNat from ?g21) (show invTm a b (i_20 + (1:Int)) y_21 y_22 y_23 y_24 gv_25 gc_26 o_27 q_28 from ?g22); rotate_left 2
 refine st_exit 2 (by kernel_rfl) ?_
 refine q_seq_exit ?_
 refine q_seq_exit ?_
 refine q_blk_hit ?_
 refine sn (sq ?_)
 refine awp_norm [5500, 5503] [3, 4, 5, 50, 51, 52, 53] [3, 4, 5] (σ' := ⟨[(3, .ptr (3) (0) (0) (0)), (4, .ptr (4) (0) (0) (0)), (5, .ptr (5) (0) (0) (0)), (50, .sl (List.map c81 x_4)), (51, .i .i64 ((↑x_4.length:Int))), (52, .i .i64 (i_20)), (53, .b (decide (i_20 < (↑x_4.length:Int))))], [(3, ⟨0, 29, .var [.sl (List.map c45 y_21), .sl (List.map c3 y_22), .sl (List.map c104 y_23), .sl (List.map c81 y_24)]⟩), (4, ⟨0, 29, .var [.nl, .nl, .nl, .nl]⟩), (5, ⟨0, 29, .var [.sl (List.map c45 o_27), .sl (List.map c3 gv_25), .sl (List.map c104 gc_26), .sl (List.map c81 q_28)]⟩)]⟩) (by kernel_rfl) ?_
 refine rg (A := True) cx [] [4] [4] trivial ?_
 refine sn ?_
 refine st_ret (by kernel_rfl) ?_
 refine q_ret (r := .agg [.sl (List.map c45 o_27), .sl (List.map c3 gv_25), .sl (List.map c104 gc_26), .sl (List.map c81 q_28)]) (obl := []) (by kernel_rfl) trivial (AVle.eq (show AV.agg [AV.sl (List.map c45 o_27), AV.sl (List.map c3 gv_25), AV.sl (List.map c104 gc_26), AV.sl (List.map c81 q_28)] = AV.agg (c29 (lessV a b)) from ?g23)); rotate_left 1
 rotate_left
 revert i_0 x_1 x_2 x_3 x_4 y_5 y_6 y_7 y_8 o_9 h_11 h_12 h_13 h_14 h_15 h_16 h_19; rotate_left
 revert i_0 x_1 x_2 x_3 x_4 y_5 y_6 y_7 y_8 o_9 h_11 h_12 h_13 h_14 h_15 h_16 h_19; rotate_left
 revert i_0 x_1 x_2 x_3 x_4 y_5 y_6 y_7 y_8 o_9 h_11 h_12 h_13 h_14 h_15 h_16 h_19; rotate_left
 revert i_0 x_1 x_2 x_3 x_4 y_5 y_6 y_7 y_8 o_9 h_11 h_12 h_13 h_14 h_15 h_16 h_19; rotate_left
 revert i_0 x_1 x_2 x_3 x_4 y_5 y_6 y_7 y_8 o_9 h_11 h_12 h_13 h_14 h_15 h_16 h_19; rotate_left
 revert i_0 x_1 x_2 x_3 x_4 y_5 y_6 y_7 y_8 o_9 h_11 h_12 h_13 h_14 h_15 h_16 h_19; rotate_left
 revert i_0 x_1 x_2 x_3 x_4 y_5 y_6 y_7 y_8 o_9 h_11 h_12 h_13 h_14 h_15 h_16; rotate_left
 revert i_0 x_1 x_2 x_3 x_4 y_5 y_6 y_7 y_8 o_9 h_11 h_12 h_13 h_14 h_15 h_16; rotate_left
 revert i_0 x_1 x_2 x_3 x_4 y_5 y_6 y_7 y_8 o_9 h_11 h_12 h_13 h_14 h_15 h_16; rotate_left
 revert i_0 x_1 x_2 x_3 x_4 y_5 y_6 y_7 y_8 o_9 h_11 h_12 h_13 h_14 h_15 h_16 i_20 y_21 y_22 y_23 y_24 gv_25 gc_26 o_27 q_28 h_30 h_31 h_32 h_33 h_34 h_35 h_36 h_37 h_38; rotate_left
 revert i_0 x_1 x_2 x_3 x_4 y_5 y_6 y_7 y_8 o_9 h_11 h_12 h_13 h_14 h_15 h_16 i_20 y_21 y_22 y_23 y_24 gv_25 gc_26 o_27 q_28 h_30 h_31 h_32 h_33 h_34 h_35 h_36 h_37 h_38; rotate_left
 revert i_0 x_1 x_2 x_3 x_4 y_5 y_6 y_7 y_8 o_9 h_11 h_12 h_13 h_14 h_15 h_16 i_20 y_21 y_22 y_23 y_24 gv_25 gc_26 o_27 q_28 h_30 h_31 h_32 h_33 h_34 h_35 h_36 h_37 h_38; rotate_left
 revert i_0 x_1 x_2 x_3 x_4 y_5 y_6 y_7 y_8 o_9 h_11 h_12 h_13 h_14 h_15 h_16 i_20 y_21 y_22 y_23 y_24 gv_25 gc_26 o_27 q_28 h_30 h_31 h_32 h_33 h_34 h_35 h_36 h_37 h_38; rotate_left
 revert i_0 x_1 x_2 x_3 x_4 y_5 y_6 y_7 y_8 o_9 h_11 h_12 h_13 h_14 h_15 h_16 i_20 y_21 y_22 y_23 y_24 gv_25 gc_26 o_27 q_28 h_30 h_31 h_32 h_33 h_34 h_35 h_36 h_37 h_38 h_39; rotate_left
 revert i_0 x_1 x_2 x_3 x_4 y_5 y_6 y_7 y_8 o_9 h_11 h_12 h_13 h_14 h_15 h_16 i_20 y_21 y_22 y_23 y_24 gv_25 gc_26 o_27 q_28 h_30 h_31 h_32 h_33 h_34 h_35 h_36 h_37 h_38 h_39; rotate_left
 revert i_0 x_1 x_2 x_3 x_4 y_5 y_6 y_7 y_8 o_9 h_11 h_12 h_13 h_14 h_15 h_16 i_20 y_21 y_22 y_23 y_24 gv_25 gc_26 o_27 q_28 h_30 h_31 h_32 h_33 h_34 h_35 h_36 h_37 h_38 h_39; rotate_left
 revert i_0 x_1 x_2 x_3 x_4 y_5 y_6 y_7 y_8 o_9 h_11 h_12 h_13 h_14 h_15 h_16 i_20 y_21 y_22 y_23 y_24 gv_25 gc_26 o_27 q_28 h_30 h_31 h_32 h_33 h_34 h_35 h_36 h_37 h_38 h_39; rotate_left
 revert i_0 x_1 x_2 x_3 x_4 y_5 y_6 y_7 y_8 o_9 h_11 h_12 h_13 h_14 h_15 h_16 i_20 y_21 y_22 y_23 y_24 gv_25 gc_26 o_27 q_28 h_30 h_31 h_32 h_33 h_34 h_35 h_36 h_37 h_38 h_39; rotate_left
 revert i_0 x_1 x_2 x_3 x_4 y_5 y_6 y_7 y_8 o_9 h_11 h_12 h_13 h_14 h_15 h_16 i_20 y_21 y_22 y_23 y_24 gv_25 gc_26 o_27 q_28 h_30 h_31 h_32 h_33 h_34 h_35 h_36 h_37 h_38 h_39; rotate_left
 revert i_0 x_1 x_2 x_3 x_4 y_5 y_6 y_7 y_8 o_9 h_11 h_12 h_13 h_14 h_15 h_16 i_20 y_21 y_22 y_23 y_24 gv_25 gc_26 o_27 q_28 h_30 h_31 h_32 h_33 h_34 h_35 h_36 h_37 h_38 h_39; rotate_left
 revert i_0 x_1 x_2 x_3 x_4 y_5 y_6 y_7 y_8 o_9 h_11 h_12 h_13 h_14 h_15 h_16 i_20 y_21 y_22 y_23 y_24 gv_25 gc_26 o_27 q_28 h_30 h_31 h_32 h_33 h_34 h_35 h_36 h_37 h_38 h_39; rotate_left
 revert i_0 x_1 x_2 x_3 x_4 y_5 y_6 y_7 y_8 o_9 h_11 h_12 h_13 h_14 h_15 h_16 i_20 y_21 y_22 y_23 y_24 gv_25 gc_26 o_27 q_28 h_30 h_31 h_32 h_33 h_34 h_35 h_36 h_37 h_38 h_39; rotate_left
 revert i_0 x_1 x_2 x_3 x_4 y_5 y_6 y_7 y_8 o_9 h_11 h_12 h_13 h_14 h_15 h_16 i_20 y_21 y_22 y_23 y_24 gv_25 gc_26 o_27 q_28 h_30 h_31 h_32 h_33 h_34 h_35 h_36 h_37 h_38; rotate_left
 case g0 => exact ⟨⟨rfl, rfl, rfl, rfl, rfl, rfl, rfl, rfl⟩, by omega, by omega, by simp, by simp [isLe]⟩
 case g1 => intro i x1 x2 x3 x4 y1 y2 y3 y4 o s k0 k1 k2 k3 k4 k5; simp only [List.length_map, List.length_cons, List.length_nil, Go.maxLen]; omega
 case g2 => intro i x1 x2 x3 x4 y1 y2 y3 y4 o s k0 k1 k2 k3 k4 k5; simp only [List.length_map, List.length_cons, List.length_nil]; omega
 case g3 => intro i x1 x2 x3 x4 y1 y2 y3 y4 o s k0 k1 k2 k3 k4 k5; omega
 case g4 =>
  intro i x1 x2 x3 x4 y1 y2 y3 y4 o s k0 k1 k2 k3 k4 k5
  refine ⟨s, by omega, by omega, by rw [List.length_append, List.length_singleton]; omega, ?_⟩
  obtain ⟨_, _, _, _, e, _⟩ := s
  rw [e] at k5
  unfold isLe
  rw [filt_next k0 k4 k3, if_pos (by rw [Bool.not_eq_true', ← Bool.not_eq_true, has_iff]; exact fun c => c k5)]
 case g5 => intro i x1 x2 x3 x4 y1 y2 y3 y4 o s k0 k1 k2 k3 k4 k5; omega
 case g6 =>
  intro i x1 x2 x3 x4 y1 y2 y3 y4 o s k0 k1 k2 k3 k4 k5
  refine ⟨s, by omega, by omega, by omega, ?_⟩
  obtain ⟨_, _, _, _, e, _⟩ := s
  rw [e] at k5
  unfold isLe
  rw [filt_next k0 k4 k3, if_neg (by rw [Bool.not_eq_true', ← Bool.not_eq_true, has_iff]; exact fun c => c k5), List.append_nil]
 case g7 => intro i x1 x2 x3 x4 y1 y2 y3 y4 o s k0 k1 k2 k3 k4; obtain ⟨_, _, e, _⟩ := s; subst e; exact ha.1.1.1
 case g8 => intro i x1 x2 x3 x4 y1 y2 y3 y4 o s k0 k1 k2 k3 k4; obtain ⟨_, _, _, _, _, _, e, _⟩ := s; subst e; exact hb.1.1.1
 case g9 =>
  intro i x1 x2 x3 x4 y1 y2 y3 y4 o s k0 k1 k2 k3 k4
  obtain ⟨_, e2, e3, _, _, e6, e7, e8⟩ := s
  subst e2 e3 e6 e7
  refine ⟨e8, rfl, rfl, ?_, by omega, by omega, by simp, by simp [isLr]⟩
  unfold isLe at k3
  rw [k3, List.take_of_length_le (by omega)]
  rfl
 case g10 => intro i x1 x2 x3 x4 y1 y2 y3 y4 o s k0 k1 k2 k3 k4 n z1 z2 z3 z4 gv gc w q c1 c2 c3 c4 m0 m1 m2 m3 m4; rw [c1]; exact rec_up g3
 case g11 => intro i x1 x2 x3 x4 y1 y2 y3 y4 o s k0 k1 k2 k3 k4 n z1 z2 z3 z4 gv gc w q c1 c2 c3 c4 m0 m1 m2 m3 m4; rw [c1]; exact szQ_s hb.1.2
 case g12 => intro i x1 x2 x3 x4 y1 y2 y3 y4 o s k0 k1 k2 k3 k4 n z1 z2 z3 z4 gv gc w q c1 c2 c3 c4 m0 m1 m2 m3 m4; rw [s.2.2.2.1] at m4 ⊢; exact szRs_at (szQ_s ha.1.2) m0 m4
 case g13 => intro i x1 x2 x3 x4 y1 y2 y3 y4 o s k0 k1 k2 k3 k4 n z1 z2 z3 z4 gv gc w q c1 c2 c3 c4 m0 m1 m2 m3 m4; rw [c1]; omega
 case g14 => intro i x1 x2 x3 x4 y1 y2 y3 y4 o s k0 k1 k2 k3 k4 n z1 z2 z3 z4 gv gc w q c1 c2 c3 c4 m0 m1 m2 m3 m4 m5; rw [s.2.2.2.1] at m4 ⊢; exact szRs_at (szQ_s ha.1.2) m0 m4
 case g15 => intro i x1 x2 x3 x4 y1 y2 y3 y4 o s k0 k1 k2 k3 k4 n z1 z2 z3 z4 gv gc w q c1 c2 c3 c4 m0 m1 m2 m3 m4 m5; rw [s.2.2.2.1] at m4; simp only [List.length_map, List.length_cons, List.length_nil, Go.maxLen]; omega
 case g16 => intro i x1 x2 x3 x4 y1 y2 y3 y4 o s k0 k1 k2 k3 k4 n z1 z2 z3 z4 gv gc w q c1 c2 c3 c4 m0 m1 m2 m3 m4 m5; rw [s.2.2.2.1] at m4; simp only [List.length_map, List.length_cons, List.length_nil]; omega
 case g17 => intro i x1 x2 x3 x4 y1 y2 y3 y4 o s k0 k1 k2 k3 k4 n z1 z2 z3 z4 gv gc w q c1 c2 c3 c4 m0 m1 m2 m3 m4 m5; rw [s.2.2.2.1] at m4; omega
 case g18 => intro i x1 x2 x3 x4 y1 y2 y3 y4 o s k0 k1 k2 k3 k4 n z1 z2 z3 z4 gv gc w q c1 c2 c3 c4 m0 m1 m2 m3 m4 m5; rw [s.2.2.2.1] at m4; omega
 case g19 =>
  intro i x1 x2 x3 x4 y1 y2 y3 y4 o s k0 k1 k2 k3 k4 n z1 z2 z3 z4 gv gc w q c1 c2 c3 c4 m0 m1 m2 m3 m4 m5
  rw [s.2.2.2.1] at m4 m5 ⊢
  have hn := rec_forms f3 _ (bang_in (l := a.recs) (i := n.toNat) (by omega))
  rw [c1, bsF_mem (rec_forms g3) hn] at m5
  have e : (⟨a.recs[n.toNat]!.sku, normP a.recs[n.toNat]!.past⟩ : Record) = a.recs[n.toNat]! := by
   generalize a.recs[n.toNat]! = r at hn
   cases r
   simp only at hn
   rw [← hn]
  rw [e]
  refine ⟨c1, c2, c3, c4, by omega, by omega, by rw [List.length_append, List.length_singleton]; omega, ?_⟩
  unfold isLr
  rw [filt_next m0 m4 m3, if_pos (by simpa using m5)]
 case g20 => intro i x1 x2 x3 x4 y1 y2 y3 y4 o s k0 k1 k2 k3 k4 n z1 z2 z3 z4 gv gc w q c1 c2 c3 c4 m0 m1 m2 m3 m4 m5; rw [s.2.2.2.1] at m4; omega
 case g21 => intro i x1 x2 x3 x4 y1 y2 y3 y4 o s k0 k1 k2 k3 k4 n z1 z2 z3 z4 gv gc w q c1 c2 c3 c4 m0 m1 m2 m3 m4 m5; rw [s.2.2.2.1] at m4; omega
 case g22 =>
  intro i x1 x2 x3 x4 y1 y2 y3 y4 o s k0 k1 k2 k3 k4 n z1 z2 z3 z4 gv gc w q c1 c2 c3 c4 m0 m1 m2 m3 m4 m5
  rw [s.2.2.2.1] at m4 m5
  have hn := rec_forms f3 _ (bang_in (l := a.recs) (i := n.toNat) (by omega))
  rw [c1, bsF_mem (rec_forms g3) hn] at m5
  refine ⟨c1, c2, c3, c4, by omega, by omega, by omega, ?_⟩
  unfold isLr
  rw [filt_next m0 m4 m3, if_neg (by simpa using m5), List.append_nil]
 case g23 =>
  intro i x1 x2 x3 x4 y1 y2 y3 y4 o s k0 k1 k2 k3 k4 n z1 z2 z3 z4 gv gc w q c1 c2 c3 c4 m0 m1 m2 m3 m4
  rw [s.2.2.2.1] at m4
  have e : q = (lessV a b).recs := by
   unfold isLr at m3
   rw [m3, List.take_of_length_le (by omega)]
   rfl
  rw [c2, c3, c4, e]
  rfl
theorem con57 (f : Facts) (hb : szF f) : Con Tryz.prog 57 [.agg (c29 f)] (.b (noneF f)) :=
 by
 refine st_con tab_ok (by kernel_rfl) [.tmp 2] 18 Go.Proofs.Tryz.func57 (by kernel_rfl) (by kernel_rfl) ?_
 intro e0 cx
 refine sq ?_
 refine rg (A := True) cx [] [1] [1] trivial ?_
 refine sn (sq ?_)
 refine st_join (σ' := ⟨[(2, .b (decide ((↑f.adds.length:Int) = (0:Int) ∧ sizeP f.gone = (0:Int) ∧ (↑f.recs.length:Int) = (0:Int))))], []⟩) ?_ ?_
 refine st_split ((↑f.adds.length:Int) = (0:Int)) (fun h_1 => ?_) (fun h_1 => ?_)
 refine st_split (sizeP f.gone = (0:Int)) (fun h_2 => ?_) (fun h_2 => ?_)
 refine rg (A := _ ∧ _ ∧ _ ∧ _ ∧ _ ∧ (AV.b ((↑f.recs.length:Int) == (0:Int)) = AV.b (decide ((↑f.recs.length:Int) = (0:Int)))) ∧ (AV.b (decide ((↑f.recs.length:Int) = (0:Int))) = AV.b (decide ((↑f.adds.length:Int) = (0:Int) ∧ sizeP f.gone = (0:Int) ∧ (↑f.recs.length:Int) = (0:Int))))) cx [(2, { tell := some (.i .i64 ((↑f.adds.length:Int))) }), (3, { tell := some (.b (true)) }), (7, { val := some (.b (decide (sizeP f.gone = (0:Int)))), tell := some (.b (true)) }), (12, { tell := some (.i .i64 ((↑f.recs.length:Int))) }), (13, { tell := some (.b (decide ((↑f.recs.length:Int) = (0:Int)))) }), (15, { tell := some (.b (decide ((↑f.adds.length:Int) = (0:Int) ∧ sizeP f.gone = (0:Int) ∧ (↑f.recs.length:Int) = (0:Int)))) })] [2] [] ⟨(told_len c45 f.adds), (told_true h_1), (told_true h_2), (con98 (f.gone) ?g0), (told_len c81 f.recs), (by kernel_rfl), (by simp only [eq_true h_1, eq_true h_2, told_simp1, told_simp2, and_true, true_and, and_false, false_and, or_true, true_or, or_false, false_or, not_true_eq_false, not_false_eq_true, decide_true, decide_false, Bool.decide_eq_true])⟩ ?_; rotate_left 1
 exact ⟨rfl, by kernel_rfl⟩
 refine rg (A := _ ∧ _ ∧ _ ∧ _ ∧ (AV.b false = AV.b (decide ((↑f.adds.length:Int) = (0:Int) ∧ sizeP f.gone = (0:Int) ∧ (↑f.recs.length:Int) = (0:Int))))) cx [(2, { tell := some (.i .i64 ((↑f.adds.length:Int))) }), (3, { tell := some (.b (true)) }), (7, { val := some (.b (decide (sizeP f.gone = (0:Int)))), tell := some (.b (false)) }), (15, { tell := some (.b (decide ((↑f.adds.length:Int) = (0:Int) ∧ sizeP f.gone = (0:Int) ∧ (↑f.recs.length:Int) = (0:Int)))) })] [2] [] ⟨(told_len c45 f.adds), (told_true h_1), (told_false h_2), (con98 (f.gone) ?g1), (by simp only [eq_true h_1, eq_false h_2, told_simp1, told_simp2, and_true, true_and, and_false, false_and, or_true, true_or, or_false, false_or, not_true_eq_false, not_false_eq_true, decide_true, decide_false, Bool.decide_eq_true])⟩ ?_; rotate_left 1
 exact ⟨rfl, by kernel_rfl⟩
 refine rg (A := _ ∧ _ ∧ (AV.b false = AV.b (decide ((↑f.adds.length:Int) = (0:Int) ∧ sizeP f.gone = (0:Int) ∧ (↑f.recs.length:Int) = (0:Int))))) cx [(2, { tell := some (.i .i64 ((↑f.adds.length:Int))) }), (3, { tell := some (.b (false)) }), (15, { tell := some (.b (decide ((↑f.adds.length:Int) = (0:Int) ∧ sizeP f.gone = (0:Int) ∧ (↑f.recs.length:Int) = (0:Int)))) })] [2] [] ⟨(told_len c45 f.adds), (told_false h_1), (by simp only [eq_false h_1, told_simp1, told_simp2, and_true, true_and, and_false, false_and, or_true, true_or, or_false, false_or, not_true_eq_false, not_false_eq_true, decide_true, decide_false, Bool.decide_eq_true])⟩ ?_
 exact ⟨rfl, by kernel_rfl⟩
 refine sn ?_
 refine st_ret (by kernel_rfl) ?_
 refine q_ret (r := .b (decide ((↑f.adds.length:Int) = (0:Int) ∧ sizeP f.gone = (0:Int) ∧ (↑f.recs.length:Int) = (0:Int)))) (obl := []) (by kernel_rfl) trivial (AVle.eq (show AV.b (decide ((↑f.adds.length:Int) = (0:Int) ∧ sizeP f.gone = (0:Int) ∧ (↑f.recs.length:Int) = (0:Int))) = AV.b (noneF f) from ?g2)); rotate_left 1
 revert h_1 h_2; rotate_left
 revert h_1 h_2; rotate_left
 rotate_left
 case g0 => intros; exact hb.1.1
 case g1 => intros; exact hb.1.1
 case g2 => rfl
theorem con22 (a b : Facts) (ha : szG a) (hb : szG b) : Con Tryz.prog 22 [.agg (c29 a), .agg (c29 b)] (.tup [.b (withV a b).1, .i .i64 (withV a b).2]) :=
 by
 have y : ¬ ¬ botF a b = true → okF a = true ∧ okF b = true := fun h => botF_iff.1 (Classical.not_not.1 h)
 refine st_con tab_ok (by kernel_rfl) [.tmp 4, .tmp 5] 14 Go.Proofs.Tryz.func22 (by kernel_rfl) (by kernel_rfl) ?_
 intro e0 cx
 refine sq ?_
 refine rg (A := True) cx [] [2, 3] [2, 3] trivial ?_
 refine sn (sq ?_)
 refine sq ?_
 refine rg (A := _ ∧ ((AV.b !botF a b) = AV.b (decide ¬botF a b = true))) cx [(2, { val := some (.b (botF a b)) }), (3, { tell := some (.b (decide ¬botF a b = true)) })] [2, 3, 9] [2, 3] ⟨(con56 (a) (b) ?g0 ?g1), (told_not)⟩ ?_; rotate_left 2
 refine sn ?_
 refine st_dec (¬botF a b = true) (by kernel_rfl) (by kernel_rfl) (fun h_0 => ?_) (fun h_0 => ?_)
 refine sq ?_
 refine rg (A := True) cx [] [4, 5] [] trivial ?_
 refine sn ?_
 refine st_ret (by kernel_rfl) ?_
 refine q_seq_ret ?_
 refine q_ret (r := .tup [.b (false), .i .i64 ((1:Int))]) (obl := []) (by kernel_rfl) trivial (AVle.tup (ZLe.cons (AVle.eq (show AV.b false = AV.b (withV a b).fst from ?g3)) (ZLe.cons (AVle.eq (show AV.i .i64 (1:Int) = AV.i .i64 (withV a b).snd from ?g2)) ZLe.nil))); rotate_left 2
 refine st_skip (by kernel_rfl) ?_
 refine sn (sq ?_)
 refine rg (A := _ ∧ _) cx [(2, { val := some (.agg [.sl (List.map c45 (lessV a b).adds), .sl (List.map c3 (lessV a b).gone.vec), .sl (List.map c104 (lessV a b).gone.cloud), .sl (List.map c81 (lessV a b).recs)]) }), (3, { val := some (.b (noneF (lessV a b))) })] [4, 5] [] ⟨(con58 (a) (b) (by (with_reducible assumption)) (by (with_reducible assumption)) ?g4 ?g5), (con57 (lessV a b) ?g6)⟩ ?_; rotate_left 3
 refine sn ?_
 refine st_ret (by kernel_rfl) ?_
 refine q_ret (r := .tup [.b (noneF (lessV a b)), .i .i64 ((0:Int))]) (obl := []) (by kernel_rfl) trivial (AVle.tup (ZLe.cons (AVle.eq (show AV.b (noneF (lessV a b)) = AV.b (withV a b).fst from ?g8)) (ZLe.cons (AVle.eq (show AV.i .i64 (0:Int) = AV.i .i64 (withV a b).snd from ?g7)) ZLe.nil))); rotate_left 2
 rotate_left
 rotate_left
 revert h_0; rotate_left
 revert h_0; rotate_left
 revert h_0; rotate_left
 revert h_0; rotate_left
 revert h_0; rotate_left
 revert h_0; rotate_left
 revert h_0; rotate_left
 case g0 => exact ha.1
 case g1 => exact hb.1
 case g2 => intro h; unfold withV; rw [if_neg h]
 case g3 => intro h; unfold withV; rw [if_neg h]
 case g4 => intro h; exact (y h).1
 case g5 => intro h; exact (y h).2
 case g6 => intro h; exact less_sz ha.1
 case g7 => intro h; unfold withV; rw [if_pos (Classical.not_not.1 h)]
 case g8 => intro h; unfold withV; rw [if_pos (Classical.not_not.1 h)]
theorem con15 (a b : Facts) (ha : szG a) (hb : szG b) : Con Tryz.prog 15 [.agg (c29 a), .agg (c29 b)] (.tup [.i .i64 (ordV a b).1, .i .i64 (ordV a b).2]) :=
 by
 have y : ¬ ¬ botF a b = true → okF a = true ∧ okF b = true := fun h => botF_iff.1 (Classical.not_not.1 h)
 have f : ∀ {x : Bool}, x = false → ¬ x = true := fun {x} h => by rw [h]; simp
 refine st_con tab_ok (by kernel_rfl) [.tmp 4, .tmp 5] 29 Go.Proofs.Tryz.func15 (by kernel_rfl) (by kernel_rfl) ?_
 intro e0 cx
 refine sq ?_
 refine rg (A := True) cx [] [2, 3] [2, 3] trivial ?_
 refine sn (sq ?_)
 refine sq ?_
 refine rg (A := _ ∧ ((AV.b !botF a b) = AV.b (decide ¬botF a b = true))) cx [(2, { val := some (.b (botF a b)) }), (3, { tell := some (.b (decide ¬botF a b = true)) })] [2, 3, 11] [2, 3] ⟨(con56 (a) (b) ?g0 ?g1), (told_not)⟩ ?_; rotate_left 2
 refine sn ?_
 refine st_dec (¬botF a b = true) (by kernel_rfl) (by kernel_rfl) (fun h_0 => ?_) (fun h_0 => ?_)
 refine sq ?_
 refine rg (A := True) cx [] [4, 5] [] trivial ?_
 refine sn ?_
 refine st_ret (by kernel_rfl) ?_
 refine q_seq_ret ?_
 refine q_ret (r := .tup [.i .i64 ((0:Int)), .i .i64 ((1:Int))]) (obl := []) (by kernel_rfl) trivial (AVle.tup (ZLe.cons (AVle.eq (show AV.i .i64 (0:Int) = AV.i .i64 (ordV a b).fst from ?g3)) (ZLe.cons (AVle.eq (show AV.i .i64 (1:Int) = AV.i .i64 (ordV a b).snd from ?g2)) ZLe.nil))); rotate_left 2
 refine st_skip (by kernel_rfl) ?_
 refine sn (sq ?_)
 refine sq ?_
 refine ra (A := _ ∧ _ ∧ _ ∧ _) cx [(2, { val := some (.agg [.sl (List.map c45 (lessV a b).adds), .sl (List.map c3 (lessV a b).gone.vec), .sl (List.map c104 (lessV a b).gone.cloud), .sl (List.map c81 (lessV a b).recs)]) }), (3, { val := some (.b (noneF (lessV a b))) }), (6, { val := some (.agg [.sl (List.map c45 (lessV b a).adds), .sl (List.map c3 (lessV b a).gone.vec), .sl (List.map c104 (lessV b a).gone.cloud), .sl (List.map c81 (lessV b a).recs)]) }), (7, { val := some (.b (noneF (lessV b a))) })] [6, 7] [] ⟨(con58 (a) (b) (by (with_reducible assumption)) (by (with_reducible assumption)) ?g4 ?g5), (con57 (lessV a b) ?g6), (con58 (b) (a) (by (with_reducible assumption)) (by (with_reducible assumption)) ?g7 ?g8), (con57 (lessV b a) ?g9)⟩ ?_; rotate_left 6
 refine sn ?_
 refine st_block 0 (by kernel_rfl) ?_
 refine sq ?_
 refine st_join (σ' := ⟨[(6, .b (noneF (lessV a b))), (7, .b (noneF (lessV b a))), (20, .b (decide (noneF (lessV a b) = true ∧ noneF (lessV b a) = true)))], []⟩) ?_ ?_
 refine st_split (noneF (lessV a b) = true) (fun h_2 => ?_) (fun h_2 => ?_)
 refine rg (A := _ ∧ (AV.b (noneF (lessV b a)) = AV.b (decide (noneF (lessV a b) = true ∧ noneF (lessV b a) = true)))) cx [(0, { tell := some (.b (true)) }), (4, { tell := some (.b (decide (noneF (lessV a b) = true ∧ noneF (lessV b a) = true))) })] [6, 7, 20] [] ⟨(told_eqt h_2), (by simp only [eq_true h_2, told_simp1, told_simp2, and_true, true_and, and_false, false_and, or_true, true_or, or_false, false_or, not_true_eq_false, not_false_eq_true, decide_true, decide_false, Bool.decide_eq_true])⟩ ?_
 exact ⟨rfl, by kernel_rfl⟩
 refine rg (A := _ ∧ (AV.b false = AV.b (decide (noneF (lessV a b) = true ∧ noneF (lessV b a) = true)))) cx [(0, { tell := some (.b (false)) }), (4, { tell := some (.b (decide (noneF (lessV a b) = true ∧ noneF (lessV b a) = true))) })] [6, 7, 20] [] ⟨(told_eqn h_2), (by simp only [eq_false h_2, told_simp1, told_simp2, and_true, true_and, and_false, false_and, or_true, true_or, or_false, false_or, not_true_eq_false, not_false_eq_true, decide_true, decide_false, Bool.decide_eq_true])⟩ ?_
 exact ⟨rfl, by kernel_rfl⟩
 refine sn ?_
 refine st_dec (noneF (lessV a b) = true ∧ noneF (lessV b a) = true) (by kernel_rfl) (by kernel_rfl) (fun h_3 => ?_) (fun h_3 => ?_)
 refine sq ?_
 refine rg (A := True) cx [] [4, 5] [] trivial ?_
 refine sn ?_
 refine st_ret (by kernel_rfl) ?_
 refine q_blk_ret ?_
 refine q_seq_ret ?_
 refine q_ret (r := .tup [.i .i64 ((0:Int)), .i .i64 ((0:Int))]) (obl := []) (by kernel_rfl) trivial (AVle.tup (ZLe.cons (AVle.eq (show AV.i .i64 (0:Int) = AV.i .i64 (ordV a b).fst from ?g11)) (ZLe.cons (AVle.eq (show AV.i .i64 (0:Int) = AV.i .i64 (ordV a b).snd from ?g10)) ZLe.nil))); rotate_left 2
 refine sq ?_
 refine rg (A := True) cx [] [7, 25] [] trivial ?_
 refine sn ?_
 refine st_cond (noneF (lessV a b)) (by kernel_rfl) (by kernel_rfl) (fun h_4 => ?_) (fun h_4 => ?_)
 refine sq ?_
 refine rg (A := True) cx [] [4, 5] [] trivial ?_
 refine sn ?_
 refine st_ret (by kernel_rfl) ?_
 refine q_blk_ret ?_
 refine q_seq_ret ?_
 refine q_ret (r := .tup [.i .i64 ((1:Int)), .i .i64 ((0:Int))]) (obl := []) (by kernel_rfl) trivial (AVle.tup (ZLe.cons (AVle.eq (show AV.i .i64 (1:Int) = AV.i .i64 (ordV a b).fst from ?g13)) (ZLe.cons (AVle.eq (show AV.i .i64 (0:Int) = AV.i .i64 (ordV a b).snd from ?g12)) ZLe.nil))); rotate_left 2
 refine sq ?_
 refine rg (A := True) cx [] [27] [] trivial ?_
 refine sn ?_
 refine st_cond (noneF (lessV b a)) (by kernel_rfl) (by kernel_rfl) (fun h_5 => ?_) (fun h_5 => ?_)
 refine sq ?_
 refine rg (A := True) cx [] [4, 5] [] trivial ?_
 refine sn ?_
 refine st_ret (by kernel_rfl) ?_
 refine q_blk_ret ?_
 refine q_seq_ret ?_
 refine q_ret (r := .tup [.i .i64 ((2:Int)), .i .i64 ((0:Int))]) (obl := []) (by kernel_rfl) trivial (AVle.tup (ZLe.cons (AVle.eq (show AV.i .i64 (2:Int) = AV.i .i64 (ordV a b).fst from ?g15)) (ZLe.cons (AVle.eq (show AV.i .i64 (0:Int) = AV.i .i64 (ordV a b).snd from ?g14)) ZLe.nil))); rotate_left 2
 refine st_skip (by kernel_rfl) ?_
 refine q_blk_normal ?_
 refine sn (sq ?_)
 refine rg (A := True) cx [] [4, 5] [] trivial ?_
 refine sn ?_
 refine st_ret (by kernel_rfl) ?_
 refine q_ret (r := .tup [.i .i64 ((3:Int)), .i .i64 ((0:Int))]) (obl := []) (by kernel_rfl) trivial (AVle.tup (ZLe.cons (AVle.eq (show AV.i .i64 (3:Int) = AV.i .i64 (ordV a b).fst from ?g17)) (ZLe.cons (AVle.eq (show AV.i .i64 (0:Int) = AV.i .i64 (ordV a b).snd from ?g16)) ZLe.nil))); rotate_left 2
 rotate_left
 rotate_left
 revert h_0; rotate_left
 revert h_0; rotate_left
 revert h_0; rotate_left
 revert h_0; rotate_left
 revert h_0; rotate_left
 revert h_0; rotate_left
 revert h_0; rotate_left
 revert h_0; rotate_left
 revert h_0 h_3; rotate_left
 revert h_0 h_3; rotate_left
 revert h_0 h_3 h_4; rotate_left
 revert h_0 h_3 h_4; rotate_left
 revert h_0 h_3 h_4 h_5; rotate_left
 revert h_0 h_3 h_4 h_5; rotate_left
 revert h_0 h_3 h_4 h_5; rotate_left
 revert h_0 h_3 h_4 h_5; rotate_left
 case g0 => exact ha.1
 case g1 => exact hb.1
 case g2 => intro h; unfold ordV; rw [if_neg h]
 case g3 => intro h; unfold ordV; rw [if_neg h]
 case g4 => intro h; exact (y h).1
 case g5 => intro h; exact (y h).2
 case g6 => intro h; exact less_sz ha.1
 case g7 => intro h; exact (y h).2
 case g8 => intro h; exact (y h).1
 case g9 => intro h; exact less_sz hb.1
 case g10 => intro h k; unfold ordV; rw [if_pos (Classical.not_not.1 h)]
 case g11 => intro h k; unfold ordV; rw [if_pos (Classical.not_not.1 h), if_pos k]
 case g12 => intro h k m; unfold ordV; rw [if_pos (Classical.not_not.1 h)]
 case g13 => intro h k m; unfold ordV; rw [if_pos (Classical.not_not.1 h), if_neg k, if_pos m]
 case g14 => intro h k m n; unfold ordV; rw [if_pos (Classical.not_not.1 h)]
 case g15 => intro h k m n; unfold ordV; rw [if_pos (Classical.not_not.1 h), if_neg k, if_neg (f m), if_pos n]
 case g16 => intro h k m n; unfold ordV; rw [if_pos (Classical.not_not.1 h)]
 case g17 => intro h k m n; unfold ordV; rw [if_pos (Classical.not_not.1 h), if_neg k, if_neg (f m), if_neg (f n)]
theorem con23 (a b : Facts) (ha : szG a) (hb : szG b) : Con Tryz.prog 23 [.agg (c29 a), .agg (c29 b)] (.tup [.agg (c29 (lesV a b).1), .i .i64 (lesV a b).2]) :=
 by
 have y : ¬ ¬ botF a b = true → okF a = true ∧ okF b = true := fun h => botF_iff.1 (Classical.not_not.1 h)
 refine st_con tab_ok (by kernel_rfl) [.cell 4 29, .tmp 5] 14 Go.Proofs.Tryz.func23 (by kernel_rfl) (by kernel_rfl) ?_
 intro e0 cx
 refine sq ?_
 refine rg (A := True) cx [] [2, 3, 4] [2, 3, 4] trivial ?_
 refine sn (sq ?_)
 refine sq ?_
 refine rg (A := _ ∧ ((AV.b !botF a b) = AV.b (decide ¬botF a b = true))) cx [(2, { val := some (.b (botF a b)) }), (3, { tell := some (.b (decide ¬botF a b = true)) })] [2, 3, 4, 9] [2, 3, 4] ⟨(con56 (a) (b) ?g0 ?g1), (told_not)⟩ ?_; rotate_left 2
 refine sn ?_
 refine st_dec (¬botF a b = true) (by kernel_rfl) (by kernel_rfl) (fun h_0 => ?_) (fun h_0 => ?_)
 refine sq ?_
 refine rg (A := True) cx [] [4, 5] [4] trivial ?_
 refine sn ?_
 refine st_ret (by kernel_rfl) ?_
 refine q_seq_ret ?_
 refine q_ret (r := .tup [.agg [.nl, .nl, .nl, .nl], .i .i64 ((1:Int))]) (obl := []) (by kernel_rfl) trivial (AVle.tup (ZLe.cons (AVle.agg (ZLe.cons (AVle.nl' (show List.map c45 (lesV a b).fst.adds = [] from ?g6)) (ZLe.cons (AVle.nl' (show List.map c3 (lesV a b).fst.gone.vec = [] from ?g5)) (ZLe.cons (AVle.nl' (show List.map c104 (lesV a b).fst.gone.cloud = [] from ?g4)) (ZLe.cons (AVle.nl' (show List.map c81 (lesV a b).fst.recs = [] from ?g3)) ZLe.nil))))) (ZLe.cons (AVle.eq (show AV.i .i64 (1:Int) = AV.i .i64 (lesV a b).snd from ?g2)) ZLe.nil))); rotate_left 5
 refine st_skip (by kernel_rfl) ?_
 refine sn (sq ?_)
 refine rg (A := _) cx [(2, { val := some (.agg [.sl (List.map c45 (lessV a b).adds), .sl (List.map c3 (lessV a b).gone.vec), .sl (List.map c104 (lessV a b).gone.cloud), .sl (List.map c81 (lessV a b).recs)]) })] [4, 5] [4] (con58 (a) (b) (by (with_reducible assumption)) (by (with_reducible assumption)) ?g7 ?g8) ?_; rotate_left 2
 refine sn ?_
 refine st_ret (by kernel_rfl) ?_
 refine q_ret (r := .tup [.agg [.sl (List.map c45 (lessV a b).adds), .sl (List.map c3 (lessV a b).gone.vec), .sl (List.map c104 (lessV a b).gone.cloud), .sl (List.map c81 (lessV a b).recs)], .i .i64 ((0:Int))]) (obl := []) (by kernel_rfl) trivial (AVle.tup (ZLe.cons (AVle.eq (show AV.agg [AV.sl (List.map c45 (lessV a b).adds), AV.sl (List.map c3 (lessV a b).gone.vec), AV.sl (List.map c104 (lessV a b).gone.cloud), AV.sl (List.map c81 (lessV a b).recs)] = AV.agg [AV.sl (List.map c45 (lesV a b).fst.adds), AV.sl (List.map c3 (lesV a b).fst.gone.vec), AV.sl (List.map c104 (lesV a b).fst.gone.cloud), AV.sl (List.map c81 (lesV a b).fst.recs)] from ?g10)) (ZLe.cons (AVle.eq (show AV.i .i64 (0:Int) = AV.i .i64 (lesV a b).snd from ?g9)) ZLe.nil))); rotate_left 2
 rotate_left
 rotate_left
 revert h_0; rotate_left
 revert h_0; rotate_left
 revert h_0; rotate_left
 revert h_0; rotate_left
 revert h_0; rotate_left
 revert h_0; rotate_left
 revert h_0; rotate_left
 revert h_0; rotate_left
 revert h_0; rotate_left
 case g0 => exact ha.1
 case g1 => exact hb.1
 case g2 => intro h; unfold lesV; rw [if_neg h]
 case g3 => intro h; unfold lesV; rw [if_neg h]; rfl
 case g4 => intro h; unfold lesV; rw [if_neg h]; rfl
 case g5 => intro h; unfold lesV; rw [if_neg h]; rfl
 case g6 => intro h; unfold lesV; rw [if_neg h]; rfl
 case g7 => intro h; exact (y h).1
 case g8 => intro h; exact (y h).2
 case g9 => intro h; unfold lesV; rw [if_pos (Classical.not_not.1 h)]
 case g10 => intro h; unfold lesV; rw [if_pos (Classical.not_not.1 h)]
end Go.Proofs.YtaiepnaokhpmcaaGreat
namespace Go.Proofs.YtaiepnaokhpmcaaGreat
open Go.E
set_option maxRecDepth 100000
set_option maxHeartbeats 4000000
theorem ok_len {es : List Entry} (h : ¬ ¬ lstE es = 0) : es.length ≤ 16000000000 := okL_len (lst_ok (Classical.not_not.1 h))
end Go.Proofs.YtaiepnaokhpmcaaGreat
namespace Go.Proofs.YtaiepnaokhpmcaaGreat
open Go.E
set_option maxRecDepth 100000
set_option maxHeartbeats 4000000
def invVl (a b : Facts) (i:Int) (x1 : List Entry) (x2 : List Int) (x3 : List Span) (x4 : List Record) (y1 : List Entry) (y2 : List Int) (y3 : List Span) (y4 : List Record) (gv : List Int) (gc : List Span) (o : List Entry) : Prop :=
 sameAB a b x1 x2 x3 x4 y1 y2 y3 y4 ∧ gv = (minusP a.gone b.gone).vec ∧ gc = (minusP a.gone b.gone).cloud ∧ 0 ≤ i ∧ i ≤ a.adds.length ∧ (o.length:Int) ≤ i ∧ isLe a b i o
def decVl (a : Facts) (i:Int) (x1 : List Entry) (x2 : List Int) (x3 : List Span) (x4 : List Record) (y1 : List Entry) (y2 : List Int) (y3 : List Span) (y4 : List Record) (gv : List Int) (gc : List Span) (o : List Entry) : Nat := (a.adds.length - i).toNat
def invVm (a b : Facts) (i:Int) (x1 : List Entry) (x2 : List Int) (x3 : List Span) (x4 : List Record) (y1 : List Entry) (y2 : List Int) (y3 : List Span) (y4 : List Record) (gv : List Int) (gc : List Span) (o : List Entry) (q : List Record) : Prop :=
 sameAB a b x1 x2 x3 x4 y1 y2 y3 y4 ∧ gv = (minusP a.gone b.gone).vec ∧ gc = (minusP a.gone b.gone).cloud ∧ o = (lessV a b).adds ∧ 0 ≤ i ∧ i ≤ a.recs.length ∧ (q.length:Int) ≤ i ∧ isLr a b i q
def decVm (a : Facts) (i:Int) (x1 : List Entry) (x2 : List Int) (x3 : List Span) (x4 : List Record) (y1 : List Entry) (y2 : List Int) (y3 : List Span) (y4 : List Record) (gv : List Int) (gc : List Span) (o : List Entry) (q : List Record) : Nat := (a.recs.length - i).toNat
def invHr (f : Facts) (r : Record) (i:Int) (x1 : List Entry) (x2 : List Int) (x3 : List Span) (x4 : List Record) (s : ByteArray) (v : List Int) (c : List Span) : Prop := s = r.sku ∧ v = r.past.vec ∧ c = r.past.cloud ∧ x4 = f.recs ∧ 0 ≤ i ∧ i ≤ f.recs.length ∧ ∀ k : Nat, (k:Int) < i → ¬ f.recs[k]! = r
def decHr (f : Facts) (i:Int) (x1 : List Entry) (x2 : List Int) (x3 : List Span) (x4 : List Record) (s : ByteArray) (v : List Int) (c : List Span) : Nat := (f.recs.length - i).toNat
def invSr (a b : List Record) (i:Int) : Prop := 0 ≤ i ∧ i ≤ a.length ∧ a.length = b.length ∧ ∀ k : Nat, (k:Int) < i → a[k]! = b[k]!
def decSr (a : List Record) (i:Int) : Nat := (a.length - i).toNat
def smP (p : Past) : Prop := p.cloud.length ≤ 8000000000 ∧ p.vec.length ≤ 16
def szC (f : Facts) : Prop := smP f.gone ∧ (∀ r ∈ f.recs, smP r.past) ∧ f.recs.length * 64 ≤ 140737488351232 ∧ f.adds.length * 40 ≤ 140737488351232
theorem norm_sm {p : Past} (h : p = normP p) : smP p := by
 rw [h]
 exact tabP_len _
def invCy (f : Facts) (i:Int) (x1 : List Entry) (x2 : List Int) (x3 : List Span) (x4 : List Record) (o : List Entry) (v : List Int) (c : List Span) (q : List Record) : Prop :=
 x4 = f.recs ∧ o = f.adds ∧ v = f.gone.vec ∧ c = f.gone.cloud ∧ 0 ≤ i ∧ i ≤ f.recs.length ∧ (q.length:Int) = i ∧ isPre f.recs i q
def decCy (f : Facts) (i:Int) (x1 : List Entry) (x2 : List Int) (x3 : List Span) (x4 : List Record) (o : List Entry) (v : List Int) (c : List Span) (q : List Record) : Nat := (f.recs.length - i).toNat
theorem rec_eta (r : Record) : (⟨r.sku, r.past⟩ : Record) = r := rfl
theorem les_no {a b : Facts} (h : ¬chkF a = 0 ∨ ¬chkF b = 0) : lesV a b = (zeroF, 1) := by
 unfold lesV
 rw [if_neg]
 rw [botF_iff, ← chk_zero, ← chk_zero]
 rintro ⟨k1, k2⟩
 rcases h with h | h
 ·exact h k1
 ·exact h k2
theorem les_ok {a b : Facts} (h : ¬ (¬chkF a = 0 ∨ ¬chkF b = 0)) : okF a = true ∧ okF b = true ∧ lesV a b = (lessV a b, 0) := by
 have h1 : okF a = true := chk_zero.1 (Classical.not_not.1 fun k => h (.inl k))
 have h2 : okF b = true := chk_zero.1 (Classical.not_not.1 fun k => h (.inr k))
 exact ⟨h1, h2, by unfold lesV; rw [if_pos (botF_iff.2 ⟨h1, h2⟩)]⟩
theorem with_les (a b : Facts) : withV a b = if (lesV a b).2 = 0 then (noneF (lesV a b).1, 0) else (false, (lesV a b).2) := by
 unfold withV lesV
 by_cases h : botF a b = true
 ·rw [if_pos h, if_pos h, if_pos rfl]
 ·rw [if_neg h, if_neg h, if_neg (by decide)]
theorem bot_symm (a b : Facts) : botF b a = botF a b := by unfold botF; rw [Bool.and_comm]
theorem ord_with (a b : Facts) : ordV a b = if (withV a b).2 = 0 then ((if (withV a b).1 = true ∧ (withV b a).1 = true then 0 else if (withV a b).1 = true then 1 else if (withV b a).1 = true then 2 else 3), 0) else (0, (withV a b).2) := by
 have hs := bot_symm a b
 unfold ordV withV
 by_cases h : botF a b = true
 ·have h2 : botF b a = true := hs.trans h
  rw [if_pos h, if_pos h, if_pos h2, if_pos rfl]
 ·rw [if_neg h, if_neg h, if_neg (by decide)]
theorem con41 (f : Facts) (hb : szF f) : Con Tryz.prog 41 [.agg (c29 f)] (.i .i64 (chkF f)) :=
 by
 have no : (¬lstE f.adds = 0 ∨ ¬f.gone = normP f.gone ∨ ¬recE f.recs = 0) ↔ ¬ okF f = true := by
  rw [okF_iff]
  constructor
  ·rintro (h | h | h) k
   ·exact h k.1
   ·exact h k.2.1
   ·exact h k.2.2
  ·intro h
   by_cases a : lstE f.adds = 0
   ·by_cases b : f.gone = normP f.gone
    ·exact .inr (.inr fun c => h ⟨a, b, c⟩)
    ·exact .inr (.inl b)
   ·exact .inl a
 refine st_con tab_ok (by kernel_rfl) [.tmp 2] 19 Go.Proofs.Tryz.func41 (by kernel_rfl) (by kernel_rfl) ?_
 intro e0 cx
 refine sq ?_
 refine rg (A := True) cx [] [1] [1] trivial ?_
 refine sn (sq ?_)
 refine sq ?_
 refine st_join (σ' := ⟨[(18, .b (decide (¬lstE f.adds = (0:Int) ∨ ¬f.gone = normP f.gone ∨ ¬recE f.recs = (0:Int))))], []⟩) ?_ ?_
 refine st_split (¬lstE f.adds = (0:Int)) (fun h_1 => ?_) (fun h_1 => ?_)
 refine rg (A := _ ∧ _ ∧ (AV.b true = AV.b (decide (¬lstE f.adds = (0:Int) ∨ ¬f.gone = normP f.gone ∨ ¬recE f.recs = (0:Int))))) cx [(2, { val := some (.i .i64 (lstE f.adds)) }), (3, { tell := some (.b (true)) }), (15, { tell := some (.b (decide (¬lstE f.adds = (0:Int) ∨ ¬f.gone = normP f.gone ∨ ¬recE f.recs = (0:Int)))) })] [18] [] ⟨(con34 (f.adds)), (told_neqt h_1), (by simp only [eq_false h_1, told_simp1, told_simp2, and_true, true_and, and_false, false_and, or_true, true_or, or_false, false_or, not_true_eq_false, not_false_eq_true, decide_true, decide_false, Bool.decide_eq_true])⟩ ?_
 exact ⟨rfl, by kernel_rfl⟩
 refine st_split (¬f.gone = normP f.gone) (fun h_2 => ?_) (fun h_2 => ?_)
 refine rg (A := _ ∧ (AV.b (lstE f.adds != (0:Int)) = AV.b (decide ¬lstE f.adds = (0:Int))) ∧ _ ∧ _ ∧ _ ∧ (AV.b true = AV.b (decide (¬lstE f.adds = (0:Int) ∨ ¬f.gone = normP f.gone ∨ ¬recE f.recs = (0:Int))))) cx [(2, { val := some (.i .i64 (lstE f.adds)) }), (3, { tell := some (.b (decide ¬lstE f.adds = (0:Int))) }), (4, { tell := some (.b (false)) }), (7, { val := some (.b (decide (f.gone = normP f.gone))), tell := some (.b (false)) }), (15, { tell := some (.b (decide (¬lstE f.adds = (0:Int) ∨ ¬f.gone = normP f.gone ∨ ¬recE f.recs = (0:Int)))) })] [18] [] ⟨(con34 (f.adds)), (told_neq), (told_false h_1), (told_false h_2), (con84 (f.gone) ?g0 ?g1), (by first | (simp only [eq_false h_1, eq_false h_2, told_simp1, told_simp2, and_true, true_and, and_false, false_and, or_true, true_or, or_false, false_or, not_true_eq_false, not_false_eq_true, decide_true, decide_false, Bool.decide_eq_true]; done) | simp_all)⟩ ?_; rotate_left 2
 exact ⟨rfl, by kernel_rfl⟩
 refine rg (A := _ ∧ (AV.b (lstE f.adds != (0:Int)) = AV.b (decide ¬lstE f.adds = (0:Int))) ∧ _ ∧ _ ∧ ((AV.b !decide (f.gone = normP f.gone)) = AV.b (decide ¬f.gone = normP f.gone)) ∧ _ ∧ _ ∧ (AV.b (recE f.recs != (0:Int)) = AV.b (decide ¬recE f.recs = (0:Int))) ∧ (AV.b (decide ¬recE f.recs = (0:Int)) = AV.b (decide (¬lstE f.adds = (0:Int) ∨ ¬f.gone = normP f.gone ∨ ¬recE f.recs = (0:Int))))) cx [(2, { val := some (.i .i64 (lstE f.adds)) }), (3, { tell := some (.b (decide ¬lstE f.adds = (0:Int))) }), (4, { tell := some (.b (false)) }), (7, { val := some (.b (decide (f.gone = normP f.gone))) }), (8, { tell := some (.b (decide ¬f.gone = normP f.gone)) }), (9, { tell := some (.b (false)) }), (13, { val := some (.i .i64 (recE f.recs)) }), (14, { tell := some (.b (decide ¬recE f.recs = (0:Int))) }), (15, { tell := some (.b (decide (¬lstE f.adds = (0:Int) ∨ ¬f.gone = normP f.gone ∨ ¬recE f.recs = (0:Int)))) })] [18] [] ⟨(con34 (f.adds)), (told_neq), (told_false h_1), (con84 (f.gone) ?g2 ?g3), (told_notd), (told_false h_2), (con85 (f.recs) ?g4), (told_neq), (by first | (simp only [eq_false h_1, eq_false h_2, told_simp1, told_simp2, and_true, true_and, and_false, false_and, or_true, true_or, or_false, false_or, not_true_eq_false, not_false_eq_true, decide_true, decide_false, Bool.decide_eq_true]; done) | simp_all)⟩ ?_; rotate_left 3
 exact ⟨rfl, by kernel_rfl⟩
 refine sn ?_
 refine st_dec (¬lstE f.adds = (0:Int) ∨ ¬f.gone = normP f.gone ∨ ¬recE f.recs = (0:Int)) (by kernel_rfl) (by kernel_rfl) (fun h_3 => ?_) (fun h_3 => ?_)
 refine sq ?_
 refine rg (A := True) cx [] [2] [] trivial ?_
 refine sn ?_
 refine st_ret (by kernel_rfl) ?_
 refine q_seq_ret ?_
 refine q_ret (r := .i .i64 ((1:Int))) (obl := []) (by kernel_rfl) trivial (AVle.eq (show AV.i .i64 (1:Int) = AV.i .i64 (chkF f) from ?g5)); rotate_left 1
 refine st_skip (by kernel_rfl) ?_
 refine sn (sq ?_)
 refine rg (A := True) cx [] [2] [] trivial ?_
 refine sn ?_
 refine st_ret (by kernel_rfl) ?_
 refine q_ret (r := .i .i64 ((0:Int))) (obl := []) (by kernel_rfl) trivial (AVle.eq (show AV.i .i64 (0:Int) = AV.i .i64 (chkF f) from ?g6)); rotate_left 1
 revert h_1 h_2; rotate_left
 revert h_1 h_2; rotate_left
 revert h_1 h_2; rotate_left
 revert h_1 h_2; rotate_left
 revert h_1 h_2; rotate_left
 revert h_3; rotate_left
 revert h_3; rotate_left
 case g4 => intros; exact hb.2
 case g5 => intro h; unfold chkF; rw [if_neg (no.1 h)]
 case g6 => intro h; unfold chkF; rw [if_pos (Classical.not_not.1 fun k => h (no.2 k))]
 all_goals (intros; first | exact hb.1.1 | exact hb.1.2)
theorem con61 (f : Facts) (e : Entry) : Con Tryz.prog 61 [.agg (c29 f), .agg (c45 e)] (.b (hasE f.adds e)) :=
 by
 refine st_con tab_ok (by kernel_rfl) [.tmp 4] 21 Go.Proofs.Tryz.func61 (by kernel_rfl) (by kernel_rfl) ?_
 intro e0 cx
 refine sq ?_
 refine rg (A := True) cx [] [2, 3] [2, 3] trivial ?_
 refine sn (sq ?_)
 refine rg (A := _) cx [(4, { val := some (.tup [.agg [.i .i64 ((findE f.adds e.dot).fst.dot.rep), .i .i64 ((findE f.adds e.dot).fst.dot.num), .s ((findE f.adds e.dot).fst.sku), .i .i64 ((findE f.adds e.dot).fst.qty)], .b ((findE f.adds e.dot).snd)]) })] [3, 5, 6] [3, 5] (con40 (f.adds) (e.dot)) ?_
 refine sn (sq ?_)
 refine st_join (σ' := ⟨[(4, .b (decide ((findE f.adds e.dot).snd = true ∧ (findE f.adds e.dot).fst = e)))], []⟩) ?_ ?_
 refine st_split ((findE f.adds e.dot).snd = true) (fun h_1 => ?_) (fun h_1 => ?_)
 refine rg (A := _ ∧ (AggEq Tryz.prog (45:Nat) [AV.i .i64 (findE f.adds e.dot).fst.dot.rep, AV.i .i64 (findE f.adds e.dot).fst.dot.num, AV.s (findE f.adds e.dot).fst.sku, AV.i .i64 (findE f.adds e.dot).fst.qty] [AV.i .i64 e.dot.rep, AV.i .i64 e.dot.num, AV.s e.sku, AV.i .i64 e.qty] (decide ((findE f.adds e.dot).fst = e))) ∧ (AV.b (decide ((findE f.adds e.dot).fst = e)) = AV.b (decide ((findE f.adds e.dot).snd = true ∧ (findE f.adds e.dot).fst = e)))) cx [(0, { tell := some (.b (true)) }), (4, { val := some (.b (decide ((findE f.adds e.dot).fst = e))) }), (6, { tell := some (.b (decide ((findE f.adds e.dot).snd = true ∧ (findE f.adds e.dot).fst = e))) })] [4] [] ⟨(told_eqt h_1), (eq45 (findE f.adds e.dot).fst e), (by simp only [eq_true h_1, told_simp1, told_simp2, and_true, true_and, and_false, false_and, or_true, true_or, or_false, false_or, not_true_eq_false, not_false_eq_true, decide_true, decide_false, Bool.decide_eq_true])⟩ ?_
 exact ⟨rfl, by kernel_rfl⟩
 refine rg (A := _ ∧ (AV.b false = AV.b (decide ((findE f.adds e.dot).snd = true ∧ (findE f.adds e.dot).fst = e)))) cx [(0, { tell := some (.b (false)) }), (6, { tell := some (.b (decide ((findE f.adds e.dot).snd = true ∧ (findE f.adds e.dot).fst = e))) })] [4] [] ⟨(told_eqn h_1), (by simp only [eq_false h_1, told_simp1, told_simp2, and_true, true_and, and_false, false_and, or_true, true_or, or_false, false_or, not_true_eq_false, not_false_eq_true, decide_true, decide_false, Bool.decide_eq_true])⟩ ?_
 exact ⟨rfl, by kernel_rfl⟩
 refine sn ?_
 refine st_ret (by kernel_rfl) ?_
 refine q_ret (r := .b (decide ((findE f.adds e.dot).snd = true ∧ (findE f.adds e.dot).fst = e))) (obl := []) (by kernel_rfl) trivial (AVle.eq (show AV.b (decide ((findE f.adds e.dot).snd = true ∧ (findE f.adds e.dot).fst = e)) = AV.b (hasE f.adds e) from ?g0)); rotate_left 1
 case g0 =>
  refine congrArg AV.b ?_
  rw [Bool.eq_iff_iff, has_iff, decide_eq_true_iff]
  constructor
  ·rintro ⟨h1, h2⟩ (k | k)
   ·exact k h1
   ·exact k h2
  ·exact fun h => ⟨Classical.byContradiction fun k => h (.inl k), Classical.byContradiction fun k => h (.inr k)⟩
theorem con62 (f : Facts) (r : Record) (hl : f.recs.length ≤ 4611686018427387904) (hq : szQ f.recs) : Con Tryz.prog 62 [.agg (c29 f), .agg (c81 r)] (.b (decide (r ∈ f.recs))) :=
 by
 refine st_con tab_ok (by kernel_rfl) [.tmp 4] 33 Go.Proofs.Tryz.func62 (by kernel_rfl) (by kernel_rfl) ?_
 intro e0 cx
 refine sq ?_
 refine rg (A := True) cx [] [2, 3] [2, 3] trivial ?_
 refine sn (sq ?_)
 refine sq ?_
 refine rg (A := True) cx [] [2, 3, 5] [2, 3] trivial ?_
 refine sn ?_
 refine st_block 0 (by kernel_rfl) ?_
 refine st_loop (X := Int × List Entry × List Int × List Span × List Record × ByteArray × List Int × List Span) (fun x => ⟨[(2, .ptr (2) (0) (0) (0)), (3, .ptr (3) (0) (0) (0)), (5, .i .i64 (x.fst))], [(2, ⟨0, 29, .var [.sl (List.map c45 x.snd.fst), .sl (List.map c3 x.snd.snd.fst), .sl (List.map c104 x.snd.snd.snd.fst), .sl (List.map c81 x.snd.snd.snd.snd.fst)]⟩), (3, ⟨0, 81, .var [.s (x.snd.snd.snd.snd.snd.fst), .sl (List.map c3 x.snd.snd.snd.snd.snd.snd.fst), .sl (List.map c104 x.snd.snd.snd.snd.snd.snd.snd)]⟩)]⟩) (fun x ↦ decHr f x.fst x.snd.fst x.snd.snd.fst x.snd.snd.snd.fst x.snd.snd.snd.snd.fst x.snd.snd.snd.snd.snd.fst x.snd.snd.snd.snd.snd.snd.fst x.snd.snd.snd.snd.snd.snd.snd) (fun x ↦ invHr f r x.fst x.snd.fst x.snd.snd.fst x.snd.snd.snd.fst x.snd.snd.snd.snd.fst x.snd.snd.snd.snd.snd.fst x.snd.snd.snd.snd.snd.snd.fst x.snd.snd.snd.snd.snd.snd.snd) [2, 3, 5] [2, 3] (((0:Int), f.adds, f.gone.vec, f.gone.cloud, f.recs, r.sku, r.past.vec, r.past.cloud)) (by kernel_rfl) (by kernel_rfl) (show invHr f r (0:Int) f.adds f.gone.vec f.gone.cloud f.recs r.sku r.past.vec r.past.cloud from ?g0) ?_; rotate_left 1
 rintro ⟨i_0, x_1, x_2, x_3, x_4, s_5, v_6, c_7⟩ h_8
 obtain ⟨h_9, h_10, h_11, h_12, h_13, h_14, h_15⟩ : s_5 = r.sku ∧ v_6 = r.past.vec ∧ c_7 = r.past.cloud ∧ x_4 = f.recs ∧ (0:Int) ≤ i_0 ∧ i_0 ≤ (↑f.recs.length:Int) ∧ ∀ (k:Nat), (↑k:Int) < i_0 → ¬f.recs[k]! = r := h_8
 refine sq ?_
 refine sq ?_
 refine rg (A := _ ∧ (AV.b (decide (i_0 < (↑x_4.length:Int))) = AV.b (decide (i_0 < (↑x_4.length:Int))))) cx [(3, { tell := some (.i .i64 ((↑x_4.length:Int))) }), (4, { tell := some (.b (decide (i_0 < (↑x_4.length:Int)))) })] [2, 3, 5, 10] [2, 3] ⟨(told_len c81 x_4), (by kernel_rfl)⟩ ?_
 refine sn ?_
 refine st_dec (i_0 < (↑x_4.length:Int)) (by kernel_rfl) (by kernel_rfl) (fun h_16 => ?_) (fun h_16 => ?_)
 refine st_skip (by kernel_rfl) ?_
 refine sn (sq ?_)
 refine st_block 1 (by kernel_rfl) ?_
 refine sq ?_
 refine st_join (σ' := ⟨[(2, .ptr (2) (0) (0) (0)), (3, .ptr (3) (0) (0) (0)), (5, .i .i64 (i_0)), (32, .b (decide (x_4[i_0.toNat]!.sku = s_5 ∧ x_4[i_0.toNat]!.past = { vec := v_6, cloud := c_7 : Past })))], [(2, ⟨0, 29, .var [.sl (List.map c45 x_1), .sl (List.map c3 x_2), .sl (List.map c104 x_3), .sl (List.map c81 x_4)]⟩), (3, ⟨0, 81, .var [.s (s_5), .sl (List.map c3 v_6), .sl (List.map c104 c_7)]⟩)]⟩) ?_ ?_
 refine st_split (x_4[i_0.toNat]!.sku = s_5) (fun h_18 => ?_) (fun h_18 => ?_)
 refine ra (A := ((0:Int) ≤ i_0) ∧ ((List.map c81 x_4)[i_0.toNat]? = some (c81 x_4[i_0.toNat]!)) ∧ ((c81 x_4[i_0.toNat]!).length = (3:Nat)) ∧ (AV.b (x_4[i_0.toNat]!.sku.toList == s_5.toList) = AV.b true) ∧ ((0:Int) ≤ i_0) ∧ ((List.map c81 x_4)[i_0.toNat]? = some (c81 x_4[i_0.toNat]!)) ∧ ((c81 x_4[i_0.toNat]!).length = (3:Nat)) ∧ ((2:Nat) ≤ [AV.sl (List.map c3 x_4[i_0.toNat]!.past.vec), AV.sl (List.map c104 x_4[i_0.toNat]!.past.cloud)].length) ∧ _ ∧ (AV.b (decide (x_4[i_0.toNat]!.past = { vec := v_6, cloud := c_7 : Past })) = AV.b (decide (x_4[i_0.toNat]!.sku = s_5 ∧ x_4[i_0.toNat]!.past = { vec := v_6, cloud := c_7 : Past })))) cx [(3, { row := (c81 x_4[i_0.toNat]!) }), (8, { tell := some (.b (true)) }), (13, { row := (c81 x_4[i_0.toNat]!) }), (18, { val := some (.b (decide (x_4[i_0.toNat]!.past = { vec := v_6, cloud := c_7 : Past }))) }), (19, { tell := some (.b (decide (x_4[i_0.toNat]!.sku = s_5 ∧ x_4[i_0.toNat]!.past = { vec := v_6, cloud := c_7 : Past }))) })] [2, 3, 5, 32] [2, 3] ⟨(by (with_reducible assumption)), (by (with_reducible refine get_map ?_; omega)), (by kernel_rfl), (told_seqt h_18), (by (with_reducible assumption)), (by (with_reducible refine get_map ?_; omega)), (by kernel_rfl), (by (simp only [List.length_append, List.length_cons, List.length_nil]; omega)), (con46 (x_4[i_0.toNat]!.past) ({ vec := v_6, cloud := c_7 : Past }) ?g1 ?g2), (by simp only [eq_true h_18, told_simp1, told_simp2, and_true, true_and, and_false, false_and, or_true, true_or, or_false, false_or, not_true_eq_false, not_false_eq_true, decide_true, decide_false, Bool.decide_eq_true])⟩ ?_; rotate_left 2
 exact ⟨rfl, by kernel_rfl⟩
 refine ra (A := ((0:Int) ≤ i_0) ∧ ((List.map c81 x_4)[i_0.toNat]? = some (c81 x_4[i_0.toNat]!)) ∧ ((c81 x_4[i_0.toNat]!).length = (3:Nat)) ∧ (AV.b (x_4[i_0.toNat]!.sku.toList == s_5.toList) = AV.b false) ∧ (AV.b false = AV.b (decide (x_4[i_0.toNat]!.sku = s_5 ∧ x_4[i_0.toNat]!.past = { vec := v_6, cloud := c_7 : Past })))) cx [(3, { row := (c81 x_4[i_0.toNat]!) }), (8, { tell := some (.b (false)) }), (19, { tell := some (.b (decide (x_4[i_0.toNat]!.sku = s_5 ∧ x_4[i_0.toNat]!.past = { vec := v_6, cloud := c_7 : Past }))) })] [2, 3, 5, 32] [2, 3] ⟨(by (with_reducible assumption)), (by (with_reducible refine get_map ?_; omega)), (by kernel_rfl), (told_seqf h_18), (by simp only [eq_false h_18, told_simp1, told_simp2, and_true, true_and, and_false, false_and, or_true, true_or, or_false, false_or, not_true_eq_false, not_false_eq_true, decide_true, decide_false, Bool.decide_eq_true])⟩ ?_
 exact ⟨rfl, by kernel_rfl⟩
 refine sn ?_
 refine st_dec (x_4[i_0.toNat]!.sku = s_5 ∧ x_4[i_0.toNat]!.past = { vec := v_6, cloud := c_7 : Past }) (by kernel_rfl) (by kernel_rfl) (fun h_19 => ?_) (fun h_19 => ?_)
 refine sq ?_
 refine rg (A := True) cx [] [4] [] trivial ?_
 refine sn ?_
 refine st_ret (by kernel_rfl) ?_
 refine q_blk_ret ?_
 refine q_seq_ret ?_
 refine q_seq_ret ?_
 refine q_blk_ret ?_
 refine q_seq_ret ?_
 refine q_ret (r := .b (true)) (obl := []) (by kernel_rfl) trivial (AVle.eq (show AV.b true = AV.b (decide (r ∈ f.recs)) from ?g3)); rotate_left 1
 refine st_skip (by kernel_rfl) ?_
 refine q_blk_normal ?_
 refine sn ?_
 refine rg (A := (AV.i .i64 (IntKind.i64.wrap (i_0 + (1:Int))) = AV.i .i64 (i_0 + (1:Int)))) cx [(1, { tell := some (.i .i64 (i_0 + (1:Int))) })] [2, 3, 5] [2, 3] (told_i64 (by omega) (by omega)) ?_
 refine sn ?_
 refine loop_next ((i_0 + (1:Int), x_1, x_2, x_3, x_4, s_5, v_6, c_7)) (by kernel_rfl) (show ((↑f.recs.length:Int) - (i_0 + (1:Int))).toNat < ((↑f.recs.length:Int) - i_0).toNat from ?g4) (show invHr f r (i_0 + (1:Int)) x_1 x_2 x_3 x_4 s_5 v_6 c_7 from ?g5); rotate_left 2
 refine st_exit 0 (by kernel_rfl) ?_
 refine q_seq_exit ?_
 refine q_seq_exit ?_
 refine q_blk_hit ?_
 refine sn (sq ?_)
 refine rg (A := True) cx [] [4] [] trivial ?_
 refine sn ?_
 refine st_ret (by kernel_rfl) ?_
 refine q_ret (r := .b (false)) (obl := []) (by kernel_rfl) trivial (AVle.eq (show AV.b false = AV.b (decide (r ∈ f.recs)) from ?g6)); rotate_left 1
 rotate_left
 revert i_0 x_1 x_2 x_3 x_4 s_5 v_6 c_7 h_9 h_10 h_11 h_12 h_13 h_14 h_15 h_16 h_18; rotate_left
 revert i_0 x_1 x_2 x_3 x_4 s_5 v_6 c_7 h_9 h_10 h_11 h_12 h_13 h_14 h_15 h_16 h_18; rotate_left
 revert i_0 x_1 x_2 x_3 x_4 s_5 v_6 c_7 h_9 h_10 h_11 h_12 h_13 h_14 h_15 h_16 h_19; rotate_left
 revert i_0 x_1 x_2 x_3 x_4 s_5 v_6 c_7 h_9 h_10 h_11 h_12 h_13 h_14 h_15 h_16 h_19; rotate_left
 revert i_0 x_1 x_2 x_3 x_4 s_5 v_6 c_7 h_9 h_10 h_11 h_12 h_13 h_14 h_15 h_16 h_19; rotate_left
 revert i_0 x_1 x_2 x_3 x_4 s_5 v_6 c_7 h_9 h_10 h_11 h_12 h_13 h_14 h_15 h_16; rotate_left
 case g0 => exact ⟨rfl, rfl, rfl, rfl, by omega, by omega, fun k hk => by omega⟩
 case g1 => intro i x1 x2 x3 x4 s v c e1 e2 e3 e4 h0 h1 h2 h3 h4; rw [e4] at h3 ⊢; exact (szQ_at hq h0 h3).2
 case g2 => intro i x1 x2 x3 x4 s v c e1 e2 e3 e4 h0 h1 h2 h3 h4; rw [e4] at h3 ⊢; have := (szQ_at hq h0 h3).1; omega
 case g3 =>
  intro i x1 x2 x3 x4 s v c e1 e2 e3 e4 h0 h1 h2 h3 h4
  rw [e4] at h3 h4
  subst e1 e2 e3
  have : f.recs[i.toNat]! = r := by
   generalize f.recs[i.toNat]! = y at h4
   cases y
   obtain ⟨k1, k2⟩ := h4
   simp only at k1 k2
   rw [k1, k2]
  refine congrArg AV.b (decide_eq_true ?_).symm
  rw [← this]
  exact bang_in (by omega)
 case g4 => intro i x1 x2 x3 x4 s v c e1 e2 e3 e4 h0 h1 h2 h3 h4; rw [e4] at h3; omega
 case g5 =>
  intro i x1 x2 x3 x4 s v c e1 e2 e3 e4 h0 h1 h2 h3 h4
  rw [e4] at h3 h4
  subst e1 e2 e3
  refine ⟨rfl, rfl, rfl, e4, by omega, by omega, fun k hk => ?_⟩
  by_cases e : k = i.toNat
  ·rw [e]; intro q; exact h4 (by rw [q]; exact ⟨rfl, rfl⟩)
  ·exact h2 k (by omega)
 case g6 =>
  intro i x1 x2 x3 x4 s v c e1 e2 e3 e4 h0 h1 h2 h3
  rw [e4] at h3
  refine congrArg AV.b (decide_eq_false ?_).symm
  intro h
  obtain ⟨k, hk, e⟩ := List.mem_iff_getElem.1 h
  refine h2 k (by omega) ?_
  rw [getElem!_pos f.recs k hk, e]
theorem con64 (a b : List Record) (hb : szQ a) : Con Tryz.prog 64 [.sl (a.map c81), .sl (b.map c81)] (.b (decide (a = b))) :=
 by
 refine con_lens 0 (c81) (a) (by kernel_rfl) Go.Proofs.Tryz.func64 (by kernel_rfl) fun hl_0 => ?_
 refine con_lens 1 (c81) (b) (by kernel_rfl) Go.Proofs.Tryz.func64 (by kernel_rfl) fun hl_1 => ?_
 refine st_con tab_ok (by kernel_rfl) [.tmp 4] 42 Go.Proofs.Tryz.func64 (by kernel_rfl) (by kernel_rfl) ?_
 intro e0 cx
 refine sq ?_
 refine rg (A := True) cx [] [0, 1] [] trivial ?_
 refine sn (sq ?_)
 refine sq ?_
 refine rg (A := _ ∧ _ ∧ (AV.b ((↑a.length:Int) != (↑b.length:Int)) = AV.b (decide ¬(↑a.length:Int) = (↑b.length:Int)))) cx [(1, { tell := some (.i .i64 ((↑a.length:Int))) }), (3, { tell := some (.i .i64 ((↑b.length:Int))) }), (4, { tell := some (.b (decide ¬(↑a.length:Int) = (↑b.length:Int))) })] [0, 1, 10] [] ⟨(told_len c81 a), (told_len c81 b), (told_neq)⟩ ?_
 refine sn ?_
 refine st_dec (¬(↑a.length:Int) = (↑b.length:Int)) (by kernel_rfl) (by kernel_rfl) (fun h_0 => ?_) (fun h_0 => ?_)
 refine sq ?_
 refine rg (A := True) cx [] [4] [] trivial ?_
 refine sn ?_
 refine st_ret (by kernel_rfl) ?_
 refine q_seq_ret ?_
 refine q_ret (r := .b (false)) (obl := []) (by kernel_rfl) trivial (AVle.eq (show AV.b false = AV.b (decide (a = b)) from ?g0)); rotate_left 1
 refine st_skip (by kernel_rfl) ?_
 refine sn (sq ?_)
 refine sq ?_
 refine rg (A := True) cx [] [0, 1, 5] [] trivial ?_
 refine sn ?_
 refine st_block 0 (by kernel_rfl) ?_
 refine st_loop (X := Int) (fun x => ⟨[(0, .sl (List.map c81 a)), (1, .sl (List.map c81 b)), (5, .i .i64 (x))], []⟩) (fun x ↦ decSr a x) (fun x ↦ invSr a b x) [0, 1, 5] [] ((0:Int)) (by kernel_rfl) (by kernel_rfl) (show invSr a b (0:Int) from ?g1) ?_; rotate_left 1
 intro i_1 h_2
 obtain ⟨h_3, h_4, h_5, h_6⟩ : (0:Int) ≤ i_1 ∧ i_1 ≤ (↑a.length:Int) ∧ a.length = b.length ∧ ∀ (k:Nat), (↑k:Int) < i_1 → a[k]! = b[k]! := h_2
 refine sq ?_
 refine sq ?_
 refine rg (A := _ ∧ (AV.b (decide (i_1 < (↑a.length:Int))) = AV.b (decide (i_1 < (↑a.length:Int))))) cx [(2, { tell := some (.i .i64 ((↑a.length:Int))) }), (3, { tell := some (.b (decide (i_1 < (↑a.length:Int)))) })] [0, 1, 5, 14] [] ⟨(told_len c81 a), (by kernel_rfl)⟩ ?_
 refine sn ?_
 refine st_dec (i_1 < (↑a.length:Int)) (by kernel_rfl) (by kernel_rfl) (fun h_7 => ?_) (fun h_7 => ?_)
 refine st_skip (by kernel_rfl) ?_
 refine sn (sq ?_)
 refine st_block 1 (by kernel_rfl) ?_
 refine sq ?_
 refine st_join (σ' := ⟨[(0, .sl (List.map c81 a)), (1, .sl (List.map c81 b)), (5, .i .i64 (i_1)), (41, .b (decide (¬a[i_1.toNat]!.sku = b[i_1.toNat]!.sku ∨ ¬a[i_1.toNat]!.past = b[i_1.toNat]!.past)))], []⟩) ?_ ?_
 refine st_split (¬a[i_1.toNat]!.sku = b[i_1.toNat]!.sku) (fun h_9 => ?_) (fun h_9 => ?_)
 refine ra (A := ((0:Int) ≤ i_1) ∧ ((List.map c81 a)[i_1.toNat]? = some (c81 a[i_1.toNat]!)) ∧ ((c81 a[i_1.toNat]!).length = (3:Nat)) ∧ ((0:Int) ≤ i_1) ∧ ((List.map c81 b)[i_1.toNat]? = some (c81 b[i_1.toNat]!)) ∧ ((c81 b[i_1.toNat]!).length = (3:Nat)) ∧ ((AV.b !a[i_1.toNat]!.sku.toList == b[i_1.toNat]!.sku.toList) = AV.b true) ∧ (AV.b true = AV.b (decide (¬a[i_1.toNat]!.sku = b[i_1.toNat]!.sku ∨ ¬a[i_1.toNat]!.past = b[i_1.toNat]!.past)))) cx [(2, { row := (c81 a[i_1.toNat]!) }), (7, { row := (c81 b[i_1.toNat]!) }), (10, { tell := some (.b (true)) }), (24, { tell := some (.b (decide (¬a[i_1.toNat]!.sku = b[i_1.toNat]!.sku ∨ ¬a[i_1.toNat]!.past = b[i_1.toNat]!.past))) })] [0, 1, 5, 41] [] ⟨(by (with_reducible assumption)), (by (with_reducible refine get_map ?_; omega)), (by kernel_rfl), (by (with_reducible assumption)), (by (with_reducible refine get_map ?_; omega)), (by kernel_rfl), (told_snet h_9), (by simp only [eq_false h_9, told_simp1, told_simp2, and_true, true_and, and_false, false_and, or_true, true_or, or_false, false_or, not_true_eq_false, not_false_eq_true, decide_true, decide_false, Bool.decide_eq_true])⟩ ?_
 exact ⟨rfl, by kernel_rfl⟩
 refine ra (A := ((0:Int) ≤ i_1) ∧ ((List.map c81 a)[i_1.toNat]? = some (c81 a[i_1.toNat]!)) ∧ ((c81 a[i_1.toNat]!).length = (3:Nat)) ∧ ((0:Int) ≤ i_1) ∧ ((List.map c81 b)[i_1.toNat]? = some (c81 b[i_1.toNat]!)) ∧ ((c81 b[i_1.toNat]!).length = (3:Nat)) ∧ ((AV.b !a[i_1.toNat]!.sku.toList == b[i_1.toNat]!.sku.toList) = AV.b (decide ¬a[i_1.toNat]!.sku = b[i_1.toNat]!.sku)) ∧ _ ∧ ((0:Int) ≤ i_1) ∧ ((List.map c81 a)[i_1.toNat]? = some (c81 a[i_1.toNat]!)) ∧ ((c81 a[i_1.toNat]!).length = (3:Nat)) ∧ ((2:Nat) ≤ [AV.sl (List.map c3 a[i_1.toNat]!.past.vec), AV.sl (List.map c104 a[i_1.toNat]!.past.cloud)].length) ∧ ((0:Int) ≤ i_1) ∧ ((List.map c81 b)[i_1.toNat]? = some (c81 b[i_1.toNat]!)) ∧ ((c81 b[i_1.toNat]!).length = (3:Nat)) ∧ ((2:Nat) ≤ [AV.sl (List.map c3 b[i_1.toNat]!.past.vec), AV.sl (List.map c104 b[i_1.toNat]!.past.cloud)].length) ∧ _ ∧ ((AV.b !decide (a[i_1.toNat]!.past = b[i_1.toNat]!.past)) = AV.b (decide ¬a[i_1.toNat]!.past = b[i_1.toNat]!.past)) ∧ (AV.b (decide ¬a[i_1.toNat]!.past = b[i_1.toNat]!.past) = AV.b (decide (¬a[i_1.toNat]!.sku = b[i_1.toNat]!.sku ∨ ¬a[i_1.toNat]!.past = b[i_1.toNat]!.past)))) cx [(2, { row := (c81 a[i_1.toNat]!) }), (7, { row := (c81 b[i_1.toNat]!) }), (10, { tell := some (.b (decide ¬a[i_1.toNat]!.sku = b[i_1.toNat]!.sku)) }), (11, { tell := some (.b (false)) }), (14, { row := (c81 a[i_1.toNat]!) }), (19, { row := (c81 b[i_1.toNat]!) }), (22, { val := some (.b (decide (a[i_1.toNat]!.past = b[i_1.toNat]!.past))) }), (23, { tell := some (.b (decide ¬a[i_1.toNat]!.past = b[i_1.toNat]!.past)) }), (24, { tell := some (.b (decide (¬a[i_1.toNat]!.sku = b[i_1.toNat]!.sku ∨ ¬a[i_1.toNat]!.past = b[i_1.toNat]!.past))) })] [0, 1, 5, 41] [] ⟨(by (with_reducible assumption)), (by (with_reducible refine get_map ?_; omega)), (by kernel_rfl), (by (with_reducible assumption)), (by (with_reducible refine get_map ?_; omega)), (by kernel_rfl), (told_sne), (told_false h_9), (by (with_reducible assumption)), (by (with_reducible refine get_map ?_; omega)), (by kernel_rfl), (by (simp only [List.length_append, List.length_cons, List.length_nil]; omega)), (by (with_reducible assumption)), (by (with_reducible refine get_map ?_; omega)), (by kernel_rfl), (by (simp only [List.length_append, List.length_cons, List.length_nil]; omega)), (con46 (a[i_1.toNat]!.past) (b[i_1.toNat]!.past) ?g2 ?g3), (told_notd), (by first | (simp only [eq_false h_9, told_simp1, told_simp2, and_true, true_and, and_false, false_and, or_true, true_or, or_false, false_or, not_true_eq_false, not_false_eq_true, decide_true, decide_false, Bool.decide_eq_true]; done) | simp_all)⟩ ?_; rotate_left 2
 exact ⟨rfl, by kernel_rfl⟩
 refine sn ?_
 refine st_dec (¬a[i_1.toNat]!.sku = b[i_1.toNat]!.sku ∨ ¬a[i_1.toNat]!.past = b[i_1.toNat]!.past) (by kernel_rfl) (by kernel_rfl) (fun h_10 => ?_) (fun h_10 => ?_)
 refine sq ?_
 refine rg (A := True) cx [] [4] [] trivial ?_
 refine sn ?_
 refine st_ret (by kernel_rfl) ?_
 refine q_blk_ret ?_
 refine q_seq_ret ?_
 refine q_seq_ret ?_
 refine q_blk_ret ?_
 refine q_seq_ret ?_
 refine q_ret (r := .b (false)) (obl := []) (by kernel_rfl) trivial (AVle.eq (show AV.b false = AV.b (decide (a = b)) from ?g4)); rotate_left 1
 refine st_skip (by kernel_rfl) ?_
 refine q_blk_normal ?_
 refine sn ?_
 refine rg (A := (AV.i .i64 (IntKind.i64.wrap (i_1 + (1:Int))) = AV.i .i64 (i_1 + (1:Int)))) cx [(1, { tell := some (.i .i64 (i_1 + (1:Int))) })] [0, 1, 5] [] (told_i64 (by omega) (by omega)) ?_
 refine sn ?_
 refine loop_next (i_1 + (1:Int)) (by kernel_rfl) (show ((↑a.length:Int) - (i_1 + (1:Int))).toNat < ((↑a.length:Int) - i_1).toNat from (by omega)) (show invSr a b (i_1 + (1:Int)) from ?g5); rotate_left 1
 refine st_exit 0 (by kernel_rfl) ?_
 refine q_seq_exit ?_
 refine q_seq_exit ?_
 refine q_blk_hit ?_
 refine sn (sq ?_)
 refine rg (A := True) cx [] [4] [] trivial ?_
 refine sn ?_
 refine st_ret (by kernel_rfl) ?_
 refine q_ret (r := .b (true)) (obl := []) (by kernel_rfl) trivial (AVle.eq (show AV.b true = AV.b (decide (a = b)) from ?g6)); rotate_left 1
 revert h_0; rotate_left
 revert h_0; rotate_left
 revert h_0 i_1 h_3 h_4 h_5 h_6 h_7 h_9; rotate_left
 revert h_0 i_1 h_3 h_4 h_5 h_6 h_7 h_9; rotate_left
 revert h_0 i_1 h_3 h_4 h_5 h_6 h_7 h_10; rotate_left
 revert h_0 i_1 h_3 h_4 h_5 h_6 h_7 h_10; rotate_left
 revert h_0 i_1 h_3 h_4 h_5 h_6 h_7; rotate_left
 case g0 => intro h; rw [decide_eq_false (fun k => h (by rw [k]))]
 case g1 => intro h; exact ⟨by omega, by omega, by omega, fun j hj => by omega⟩
 case g2 => intro h i h0 h1 h2 h3 h4 h5; exact (szQ_at hb h0 h4).2
 case g3 => intro h i h0 h1 h2 h3 h4 h5; have := (szQ_at hb h0 h4).1; omega
 case g4 =>
  intro h i h0 h1 h2 h3 h4 h5
  rw [decide_eq_false (fun k => by
   rw [k] at h5
   rcases h5 with h5 | h5
   ·exact h5 rfl
   ·exact h5 rfl)]
 case g5 =>
  intro h i h0 h1 h2 h3 h4 h5
  refine ⟨by omega, by omega, h2, fun j hj => ?_⟩
  by_cases e : j = i.toNat
  ·rw [e]
   have k1 : a[i.toNat]!.sku = b[i.toNat]!.sku := Classical.byContradiction fun k => h5 (.inl k)
   have k2 : a[i.toNat]!.past = b[i.toNat]!.past := Classical.byContradiction fun k => h5 (.inr k)
   rw [← rec_eta a[i.toNat]!, ← rec_eta b[i.toNat]!, k1, k2]
  ·exact h3 j (by omega)
 case g6 => intro h i h0 h1 h2 h3 h4; rw [decide_eq_true (eq_of_all h2 fun j hj => h3 j (by omega))]
theorem con24 (a b : Facts) (hb : szF a) : Con Tryz.prog 24 [.agg (c29 a), .agg (c29 b)] (.b (decide (a = b))) :=
 by
 refine st_con tab_ok (by kernel_rfl) [.tmp 4] 24 Go.Proofs.Tryz.func24 (by kernel_rfl) (by kernel_rfl) ?_
 intro e0 cx
 refine sq ?_
 refine rg (A := True) cx [] [2, 3] [2, 3] trivial ?_
 refine sn (sq ?_)
 refine st_join (σ' := ⟨[(4, .b (decide (a.adds = b.adds ∧ a.gone = b.gone ∧ a.recs = b.recs)))], []⟩) ?_ ?_
 refine st_split (a.adds = b.adds) (fun h_1 => ?_) (fun h_1 => ?_)
 refine st_split (a.gone = b.gone) (fun h_2 => ?_) (fun h_2 => ?_)
 refine rg (A := _ ∧ _ ∧ _ ∧ _ ∧ _ ∧ (AV.b (decide (a.recs = b.recs)) = AV.b (decide (a.adds = b.adds ∧ a.gone = b.gone ∧ a.recs = b.recs)))) cx [(4, { val := some (.b (decide (a.adds = b.adds))), tell := some (.b (true)) }), (10, { val := some (.b (decide (a.gone = b.gone))), tell := some (.b (true)) }), (17, { val := some (.b (decide (a.recs = b.recs))) }), (19, { tell := some (.b (decide (a.adds = b.adds ∧ a.gone = b.gone ∧ a.recs = b.recs))) })] [4] [] ⟨(told_true h_1), (con44 (a.adds) (b.adds)), (told_true h_2), (con46 (a.gone) (b.gone) ?g0 ?g1), (con64 (a.recs) (b.recs) ?g2), (by simp only [eq_true h_1, eq_true h_2, told_simp1, told_simp2, and_true, true_and, and_false, false_and, or_true, true_or, or_false, false_or, not_true_eq_false, not_false_eq_true, decide_true, decide_false, Bool.decide_eq_true])⟩ ?_; rotate_left 3
 exact ⟨rfl, by kernel_rfl⟩
 refine rg (A := _ ∧ _ ∧ _ ∧ _ ∧ (AV.b false = AV.b (decide (a.adds = b.adds ∧ a.gone = b.gone ∧ a.recs = b.recs)))) cx [(4, { val := some (.b (decide (a.adds = b.adds))), tell := some (.b (true)) }), (10, { val := some (.b (decide (a.gone = b.gone))), tell := some (.b (false)) }), (19, { tell := some (.b (decide (a.adds = b.adds ∧ a.gone = b.gone ∧ a.recs = b.recs))) })] [4] [] ⟨(told_true h_1), (con44 (a.adds) (b.adds)), (told_false h_2), (con46 (a.gone) (b.gone) ?g3 ?g4), (by simp only [eq_true h_1, eq_false h_2, told_simp1, told_simp2, and_true, true_and, and_false, false_and, or_true, true_or, or_false, false_or, not_true_eq_false, not_false_eq_true, decide_true, decide_false, Bool.decide_eq_true])⟩ ?_; rotate_left 2
 exact ⟨rfl, by kernel_rfl⟩
 refine rg (A := _ ∧ _ ∧ (AV.b false = AV.b (decide (a.adds = b.adds ∧ a.gone = b.gone ∧ a.recs = b.recs)))) cx [(4, { val := some (.b (decide (a.adds = b.adds))), tell := some (.b (false)) }), (19, { tell := some (.b (decide (a.adds = b.adds ∧ a.gone = b.gone ∧ a.recs = b.recs))) })] [4] [] ⟨(told_false h_1), (con44 (a.adds) (b.adds)), (by simp only [eq_false h_1, told_simp1, told_simp2, and_true, true_and, and_false, false_and, or_true, true_or, or_false, false_or, not_true_eq_false, not_false_eq_true, decide_true, decide_false, Bool.decide_eq_true])⟩ ?_
 exact ⟨rfl, by kernel_rfl⟩
 refine sn ?_
 refine st_ret (by kernel_rfl) ?_
 refine q_ret (r := .b (decide (a.adds = b.adds ∧ a.gone = b.gone ∧ a.recs = b.recs))) (obl := []) (by kernel_rfl) trivial (AVle.eq (show AV.b (decide (a.adds = b.adds ∧ a.gone = b.gone ∧ a.recs = b.recs)) = AV.b (decide (a = b)) from ?g5)); rotate_left 1
 revert h_1 h_2; rotate_left
 revert h_1 h_2; rotate_left
 revert h_1 h_2; rotate_left
 revert h_1 h_2; rotate_left
 revert h_1 h_2; rotate_left
 rotate_left
 case g2 => intros; exact hb.2
 case g5 =>
  refine congrArg AV.b (decide_eq_decide.2 ?_)
  cases a; cases b
  simp
 all_goals (intros; have := hb.1.1; have := hb.1.2; omega)
theorem con63 (p : Past) (hb : p.cloud.length * 24 ≤ 140737488351232) (hv : p.vec.length * 8 ≤ 140737488351232) : Con Tryz.prog 63 [.agg (c26 p)] (.agg (c26 p)) :=
 by
 refine st_con tab_ok (by kernel_rfl) [.cell 2 26] 12 Go.Proofs.Tryz.func63 (by kernel_rfl) (by kernel_rfl) ?_
 intro e0 cx
 refine sq ?_
 refine rg (A := True) cx [] [1, 2] [1, 2] trivial ?_
 refine sn (sq ?_)
 refine ra (A := (3 = (3:Nat)) ∧ ((1:Nat) = 1) ∧ ([AV.i .i64 (0:Int)].length = (1:Nat)) ∧ (∀ (r : List AV), r ∈ List.map c3 p.vec → r.length = 1) ∧ ((List.map c3 []).length + (List.map c3 p.vec).length ≤ maxLen) ∧ (((List.map c3 []).length + (List.map c3 p.vec).length) * (8:Nat) ≤ (140737488355328:Nat)) ∧ (List.map c3 [] ++ List.map c3 p.vec = List.map c3 ([] ++ p.vec)) ∧ (104 = (104:Nat)) ∧ ((3:Nat) = 3) ∧ ([AV.i .i64 (0:Int), AV.i .i64 (0:Int), AV.i .i64 (0:Int)].length = (3:Nat)) ∧ (∀ (r : List AV), r ∈ List.map c104 p.cloud → r.length = 3) ∧ ((List.map c104 []).length + (List.map c104 p.cloud).length ≤ maxLen) ∧ (((List.map c104 []).length + (List.map c104 p.cloud).length) * (24:Nat) ≤ (140737488355328:Nat)) ∧ (List.map c104 [] ++ List.map c104 p.cloud = List.map c104 ([] ++ p.cloud))) cx [(3, { rows := some (List.map c3 ([] ++ p.vec)) }), (7, { rows := some (List.map c104 ([] ++ p.cloud)) })] [2] [2] ⟨(by kernel_rfl), (by kernel_rfl), (by kernel_rfl), (by (with_reducible refine len_map (fun _ => ?_) _; kernel_rfl)), (by (simp only [Go.maxLen, List.length_map, List.length_append, List.length_cons, List.length_nil]; omega)), (by (simp only [Go.maxLen, List.length_map, List.length_append, List.length_cons, List.length_nil]; omega)), (by (with_reducible refine app_map ?_; kernel_rfl)), (by kernel_rfl), (by kernel_rfl), (by kernel_rfl), (by (with_reducible refine len_map (fun _ => ?_) _; kernel_rfl)), (by (simp only [Go.maxLen, List.length_map, List.length_append, List.length_cons, List.length_nil]; omega)), (by (simp only [Go.maxLen, List.length_map, List.length_append, List.length_cons, List.length_nil]; omega)), (by (with_reducible refine app_map ?_; kernel_rfl))⟩ ?_
 refine sn ?_
 refine st_ret (by kernel_rfl) ?_
 refine q_ret (r := .agg [.sl (List.map c3 ([] ++ p.vec)), .sl (List.map c104 ([] ++ p.cloud))]) (obl := []) (by kernel_rfl) trivial (AVle.eq (show AV.agg [AV.sl (List.map c3 ([] ++ p.vec)), AV.sl (List.map c104 ([] ++ p.cloud))] = AV.agg (c26 p) from ?g0)); rotate_left 1
 case g0 => rfl
theorem con20 (a b : Facts) (ha : szG a) (hb : szG b) : Con Tryz.prog 20 [.agg (c29 a), .agg (c29 b)] (.tup [.agg (c29 (lesV a b).1), .i .i64 (lesV a b).2]) :=
 by
 have hlen : ¬(¬chkF a = 0 ∨ ¬chkF b = 0) → a.adds.length ≤ 16000000000 := fun h => okL_len (lst_ok (okF_iff.1 (les_ok h).1).1)
 have hrl := ha.2
 have hrb := hb.2
 refine st_con tab_ok (by kernel_rfl) [.cell 4 29, .tmp 5] 75 Go.Proofs.Tryz.func20 (by kernel_rfl) (by kernel_rfl) ?_
 intro e0 cx
 refine sq ?_
 refine rg (A := True) cx [] [2, 3, 4] [2, 3, 4] trivial ?_
 refine sn (sq ?_)
 refine sq ?_
 refine st_join (σ' := ⟨[(2, .ptr (2) (0) (0) (0)), (3, .ptr (3) (0) (0) (0)), (4, .ptr (4) (0) (0) (0)), (16, .b (decide (¬chkF a = (0:Int) ∨ ¬chkF b = (0:Int))))], [(2, ⟨0, 29, .var [.sl (List.map c45 a.adds), .sl (List.map c3 a.gone.vec), .sl (List.map c104 a.gone.cloud), .sl (List.map c81 a.recs)]⟩), (3, ⟨0, 29, .var [.sl (List.map c45 b.adds), .sl (List.map c3 b.gone.vec), .sl (List.map c104 b.gone.cloud), .sl (List.map c81 b.recs)]⟩), (4, ⟨0, 29, .var [.nl, .nl, .nl, .nl]⟩)]⟩) ?_ ?_
 refine st_split (¬chkF a = (0:Int)) (fun h_1 => ?_) (fun h_1 => ?_)
 refine rg (A := _ ∧ _ ∧ (AV.b true = AV.b (decide (¬chkF a = (0:Int) ∨ ¬chkF b = (0:Int))))) cx [(1, { val := some (.i .i64 (chkF a)) }), (2, { tell := some (.b (true)) }), (7, { tell := some (.b (decide (¬chkF a = (0:Int) ∨ ¬chkF b = (0:Int)))) })] [2, 3, 4, 16] [2, 3, 4] ⟨(con41 (a) ?g0), (told_neqt h_1), (by simp only [eq_false h_1, told_simp1, told_simp2, and_true, true_and, and_false, false_and, or_true, true_or, or_false, false_or, not_true_eq_false, not_false_eq_true, decide_true, decide_false, Bool.decide_eq_true])⟩ ?_; rotate_left 1
 exact ⟨rfl, by kernel_rfl⟩
 refine rg (A := _ ∧ (AV.b (chkF a != (0:Int)) = AV.b (decide ¬chkF a = (0:Int))) ∧ _ ∧ _ ∧ (AV.b (chkF b != (0:Int)) = AV.b (decide ¬chkF b = (0:Int))) ∧ (AV.b (decide ¬chkF b = (0:Int)) = AV.b (decide (¬chkF a = (0:Int) ∨ ¬chkF b = (0:Int))))) cx [(1, { val := some (.i .i64 (chkF a)) }), (2, { tell := some (.b (decide ¬chkF a = (0:Int))) }), (3, { tell := some (.b (false)) }), (5, { val := some (.i .i64 (chkF b)) }), (6, { tell := some (.b (decide ¬chkF b = (0:Int))) }), (7, { tell := some (.b (decide (¬chkF a = (0:Int) ∨ ¬chkF b = (0:Int)))) })] [2, 3, 4, 16] [2, 3, 4] ⟨(con41 (a) ?g1), (told_neq), (told_false h_1), (con41 (b) ?g2), (told_neq), (by first | (simp only [eq_false h_1, told_simp1, told_simp2, and_true, true_and, and_false, false_and, or_true, true_or, or_false, false_or, not_true_eq_false, not_false_eq_true, decide_true, decide_false, Bool.decide_eq_true]; done) | simp_all)⟩ ?_; rotate_left 2
 exact ⟨rfl, by kernel_rfl⟩
 refine sn ?_
 refine st_dec (¬chkF a = (0:Int) ∨ ¬chkF b = (0:Int)) (by kernel_rfl) (by kernel_rfl) (fun h_2 => ?_) (fun h_2 => ?_)
 refine sq ?_
 refine rg (A := True) cx [] [4, 5] [4] trivial ?_
 refine sn ?_
 refine st_ret (by kernel_rfl) ?_
 refine q_seq_ret ?_
 refine q_ret (r := .tup [.agg [.nl, .nl, .nl, .nl], .i .i64 ((1:Int))]) (obl := []) (by kernel_rfl) trivial (AVle.tup (ZLe.cons (AVle.agg (ZLe.cons (AVle.nl' (show List.map c45 (lesV a b).fst.adds = [] from ?g7)) (ZLe.cons (AVle.nl' (show List.map c3 (lesV a b).fst.gone.vec = [] from ?g6)) (ZLe.cons (AVle.nl' (show List.map c104 (lesV a b).fst.gone.cloud = [] from ?g5)) (ZLe.cons (AVle.nl' (show List.map c81 (lesV a b).fst.recs = [] from ?g4)) ZLe.nil))))) (ZLe.cons (AVle.eq (show AV.i .i64 (1:Int) = AV.i .i64 (lesV a b).snd from ?g3)) ZLe.nil))); rotate_left 5
 refine st_skip (by kernel_rfl) ?_
 refine sn (sq ?_)
 refine rg (A := _) cx [(4, { val := some (.agg [.sl (List.map c3 (minusP a.gone b.gone).vec), .sl (List.map c104 (minusP a.gone b.gone).cloud)]) })] [2, 3, 4, 6] [2, 3, 4, 6] (con60 (a.gone) (b.gone) ?g8 ?g9) ?_; rotate_left 2
 refine sn (sq ?_)
 refine sq ?_
 refine rg (A := True) cx [] [2, 3, 4, 6, 7] [2, 3, 4, 6] trivial ?_
 refine sn ?_
 refine st_block 0 (by kernel_rfl) ?_
 refine awp_cellIn 6 45 4 0 5600 (σ' := ⟨[(2, .ptr (2) (0) (0) (0)), (3, .ptr (3) (0) (0) (0)), (4, .ptr (4) (0) (0) (0)), (6, .ptr (6) (0) (0) (0)), (7, .i .i64 ((0:Int)))], [(2, ⟨0, 29, .var [.sl (List.map c45 a.adds), .sl (List.map c3 a.gone.vec), .sl (List.map c104 a.gone.cloud), .sl (List.map c81 a.recs)]⟩), (3, ⟨0, 29, .var [.sl (List.map c45 b.adds), .sl (List.map c3 b.gone.vec), .sl (List.map c104 b.gone.cloud), .sl (List.map c81 b.recs)]⟩), (4, ⟨0, 29, .var [.nl, .nl, .nl, .nl]⟩), (6, ⟨0, 29, .var [.own 5600 0, .sl (List.map c3 (minusP a.gone b.gone).vec), .sl (List.map c104 (minusP a.gone b.gone).cloud), .nl]⟩), (5600, ⟨0, 45, .row 4 (List.map c45 [])⟩)]⟩) (by kernel_rfl) ?_
 refine st_loop (X := Int × List Entry × List Int × List Span × List Record × List Entry × List Int × List Span × List Record × List Int × List Span × List Entry) (fun x => ⟨[(2, .ptr (2) (0) (0) (0)), (3, .ptr (3) (0) (0) (0)), (4, .ptr (4) (0) (0) (0)), (6, .ptr (6) (0) (0) (0)), (7, .i .i64 (x.fst))], [(2, ⟨0, 29, .var [.sl (List.map c45 x.snd.fst), .sl (List.map c3 x.snd.snd.fst), .sl (List.map c104 x.snd.snd.snd.fst), .sl (List.map c81 x.snd.snd.snd.snd.fst)]⟩), (3, ⟨0, 29, .var [.sl (List.map c45 x.snd.snd.snd.snd.snd.fst), .sl (List.map c3 x.snd.snd.snd.snd.snd.snd.fst), .sl (List.map c104 x.snd.snd.snd.snd.snd.snd.snd.fst), .sl (List.map c81 x.snd.snd.snd.snd.snd.snd.snd.snd.fst)]⟩), (4, ⟨0, 29, .var [.nl, .nl, .nl, .nl]⟩), (6, ⟨0, 29, .var [.own 5600 0, .sl (List.map c3 x.snd.snd.snd.snd.snd.snd.snd.snd.snd.fst), .sl (List.map c104 x.snd.snd.snd.snd.snd.snd.snd.snd.snd.snd.fst), .nl]⟩), (5600, ⟨0, 45, .row 4 (List.map c45 x.snd.snd.snd.snd.snd.snd.snd.snd.snd.snd.snd)⟩)]⟩) (fun x ↦ decVl a x.fst x.snd.fst x.snd.snd.fst x.snd.snd.snd.fst x.snd.snd.snd.snd.fst x.snd.snd.snd.snd.snd.fst x.snd.snd.snd.snd.snd.snd.fst x.snd.snd.snd.snd.snd.snd.snd.fst x.snd.snd.snd.snd.snd.snd.snd.snd.fst x.snd.snd.snd.snd.snd.snd.snd.snd.snd.fst x.snd.snd.snd.snd.snd.snd.snd.snd.snd.snd.fst x.snd.snd.snd.snd.snd.snd.snd.snd.snd.snd.snd) (fun x ↦ invVl a b x.fst x.snd.fst x.snd.snd.fst x.snd.snd.snd.fst x.snd.snd.snd.snd.fst x.snd.snd.snd.snd.snd.fst x.snd.snd.snd.snd.snd.snd.fst x.snd.snd.snd.snd.snd.snd.snd.fst x.snd.snd.snd.snd.snd.snd.snd.snd.fst x.snd.snd.snd.snd.snd.snd.snd.snd.snd.fst x.snd.snd.snd.snd.snd.snd.snd.snd.snd.snd.fst x.snd.snd.snd.snd.snd.snd.snd.snd.snd.snd.snd) [2, 3, 4, 6, 7] [2, 3, 4, 6, 5600] (((0:Int), a.adds, a.gone.vec, a.gone.cloud, a.recs, b.adds, b.gone.vec, b.gone.cloud, b.recs, (minusP a.gone b.gone).vec, (minusP a.gone b.gone).cloud, [])) (by kernel_rfl) (by kernel_rfl) (show invVl a b (0:Int) a.adds a.gone.vec a.gone.cloud a.recs b.adds b.gone.vec b.gone.cloud b.recs (minusP a.gone b.gone).vec (minusP a.gone b.gone).cloud [] from ?g10) ?_; rotate_left 1
 rintro ⟨i_3, x_4, x_5, x_6, x_7, y_8, y_9, y_10, y_11, gv_12, gc_13, o_14⟩ h_15
 obtain ⟨h_16, h_17, h_18, h_19, h_20, h_21, h_22⟩ : sameAB a b x_4 x_5 x_6 x_7 y_8 y_9 y_10 y_11 ∧ gv_12 = (minusP a.gone b.gone).vec ∧ gc_13 = (minusP a.gone b.gone).cloud ∧ (0:Int) ≤ i_3 ∧ i_3 ≤ (↑a.adds.length:Int) ∧ (↑o_14.length:Int) ≤ i_3 ∧ isLe a b i_3 o_14 := h_15
 refine sq ?_
 refine sq ?_
 refine rg (A := _ ∧ (AV.b (decide (i_3 < (↑x_4.length:Int))) = AV.b (decide (i_3 < (↑x_4.length:Int))))) cx [(3, { tell := some (.i .i64 ((↑x_4.length:Int))) }), (4, { tell := some (.b (decide (i_3 < (↑x_4.length:Int)))) })] [2, 3, 4, 6, 7, 28] [2, 3, 4, 6, 5600] ⟨(told_len c45 x_4), (by kernel_rfl)⟩ ?_
 refine sn ?_
 refine st_dec (i_3 < (↑x_4.length:Int)) (by kernel_rfl) (by kernel_rfl) (fun h_23 => ?_) (fun h_23 => ?_)
 refine st_skip (by kernel_rfl) ?_
 refine sn (sq ?_)
 refine st_block 1 (by kernel_rfl) ?_
 refine sq ?_
 refine ra (A := ((0:Int) ≤ i_3) ∧ ((List.map c45 x_4)[i_3.toNat]? = some (c45 x_4[i_3.toNat]!)) ∧ ((c45 x_4[i_3.toNat]!).length = (4:Nat)) ∧ ((4:Nat) ≤ [AV.i .i64 x_4[i_3.toNat]!.dot.rep, AV.i .i64 x_4[i_3.toNat]!.dot.num, AV.s x_4[i_3.toNat]!.sku, AV.i .i64 x_4[i_3.toNat]!.qty].length) ∧ _ ∧ ((AV.b !hasE { adds := y_8, gone := { vec := y_9, cloud := y_10 : Past }, recs := y_11 : Facts }.adds x_4[i_3.toNat]!) = AV.b (decide ¬hasE { adds := y_8, gone := { vec := y_9, cloud := y_10 : Past }, recs := y_11 : Facts }.adds x_4[i_3.toNat]! = true))) cx [(4, { row := (c45 x_4[i_3.toNat]!) }), (6, { val := some (.b (hasE { adds := y_8, gone := { vec := y_9, cloud := y_10 : Past }, recs := y_11 : Facts }.adds x_4[i_3.toNat]!)) }), (7, { tell := some (.b (decide ¬hasE { adds := y_8, gone := { vec := y_9, cloud := y_10 : Past }, recs := y_11 : Facts }.adds x_4[i_3.toNat]! = true)) })] [2, 3, 4, 6, 7, 38] [2, 3, 4, 6, 5600] ⟨(by (with_reducible assumption)), (by (with_reducible refine get_map ?_; omega)), (by kernel_rfl), (by (simp only [List.length_append, List.length_cons, List.length_nil]; omega)), (con61 ({ adds := y_8, gone := { vec := y_9, cloud := y_10 : Past }, recs := y_11 : Facts }) (x_4[i_3.toNat]!)), (told_not)⟩ ?_
 refine sn ?_
 refine st_dec (¬hasE { adds := y_8, gone := { vec := y_9, cloud := y_10 : Past }, recs := y_11 : Facts }.adds x_4[i_3.toNat]! = true) (by kernel_rfl) (by kernel_rfl) (fun h_24 => ?_) (fun h_24 => ?_)
 refine ra (A := ((0:Int) ≤ i_3) ∧ ((List.map c45 x_4)[i_3.toNat]? = some (c45 x_4[i_3.toNat]!)) ∧ ((c45 x_4[i_3.toNat]!).length = (4:Nat)) ∧ ((4:Nat) ≤ [AV.i .i64 x_4[i_3.toNat]!.dot.rep, AV.i .i64 x_4[i_3.toNat]!.dot.num, AV.s x_4[i_3.toNat]!.sku, AV.i .i64 x_4[i_3.toNat]!.qty].length) ∧ (45 = (45:Nat)) ∧ ((4:Nat) = 4) ∧ ([AV.i .i64 (0:Int), AV.i .i64 (0:Int), AV.s { data := #[] : ByteArray }, AV.i .i64 (0:Int)].length = (4:Nat)) ∧ (∀ (r : List AV), r ∈ List.map c45 [x_4[i_3.toNat]!] → r.length = 4) ∧ ((List.map c45 o_14).length + (List.map c45 [x_4[i_3.toNat]!]).length ≤ maxLen) ∧ (((List.map c45 o_14).length + (List.map c45 [x_4[i_3.toNat]!]).length) * (40:Nat) ≤ (140737488355328:Nat)) ∧ (List.map c45 o_14 ++ List.map c45 [x_4[i_3.toNat]!] = List.map c45 (o_14 ++ [x_4[i_3.toNat]!]))) cx [(5, { row := (c45 x_4[i_3.toNat]!) }), (8, { rows := some (List.map c45 (o_14 ++ [x_4[i_3.toNat]!])) })] [2, 3, 4, 6, 7] [2, 3, 4, 6, 5600] ⟨(by (with_reducible assumption)), (by (with_reducible refine get_map ?_; omega)), (by kernel_rfl), (by (simp only [List.length_append, List.length_cons, List.length_nil]; omega)), (by kernel_rfl), (by kernel_rfl), (by kernel_rfl), (by (with_reducible refine len_map (fun _ => ?_) _; kernel_rfl)), ?g11, ?g12, (by (with_reducible refine app_map ?_; kernel_rfl))⟩ ?_; rotate_left 2
 refine q_blk_normal ?_
 refine sn ?_
 refine rg (A := (AV.i .i64 (IntKind.i64.wrap (i_3 + (1:Int))) = AV.i .i64 (i_3 + (1:Int)))) cx [(1, { tell := some (.i .i64 (i_3 + (1:Int))) })] [2, 3, 4, 6, 7] [2, 3, 4, 6, 5600] (told_i64 (by omega) ?g13) ?_; rotate_left 1
 refine sn ?_
 refine loop_next ((i_3 + (1:Int), x_4, x_5, x_6, x_7, y_8, y_9, y_10, y_11, gv_12, gc_13, o_14 ++ [x_4[i_3.toNat]!])) (by kernel_rfl) (show ((↑a.adds.length:Int) - (i_3 + (1:Int))).toNat < ((↑a.adds.length:Int) - i_3).toNat from ?g14) (show invVl a b (i_3 + (1:Int)) x_4 x_5 x_6 x_7 y_8 y_9 y_10 y_11 gv_12 gc_13 (o_14 ++ [x_4[i_3.toNat]!]) from ?g15); rotate_left 2
 refine st_skip (by kernel_rfl) ?_
 refine q_blk_normal ?_
 refine sn ?_
 refine rg (A := (AV.i .i64 (IntKind.i64.wrap (i_3 + (1:Int))) = AV.i .i64 (i_3 + (1:Int)))) cx [(1, { tell := some (.i .i64 (i_3 + (1:Int))) })] [2, 3, 4, 6, 7] [2, 3, 4, 6, 5600] (told_i64 (by omega) ?g16) ?_; rotate_left 1
 refine sn ?_
 refine loop_next ((i_3 + (1:Int), x_4, x_5, x_6, x_7, y_8, y_9, y_10, y_11, gv_12, gc_13, o_14)) (by kernel_rfl) (show ((↑a.adds.length:Int) - (i_3 + (1:Int))).toNat < ((↑a.adds.length:Int) - i_3).toNat from ?g17) (show invVl a b (i_3 + (1:Int)) x_4 x_5 x_6 x_7 y_8 y_9 y_10 y_11 gv_12 gc_13 o_14 from ?g18); rotate_left 2
 refine st_exit 0 (by kernel_rfl) ?_
 refine q_seq_exit ?_
 refine q_seq_exit ?_
 refine q_blk_hit ?_
 refine sn (sq ?_)
 refine sq ?_
 refine rg (A := True) cx [] [2, 3, 4, 6, 8] [2, 3, 4, 6, 5600] trivial ?_
 refine sn ?_
 refine st_block 2 (by kernel_rfl) ?_
 refine awp_cellIn 6 81 3 3 5603 (σ' := ⟨[(2, .ptr (2) (0) (0) (0)), (3, .ptr (3) (0) (0) (0)), (4, .ptr (4) (0) (0) (0)), (6, .ptr (6) (0) (0) (0)), (8, .i .i64 ((0:Int)))], [(2, ⟨0, 29, .var [.sl (List.map c45 x_4), .sl (List.map c3 x_5), .sl (List.map c104 x_6), .sl (List.map c81 x_7)]⟩), (3, ⟨0, 29, .var [.sl (List.map c45 y_8), .sl (List.map c3 y_9), .sl (List.map c104 y_10), .sl (List.map c81 y_11)]⟩), (4, ⟨0, 29, .var [.nl, .nl, .nl, .nl]⟩), (6, ⟨0, 29, .var [.own 5600 0, .sl (List.map c3 gv_12), .sl (List.map c104 gc_13), .own 5603 0]⟩), (5600, ⟨0, 45, .row 4 (List.map c45 o_14)⟩), (5603, ⟨0, 81, .row 3 (List.map c81 [])⟩)]⟩) (by kernel_rfl) ?_
 refine st_loop (X := Int × List Entry × List Int × List Span × List Record × List Entry × List Int × List Span × List Record × List Int × List Span × List Entry × List Record) (fun x => ⟨[(2, .ptr (2) (0) (0) (0)), (3, .ptr (3) (0) (0) (0)), (4, .ptr (4) (0) (0) (0)), (6, .ptr (6) (0) (0) (0)), (8, .i .i64 (x.fst))], [(2, ⟨0, 29, .var [.sl (List.map c45 x.snd.fst), .sl (List.map c3 x.snd.snd.fst), .sl (List.map c104 x.snd.snd.snd.fst), .sl (List.map c81 x.snd.snd.snd.snd.fst)]⟩), (3, ⟨0, 29, .var [.sl (List.map c45 x.snd.snd.snd.snd.snd.fst), .sl (List.map c3 x.snd.snd.snd.snd.snd.snd.fst), .sl (List.map c104 x.snd.snd.snd.snd.snd.snd.snd.fst), .sl (List.map c81 x.snd.snd.snd.snd.snd.snd.snd.snd.fst)]⟩), (4, ⟨0, 29, .var [.nl, .nl, .nl, .nl]⟩), (6, ⟨0, 29, .var [.own 5600 0, .sl (List.map c3 x.snd.snd.snd.snd.snd.snd.snd.snd.snd.fst), .sl (List.map c104 x.snd.snd.snd.snd.snd.snd.snd.snd.snd.snd.fst), .own 5603 0]⟩), (5600, ⟨0, 45, .row 4 (List.map c45 x.snd.snd.snd.snd.snd.snd.snd.snd.snd.snd.snd.fst)⟩), (5603, ⟨0, 81, .row 3 (List.map c81 x.snd.snd.snd.snd.snd.snd.snd.snd.snd.snd.snd.snd)⟩)]⟩) (fun x ↦ decVm a x.fst x.snd.fst x.snd.snd.fst x.snd.snd.snd.fst x.snd.snd.snd.snd.fst x.snd.snd.snd.snd.snd.fst x.snd.snd.snd.snd.snd.snd.fst x.snd.snd.snd.snd.snd.snd.snd.fst x.snd.snd.snd.snd.snd.snd.snd.snd.fst x.snd.snd.snd.snd.snd.snd.snd.snd.snd.fst x.snd.snd.snd.snd.snd.snd.snd.snd.snd.snd.fst x.snd.snd.snd.snd.snd.snd.snd.snd.snd.snd.snd.fst x.snd.snd.snd.snd.snd.snd.snd.snd.snd.snd.snd.snd) (fun x ↦ invVm a b x.fst x.snd.fst x.snd.snd.fst x.snd.snd.snd.fst x.snd.snd.snd.snd.fst x.snd.snd.snd.snd.snd.fst x.snd.snd.snd.snd.snd.snd.fst x.snd.snd.snd.snd.snd.snd.snd.fst x.snd.snd.snd.snd.snd.snd.snd.snd.fst x.snd.snd.snd.snd.snd.snd.snd.snd.snd.fst x.snd.snd.snd.snd.snd.snd.snd.snd.snd.snd.fst x.snd.snd.snd.snd.snd.snd.snd.snd.snd.snd.snd.fst x.snd.snd.snd.snd.snd.snd.snd.snd.snd.snd.snd.snd) [2, 3, 4, 6, 8] [2, 3, 4, 6, 5600, 5603] (((0:Int), x_4, x_5, x_6, x_7, y_8, y_9, y_10, y_11, gv_12, gc_13, o_14, [])) (by kernel_rfl) (by kernel_rfl) (show invVm a b (0:Int) x_4 x_5 x_6 x_7 y_8 y_9 y_10 y_11 gv_12 gc_13 o_14 [] from ?g19) ?_; rotate_left 1
 rintro ⟨i_25, x_26, x_27, x_28, x_29, y_30, y_31, y_32, y_33, gv_34, gc_35, o_36, q_37⟩ h_38
 obtain ⟨h_39, h_40, h_41, h_42, h_43, h_44, h_45, h_46⟩ : sameAB a b x_26 x_27 x_28 x_29 y_30 y_31 y_32 y_33 ∧ gv_34 = (minusP a.gone b.gone).vec ∧ gc_35 = (minusP a.gone b.gone).cloud ∧ o_36 = (lessV a b).adds ∧ (0:Int) ≤ i_25 ∧ i_25 ≤ (↑a.recs.length:Int) ∧ (↑q_37.length:Int) ≤ i_25 ∧ isLr a b i_25 q_37 := h_38
 refine sq ?_
 refine sq ?_
 refine rg (A := _ ∧ (AV.b (decide (i_25 < (↑x_29.length:Int))) = AV.b (decide (i_25 < (↑x_29.length:Int))))) cx [(3, { tell := some (.i .i64 ((↑x_29.length:Int))) }), (4, { tell := some (.b (decide (i_25 < (↑x_29.length:Int)))) })] [2, 3, 4, 6, 8, 53] [2, 3, 4, 6, 5600, 5603] ⟨(told_len c81 x_29), (by kernel_rfl)⟩ ?_
 refine sn ?_
 refine st_dec (i_25 < (↑x_29.length:Int)) (by kernel_rfl) (by kernel_rfl) (fun h_47 => ?_) (fun h_47 => ?_)
 refine st_skip (by kernel_rfl) ?_
 refine sn (sq ?_)
 refine st_block 3 (by kernel_rfl) ?_
 refine sq ?_
 refine ra (A := ((0:Int) ≤ i_25) ∧ ((List.map c81 x_29)[i_25.toNat]? = some (c81 x_29[i_25.toNat]!)) ∧ ((c81 x_29[i_25.toNat]!).length = (3:Nat)) ∧ ((3:Nat) ≤ [AV.s x_29[i_25.toNat]!.sku, AV.sl (List.map c3 x_29[i_25.toNat]!.past.vec), AV.sl (List.map c104 x_29[i_25.toNat]!.past.cloud)].length) ∧ _ ∧ ((AV.b !decide (x_29[i_25.toNat]! ∈ { adds := y_30, gone := { vec := y_31, cloud := y_32 : Past }, recs := y_33 : Facts }.recs)) = AV.b (decide ¬x_29[i_25.toNat]! ∈ { adds := y_30, gone := { vec := y_31, cloud := y_32 : Past }, recs := y_33 : Facts }.recs))) cx [(4, { row := (c81 x_29[i_25.toNat]!) }), (6, { val := some (.b (decide (x_29[i_25.toNat]! ∈ { adds := y_30, gone := { vec := y_31, cloud := y_32 : Past }, recs := y_33 : Facts }.recs))) }), (7, { tell := some (.b (decide ¬x_29[i_25.toNat]! ∈ { adds := y_30, gone := { vec := y_31, cloud := y_32 : Past }, recs := y_33 : Facts }.recs)) })] [2, 3, 4, 6, 8, 63] [2, 3, 4, 6, 5600, 5603] ⟨(by (with_reducible assumption)), (by (with_reducible refine get_map ?_; omega)), (by kernel_rfl), (by (simp only [List.length_append, List.length_cons, List.length_nil]; omega)), (con62 ({ adds := y_30, gone := { vec := y_31, cloud := y_32 : Past }, recs := y_33 : Facts }) (x_29[i_25.toNat]!) ?g20 ?g21), (told_notd)⟩ ?_; rotate_left 2
 refine sn ?_
 refine st_dec (¬x_29[i_25.toNat]! ∈ { adds := y_30, gone := { vec := y_31, cloud := y_32 : Past }, recs := y_33 : Facts }.recs) (by kernel_rfl) (by kernel_rfl) (fun h_48 => ?_) (fun h_48 => ?_)
 refine ra (A := ((0:Int) ≤ i_25) ∧ ((List.map c81 x_29)[i_25.toNat]? = some (c81 x_29[i_25.toNat]!)) ∧ ((c81 x_29[i_25.toNat]!).length = (3:Nat)) ∧ ((3:Nat) ≤ [AV.s x_29[i_25.toNat]!.sku, AV.sl (List.map c3 x_29[i_25.toNat]!.past.vec), AV.sl (List.map c104 x_29[i_25.toNat]!.past.cloud)].length) ∧ (81 = (81:Nat)) ∧ ((3:Nat) = 3) ∧ ([AV.s { data := #[] : ByteArray }, AV.nl, AV.nl].length = (3:Nat)) ∧ (∀ (r : List AV), r ∈ List.map c81 [x_29[i_25.toNat]!] → r.length = 3) ∧ ((List.map c81 q_37).length + (List.map c81 [x_29[i_25.toNat]!]).length ≤ maxLen) ∧ (((List.map c81 q_37).length + (List.map c81 [x_29[i_25.toNat]!]).length) * (64:Nat) ≤ (140737488355328:Nat)) ∧ (List.map c81 q_37 ++ List.map c81 [x_29[i_25.toNat]!] = List.map c81 (q_37 ++ [x_29[i_25.toNat]!]))) cx [(5, { row := (c81 x_29[i_25.toNat]!) }), (8, { rows := some (List.map c81 (q_37 ++ [x_29[i_25.toNat]!])) })] [2, 3, 4, 6, 8] [2, 3, 4, 6, 5600, 5603] ⟨(by (with_reducible assumption)), (by (with_reducible refine get_map ?_; omega)), (by kernel_rfl), (by (simp only [List.length_append, List.length_cons, List.length_nil]; omega)), (by kernel_rfl), (by kernel_rfl), (by kernel_rfl), (by (with_reducible refine len_map (fun _ => ?_) _; kernel_rfl)), ?g22, ?g23, (by (with_reducible refine app_map ?_; kernel_rfl))⟩ ?_; rotate_left 2
 refine q_blk_normal ?_
 refine sn ?_
 refine rg (A := (AV.i .i64 (IntKind.i64.wrap (i_25 + (1:Int))) = AV.i .i64 (i_25 + (1:Int)))) cx [(1, { tell := some (.i .i64 (i_25 + (1:Int))) })] [2, 3, 4, 6, 8] [2, 3, 4, 6, 5600, 5603] (told_i64 (by omega) ?g24) ?_; rotate_left 1
 refine sn ?_
 refine loop_next ((i_25 + (1:Int), x_26, x_27, x_28, x_29, y_30, y_31, y_32, y_33, gv_34, gc_35, o_36, q_37 ++ [x_29[i_25.toNat]!])) (by kernel_rfl) (show ((↑a.recs.length:Int) - (i_25 + (1:Int))).toNat < ((↑a.recs.length:Int) - i_25).toNat from ?g25) (show invVm a b (i_25 + (1:Int)) x_26 x_27 x_28 x_29 y_30 y_31 y_32 y_33 gv_34 gc_35 o_36 (q_37 ++ [x_29[i_25.toNat]!]) from ?g26); rotate_left 2
 refine st_skip (by kernel_rfl) ?_
 refine q_blk_normal ?_
 refine sn ?_
 refine rg (A := (AV.i .i64 (IntKind.i64.wrap (i_25 + (1:Int))) = AV.i .i64 (i_25 + (1:Int)))) cx [(1, { tell := some (.i .i64 (i_25 + (1:Int))) })] [2, 3, 4, 6, 8] [2, 3, 4, 6, 5600, 5603] (told_i64 (by omega) ?g27) ?_; rotate_left 1
 refine sn ?_
 refine loop_next ((i_25 + (1:Int), x_26, x_27, x_28, x_29, y_30, y_31, y_32, y_33, gv_34, gc_35, o_36, q_37)) (by kernel_rfl) (show ((↑a.recs.length:Int) - (i_25 + (1:Int))).toNat < ((↑a.recs.length:Int) - i_25).toNat from ?g28) (show invVm a b (i_25 + (1:Int)) x_26 x_27 x_28 x_29 y_30 y_31 y_32 y_33 gv_34 gc_35 o_36 q_37 from ?g29); rotate_left 2
 refine st_exit 2 (by kernel_rfl) ?_
 refine q_seq_exit ?_
 refine q_seq_exit ?_
 refine q_blk_hit ?_
 refine sn (sq ?_)
 refine awp_norm [5600, 5603] [2, 3, 4, 6, 8, 53] [2, 3, 4, 6] (σ' := ⟨[(2, .ptr (2) (0) (0) (0)), (3, .ptr (3) (0) (0) (0)), (4, .ptr (4) (0) (0) (0)), (6, .ptr (6) (0) (0) (0)), (8, .i .i64 (i_25)), (53, .b (decide (i_25 < (↑x_29.length:Int))))], [(2, ⟨0, 29, .var [.sl (List.map c45 x_26), .sl (List.map c3 x_27), .sl (List.map c104 x_28), .sl (List.map c81 x_29)]⟩), (3, ⟨0, 29, .var [.sl (List.map c45 y_30), .sl (List.map c3 y_31), .sl (List.map c104 y_32), .sl (List.map c81 y_33)]⟩), (4, ⟨0, 29, .var [.nl, .nl, .nl, .nl]⟩), (6, ⟨0, 29, .var [.sl (List.map c45 o_36), .sl (List.map c3 gv_34), .sl (List.map c104 gc_35), .sl (List.map c81 q_37)]⟩)]⟩) (by kernel_rfl) ?_
 refine rg (A := True) cx [] [4, 5] [4] trivial ?_
 refine sn ?_
 refine st_ret (by kernel_rfl) ?_
 refine q_ret (r := .tup [.agg [.sl (List.map c45 o_36), .sl (List.map c3 gv_34), .sl (List.map c104 gc_35), .sl (List.map c81 q_37)], .i .i64 ((0:Int))]) (obl := []) (by kernel_rfl) trivial (AVle.tup (ZLe.cons (AVle.eq (show AV.agg [AV.sl (List.map c45 o_36), AV.sl (List.map c3 gv_34), AV.sl (List.map c104 gc_35), AV.sl (List.map c81 q_37)] = AV.agg [AV.sl (List.map c45 (lesV a b).fst.adds), AV.sl (List.map c3 (lesV a b).fst.gone.vec), AV.sl (List.map c104 (lesV a b).fst.gone.cloud), AV.sl (List.map c81 (lesV a b).fst.recs)] from ?g31)) (ZLe.cons (AVle.eq (show AV.i .i64 (0:Int) = AV.i .i64 (lesV a b).snd from ?g30)) ZLe.nil))); rotate_left 2
 revert h_1; rotate_left
 revert h_1; rotate_left
 revert h_1; rotate_left
 revert h_2; rotate_left
 revert h_2; rotate_left
 revert h_2; rotate_left
 revert h_2; rotate_left
 revert h_2; rotate_left
 revert h_2; rotate_left
 revert h_2; rotate_left
 revert h_2; rotate_left
 revert h_2 i_3 x_4 x_5 x_6 x_7 y_8 y_9 y_10 y_11 gv_12 gc_13 o_14 h_16 h_17 h_18 h_19 h_20 h_21 h_22 h_23 h_24; rotate_left
 revert h_2 i_3 x_4 x_5 x_6 x_7 y_8 y_9 y_10 y_11 gv_12 gc_13 o_14 h_16 h_17 h_18 h_19 h_20 h_21 h_22 h_23 h_24; rotate_left
 revert h_2 i_3 x_4 x_5 x_6 x_7 y_8 y_9 y_10 y_11 gv_12 gc_13 o_14 h_16 h_17 h_18 h_19 h_20 h_21 h_22 h_23 h_24; rotate_left
 revert h_2 i_3 x_4 x_5 x_6 x_7 y_8 y_9 y_10 y_11 gv_12 gc_13 o_14 h_16 h_17 h_18 h_19 h_20 h_21 h_22 h_23 h_24; rotate_left
 revert h_2 i_3 x_4 x_5 x_6 x_7 y_8 y_9 y_10 y_11 gv_12 gc_13 o_14 h_16 h_17 h_18 h_19 h_20 h_21 h_22 h_23 h_24; rotate_left
 revert h_2 i_3 x_4 x_5 x_6 x_7 y_8 y_9 y_10 y_11 gv_12 gc_13 o_14 h_16 h_17 h_18 h_19 h_20 h_21 h_22 h_23 h_24; rotate_left
 revert h_2 i_3 x_4 x_5 x_6 x_7 y_8 y_9 y_10 y_11 gv_12 gc_13 o_14 h_16 h_17 h_18 h_19 h_20 h_21 h_22 h_23 h_24; rotate_left
 revert h_2 i_3 x_4 x_5 x_6 x_7 y_8 y_9 y_10 y_11 gv_12 gc_13 o_14 h_16 h_17 h_18 h_19 h_20 h_21 h_22 h_23 h_24; rotate_left
 revert h_2 i_3 x_4 x_5 x_6 x_7 y_8 y_9 y_10 y_11 gv_12 gc_13 o_14 h_16 h_17 h_18 h_19 h_20 h_21 h_22 h_23; rotate_left
 revert h_2 i_3 x_4 x_5 x_6 x_7 y_8 y_9 y_10 y_11 gv_12 gc_13 o_14 h_16 h_17 h_18 h_19 h_20 h_21 h_22 h_23 i_25 x_26 x_27 x_28 x_29 y_30 y_31 y_32 y_33 gv_34 gc_35 o_36 q_37 h_39 h_40 h_41 h_42 h_43 h_44 h_45 h_46 h_47; rotate_left
 revert h_2 i_3 x_4 x_5 x_6 x_7 y_8 y_9 y_10 y_11 gv_12 gc_13 o_14 h_16 h_17 h_18 h_19 h_20 h_21 h_22 h_23 i_25 x_26 x_27 x_28 x_29 y_30 y_31 y_32 y_33 gv_34 gc_35 o_36 q_37 h_39 h_40 h_41 h_42 h_43 h_44 h_45 h_46 h_47; rotate_left
 revert h_2 i_3 x_4 x_5 x_6 x_7 y_8 y_9 y_10 y_11 gv_12 gc_13 o_14 h_16 h_17 h_18 h_19 h_20 h_21 h_22 h_23 i_25 x_26 x_27 x_28 x_29 y_30 y_31 y_32 y_33 gv_34 gc_35 o_36 q_37 h_39 h_40 h_41 h_42 h_43 h_44 h_45 h_46 h_47 h_48; rotate_left
 revert h_2 i_3 x_4 x_5 x_6 x_7 y_8 y_9 y_10 y_11 gv_12 gc_13 o_14 h_16 h_17 h_18 h_19 h_20 h_21 h_22 h_23 i_25 x_26 x_27 x_28 x_29 y_30 y_31 y_32 y_33 gv_34 gc_35 o_36 q_37 h_39 h_40 h_41 h_42 h_43 h_44 h_45 h_46 h_47 h_48; rotate_left
 revert h_2 i_3 x_4 x_5 x_6 x_7 y_8 y_9 y_10 y_11 gv_12 gc_13 o_14 h_16 h_17 h_18 h_19 h_20 h_21 h_22 h_23 i_25 x_26 x_27 x_28 x_29 y_30 y_31 y_32 y_33 gv_34 gc_35 o_36 q_37 h_39 h_40 h_41 h_42 h_43 h_44 h_45 h_46 h_47 h_48; rotate_left
 revert h_2 i_3 x_4 x_5 x_6 x_7 y_8 y_9 y_10 y_11 gv_12 gc_13 o_14 h_16 h_17 h_18 h_19 h_20 h_21 h_22 h_23 i_25 x_26 x_27 x_28 x_29 y_30 y_31 y_32 y_33 gv_34 gc_35 o_36 q_37 h_39 h_40 h_41 h_42 h_43 h_44 h_45 h_46 h_47 h_48; rotate_left
 revert h_2 i_3 x_4 x_5 x_6 x_7 y_8 y_9 y_10 y_11 gv_12 gc_13 o_14 h_16 h_17 h_18 h_19 h_20 h_21 h_22 h_23 i_25 x_26 x_27 x_28 x_29 y_30 y_31 y_32 y_33 gv_34 gc_35 o_36 q_37 h_39 h_40 h_41 h_42 h_43 h_44 h_45 h_46 h_47 h_48; rotate_left
 revert h_2 i_3 x_4 x_5 x_6 x_7 y_8 y_9 y_10 y_11 gv_12 gc_13 o_14 h_16 h_17 h_18 h_19 h_20 h_21 h_22 h_23 i_25 x_26 x_27 x_28 x_29 y_30 y_31 y_32 y_33 gv_34 gc_35 o_36 q_37 h_39 h_40 h_41 h_42 h_43 h_44 h_45 h_46 h_47 h_48; rotate_left
 revert h_2 i_3 x_4 x_5 x_6 x_7 y_8 y_9 y_10 y_11 gv_12 gc_13 o_14 h_16 h_17 h_18 h_19 h_20 h_21 h_22 h_23 i_25 x_26 x_27 x_28 x_29 y_30 y_31 y_32 y_33 gv_34 gc_35 o_36 q_37 h_39 h_40 h_41 h_42 h_43 h_44 h_45 h_46 h_47 h_48; rotate_left
 revert h_2 i_3 x_4 x_5 x_6 x_7 y_8 y_9 y_10 y_11 gv_12 gc_13 o_14 h_16 h_17 h_18 h_19 h_20 h_21 h_22 h_23 i_25 x_26 x_27 x_28 x_29 y_30 y_31 y_32 y_33 gv_34 gc_35 o_36 q_37 h_39 h_40 h_41 h_42 h_43 h_44 h_45 h_46 h_47 h_48; rotate_left
 revert h_2 i_3 x_4 x_5 x_6 x_7 y_8 y_9 y_10 y_11 gv_12 gc_13 o_14 h_16 h_17 h_18 h_19 h_20 h_21 h_22 h_23 i_25 x_26 x_27 x_28 x_29 y_30 y_31 y_32 y_33 gv_34 gc_35 o_36 q_37 h_39 h_40 h_41 h_42 h_43 h_44 h_45 h_46 h_47; rotate_left
 revert h_2 i_3 x_4 x_5 x_6 x_7 y_8 y_9 y_10 y_11 gv_12 gc_13 o_14 h_16 h_17 h_18 h_19 h_20 h_21 h_22 h_23 i_25 x_26 x_27 x_28 x_29 y_30 y_31 y_32 y_33 gv_34 gc_35 o_36 q_37 h_39 h_40 h_41 h_42 h_43 h_44 h_45 h_46 h_47; rotate_left
 case g0 => intro h; exact ha.1
 case g1 => intro h; exact ha.1
 case g2 => intro h; exact hb.1
 case g3 => intro h; rw [les_no h]
 case g4 => intro h; rw [les_no h]; rfl
 case g5 => intro h; rw [les_no h]; rfl
 case g6 => intro h; rw [les_no h]; rfl
 case g7 => intro h; rw [les_no h]; rfl
 case g8 => intro h; exact ha.1.1.1
 case g9 => intro h; exact hb.1.1.1
 case g10 => intro h; exact ⟨⟨rfl, rfl, rfl, rfl, rfl, rfl, rfl, rfl⟩, rfl, rfl, by omega, by omega, by simp, by simp [isLe]⟩
 case g11 => intro h i x1 x2 x3 x4 y1 y2 y3 y4 gv gc o s c1 c2 k0 k1 k2 k3 k4 k5; have := hlen h; simp only [List.length_map, List.length_cons, List.length_nil, Go.maxLen]; omega
 case g12 => intro h i x1 x2 x3 x4 y1 y2 y3 y4 gv gc o s c1 c2 k0 k1 k2 k3 k4 k5; have := hlen h; simp only [List.length_map, List.length_cons, List.length_nil]; omega
 case g13 => intro h i x1 x2 x3 x4 y1 y2 y3 y4 gv gc o s c1 c2 k0 k1 k2 k3 k4 k5; have := hlen h; omega
 case g14 => intro h i x1 x2 x3 x4 y1 y2 y3 y4 gv gc o s c1 c2 k0 k1 k2 k3 k4 k5; rw [s.1] at k4; omega
 case g15 =>
  intro h i x1 x2 x3 x4 y1 y2 y3 y4 gv gc o s c1 c2 k0 k1 k2 k3 k4 k5
  have s1 := s.1
  have e := s.2.2.2.2.1
  rw [s1] at k4 k5 ⊢
  refine ⟨⟨rfl, s.2⟩, c1, c2, by omega, by omega, by rw [List.length_append, List.length_singleton]; omega, ?_⟩
  have k5 : ¬ hasE y1 a.adds[i.toNat]! = true := k5
  rw [e] at k5
  unfold isLe
  rw [filt_next k0 k4 k3, if_pos (by rw [Bool.not_eq_true', ← Bool.not_eq_true]; exact k5)]
 case g16 => intro h i x1 x2 x3 x4 y1 y2 y3 y4 gv gc o s c1 c2 k0 k1 k2 k3 k4 k5; have := hlen h; omega
 case g17 => intro h i x1 x2 x3 x4 y1 y2 y3 y4 gv gc o s c1 c2 k0 k1 k2 k3 k4 k5; rw [s.1] at k4; omega
 case g18 =>
  intro h i x1 x2 x3 x4 y1 y2 y3 y4 gv gc o s c1 c2 k0 k1 k2 k3 k4 k5
  have s1 := s.1
  have e := s.2.2.2.2.1
  rw [s1] at k4 k5
  refine ⟨s, c1, c2, by omega, by omega, by omega, ?_⟩
  have k5 : ¬ ¬ hasE y1 a.adds[i.toNat]! = true := k5
  rw [e] at k5
  unfold isLe
  rw [filt_next k0 k4 k3, if_neg (by rw [Bool.not_eq_true', ← Bool.not_eq_true]; exact k5), List.append_nil]
 case g19 =>
  intro h i x1 x2 x3 x4 y1 y2 y3 y4 gv gc o s c1 c2 k0 k1 k2 k3 k4
  rw [s.1] at k4
  refine ⟨s, c1, c2, ?_, by omega, by omega, by simp, by simp [isLr]⟩
  unfold isLe at k3
  rw [k3, List.take_of_length_le (by omega)]
  rfl
 case g20 => intro h i x1 x2 x3 x4 y1 y2 y3 y4 gv gc o s c1 c2 k0 k1 k2 k3 k4 n u1 u2 u3 u4 w1 w2 w3 w4 hv hc z q t d1 d2 d3 m0 m1 m2 m3 m4; show w4.length ≤ _; rw [t.2.2.2.2.2.2.2]; omega
 case g21 => intro h i x1 x2 x3 x4 y1 y2 y3 y4 gv gc o s c1 c2 k0 k1 k2 k3 k4 n u1 u2 u3 u4 w1 w2 w3 w4 hv hc z q t d1 d2 d3 m0 m1 m2 m3 m4; show szQ w4; rw [t.2.2.2.2.2.2.2]; exact hb.1.2
 case g22 => intro h i x1 x2 x3 x4 y1 y2 y3 y4 gv gc o s c1 c2 k0 k1 k2 k3 k4 n u1 u2 u3 u4 w1 w2 w3 w4 hv hc z q t d1 d2 d3 m0 m1 m2 m3 m4 m5; rw [t.2.2.2.1] at m4; simp only [List.length_map, List.length_cons, List.length_nil, Go.maxLen]; omega
 case g23 => intro h i x1 x2 x3 x4 y1 y2 y3 y4 gv gc o s c1 c2 k0 k1 k2 k3 k4 n u1 u2 u3 u4 w1 w2 w3 w4 hv hc z q t d1 d2 d3 m0 m1 m2 m3 m4 m5; rw [t.2.2.2.1] at m4; simp only [List.length_map, List.length_cons, List.length_nil]; omega
 case g24 => intro h i x1 x2 x3 x4 y1 y2 y3 y4 gv gc o s c1 c2 k0 k1 k2 k3 k4 n u1 u2 u3 u4 w1 w2 w3 w4 hv hc z q t d1 d2 d3 m0 m1 m2 m3 m4 m5; rw [t.2.2.2.1] at m4; omega
 case g25 => intro h i x1 x2 x3 x4 y1 y2 y3 y4 gv gc o s c1 c2 k0 k1 k2 k3 k4 n u1 u2 u3 u4 w1 w2 w3 w4 hv hc z q t d1 d2 d3 m0 m1 m2 m3 m4 m5; rw [t.2.2.2.1] at m4; omega
 case g26 =>
  intro h i x1 x2 x3 x4 y1 y2 y3 y4 gv gc o s c1 c2 k0 k1 k2 k3 k4 n u1 u2 u3 u4 w1 w2 w3 w4 hv hc z q t d1 d2 d3 m0 m1 m2 m3 m4 m5
  have e := t.2.2.2.1
  have e8 := t.2.2.2.2.2.2.2
  have m5 : ¬ u4[n.toNat]! ∈ w4 := m5
  rw [e8] at m5
  rw [e] at m4 m5
  refine ⟨t, d1, d2, d3, by omega, by omega, by rw [List.length_append, List.length_singleton]; omega, ?_⟩
  rw [e]
  unfold isLr
  rw [filt_next m0 m4 m3, if_pos (by rw [decide_eq_true_iff]; exact m5)]
 case g27 => intro h i x1 x2 x3 x4 y1 y2 y3 y4 gv gc o s c1 c2 k0 k1 k2 k3 k4 n u1 u2 u3 u4 w1 w2 w3 w4 hv hc z q t d1 d2 d3 m0 m1 m2 m3 m4 m5; rw [t.2.2.2.1] at m4; omega
 case g28 => intro h i x1 x2 x3 x4 y1 y2 y3 y4 gv gc o s c1 c2 k0 k1 k2 k3 k4 n u1 u2 u3 u4 w1 w2 w3 w4 hv hc z q t d1 d2 d3 m0 m1 m2 m3 m4 m5; rw [t.2.2.2.1] at m4; omega
 case g29 =>
  intro h i x1 x2 x3 x4 y1 y2 y3 y4 gv gc o s c1 c2 k0 k1 k2 k3 k4 n u1 u2 u3 u4 w1 w2 w3 w4 hv hc z q t d1 d2 d3 m0 m1 m2 m3 m4 m5
  have e := t.2.2.2.1
  have e8 := t.2.2.2.2.2.2.2
  have m5 : ¬ ¬ u4[n.toNat]! ∈ w4 := m5
  rw [e8] at m5
  rw [e] at m4 m5
  refine ⟨t, d1, d2, d3, by omega, by omega, by omega, ?_⟩
  unfold isLr
  rw [filt_next m0 m4 m3, if_neg (by rw [decide_eq_true_iff]; exact m5), List.append_nil]
 case g30 => intro h i x1 x2 x3 x4 y1 y2 y3 y4 gv gc o s c1 c2 k0 k1 k2 k3 k4 n u1 u2 u3 u4 w1 w2 w3 w4 hv hc z q t d1 d2 d3 m0 m1 m2 m3 m4; rw [(les_ok h).2.2]
 case g31 =>
  intro h i x1 x2 x3 x4 y1 y2 y3 y4 gv gc o s c1 c2 k0 k1 k2 k3 k4 n u1 u2 u3 u4 w1 w2 w3 w4 hv hc z q t d1 d2 d3 m0 m1 m2 m3 m4
  rw [t.2.2.2.1] at m4
  have e : q = (lessV a b).recs := by
   unfold isLr at m3
   rw [m3, List.take_of_length_le (by omega)]
   rfl
  rw [d1, d2, d3, e, (les_ok h).2.2]
  rfl
theorem con18 (a b : Facts) (ha : szG a) (hb : szG b) : Con Tryz.prog 18 [.agg (c29 a), .agg (c29 b)] (.tup [.b (withV a b).1, .i .i64 (withV a b).2]) :=
 by
 have hg : (lesV a b).1.gone.cloud.length * 16 ≤ 140737488350000 := by
  unfold lesV
  split
  ·exact (less_sz ha.1).1.1
  ·simp [zeroF]
 have e := with_les a b
 refine st_con tab_ok (by kernel_rfl) [.tmp 4, .tmp 5] 32 Go.Proofs.Tryz.func18 (by kernel_rfl) (by kernel_rfl) ?_
 intro e0 cx
 refine sq ?_
 refine rg (A := True) cx [] [2, 3] [2, 3] trivial ?_
 refine sn (sq ?_)
 refine rg (A := _) cx [(2, { val := some (.tup [.agg [.sl (List.map c45 (lesV a b).fst.adds), .sl (List.map c3 (lesV a b).fst.gone.vec), .sl (List.map c104 (lesV a b).fst.gone.cloud), .sl (List.map c81 (lesV a b).fst.recs)], .i .i64 ((lesV a b).snd)]) })] [6, 7] [6] (con20 (a) (b) (by (with_reducible assumption)) (by (with_reducible assumption))) ?_
 refine sn (sq ?_)
 refine sq ?_
 refine rg (A := (AV.b ((lesV a b).snd != (0:Int)) = AV.b (decide ¬(lesV a b).snd = (0:Int)))) cx [(1, { tell := some (.b (decide ¬(lesV a b).snd = (0:Int))) })] [6, 7, 15] [6] (told_neq) ?_
 refine sn ?_
 refine st_dec (¬(lesV a b).snd = (0:Int)) (by kernel_rfl) (by kernel_rfl) (fun h_0 => ?_) (fun h_0 => ?_)
 refine sq ?_
 refine rg (A := True) cx [] [4, 5] [] trivial ?_
 refine sn ?_
 refine st_ret (by kernel_rfl) ?_
 refine q_seq_ret ?_
 refine q_ret (r := .tup [.b (false), .i .i64 ((lesV a b).snd)]) (obl := []) (by kernel_rfl) trivial (AVle.tup (ZLe.cons (AVle.eq (show AV.b false = AV.b (withV a b).fst from ?g1)) (ZLe.cons (AVle.eq (show AV.i .i64 (lesV a b).snd = AV.i .i64 (withV a b).snd from ?g0)) ZLe.nil))); rotate_left 2
 refine st_skip (by kernel_rfl) ?_
 refine sn (sq ?_)
 refine st_join (σ' := ⟨[(4, .b (decide ((↑(lesV a b).fst.adds.length:Int) = (0:Int) ∧ sizeP (lesV a b).fst.gone = (0:Int) ∧ (↑(lesV a b).fst.recs.length:Int) = (0:Int)))), (5, .i .i64 ((0:Int)))], []⟩) ?_ ?_
 refine st_split ((↑(lesV a b).fst.adds.length:Int) = (0:Int)) (fun h_2 => ?_) (fun h_2 => ?_)
 refine st_split (sizeP (lesV a b).fst.gone = (0:Int)) (fun h_3 => ?_) (fun h_3 => ?_)
 refine rg (A := _ ∧ _ ∧ _ ∧ _ ∧ _ ∧ (AV.b ((↑(lesV a b).fst.recs.length:Int) == (0:Int)) = AV.b (decide ((↑(lesV a b).fst.recs.length:Int) = (0:Int)))) ∧ (AV.b (decide ((↑(lesV a b).fst.recs.length:Int) = (0:Int))) = AV.b (decide ((↑(lesV a b).fst.adds.length:Int) = (0:Int) ∧ sizeP (lesV a b).fst.gone = (0:Int) ∧ (↑(lesV a b).fst.recs.length:Int) = (0:Int))))) cx [(2, { tell := some (.i .i64 ((↑(lesV a b).fst.adds.length:Int))) }), (3, { tell := some (.b (true)) }), (7, { val := some (.b (decide (sizeP (lesV a b).fst.gone = (0:Int)))), tell := some (.b (true)) }), (12, { tell := some (.i .i64 ((↑(lesV a b).fst.recs.length:Int))) }), (13, { tell := some (.b (decide ((↑(lesV a b).fst.recs.length:Int) = (0:Int)))) }), (15, { tell := some (.b (decide ((↑(lesV a b).fst.adds.length:Int) = (0:Int) ∧ sizeP (lesV a b).fst.gone = (0:Int) ∧ (↑(lesV a b).fst.recs.length:Int) = (0:Int)))) })] [4, 5] [] ⟨(told_len c45 (lesV a b).fst.adds), (told_true h_2), (told_true h_3), (con59 ((lesV a b).fst.gone) ?g2), (told_len c81 (lesV a b).fst.recs), (by kernel_rfl), (by simp only [eq_true h_2, eq_true h_3, told_simp1, told_simp2, and_true, true_and, and_false, false_and, or_true, true_or, or_false, false_or, not_true_eq_false, not_false_eq_true, decide_true, decide_false, Bool.decide_eq_true])⟩ ?_; rotate_left 1
 exact ⟨rfl, by kernel_rfl⟩
 refine rg (A := _ ∧ _ ∧ _ ∧ _ ∧ (AV.b false = AV.b (decide ((↑(lesV a b).fst.adds.length:Int) = (0:Int) ∧ sizeP (lesV a b).fst.gone = (0:Int) ∧ (↑(lesV a b).fst.recs.length:Int) = (0:Int))))) cx [(2, { tell := some (.i .i64 ((↑(lesV a b).fst.adds.length:Int))) }), (3, { tell := some (.b (true)) }), (7, { val := some (.b (decide (sizeP (lesV a b).fst.gone = (0:Int)))), tell := some (.b (false)) }), (15, { tell := some (.b (decide ((↑(lesV a b).fst.adds.length:Int) = (0:Int) ∧ sizeP (lesV a b).fst.gone = (0:Int) ∧ (↑(lesV a b).fst.recs.length:Int) = (0:Int)))) })] [4, 5] [] ⟨(told_len c45 (lesV a b).fst.adds), (told_true h_2), (told_false h_3), (con59 ((lesV a b).fst.gone) ?g3), (by simp only [eq_true h_2, eq_false h_3, told_simp1, told_simp2, and_true, true_and, and_false, false_and, or_true, true_or, or_false, false_or, not_true_eq_false, not_false_eq_true, decide_true, decide_false, Bool.decide_eq_true])⟩ ?_; rotate_left 1
 exact ⟨rfl, by kernel_rfl⟩
 refine rg (A := _ ∧ _ ∧ (AV.b false = AV.b (decide ((↑(lesV a b).fst.adds.length:Int) = (0:Int) ∧ sizeP (lesV a b).fst.gone = (0:Int) ∧ (↑(lesV a b).fst.recs.length:Int) = (0:Int))))) cx [(2, { tell := some (.i .i64 ((↑(lesV a b).fst.adds.length:Int))) }), (3, { tell := some (.b (false)) }), (15, { tell := some (.b (decide ((↑(lesV a b).fst.adds.length:Int) = (0:Int) ∧ sizeP (lesV a b).fst.gone = (0:Int) ∧ (↑(lesV a b).fst.recs.length:Int) = (0:Int)))) })] [4, 5] [] ⟨(told_len c45 (lesV a b).fst.adds), (told_false h_2), (by simp only [eq_false h_2, told_simp1, told_simp2, and_true, true_and, and_false, false_and, or_true, true_or, or_false, false_or, not_true_eq_false, not_false_eq_true, decide_true, decide_false, Bool.decide_eq_true])⟩ ?_
 exact ⟨rfl, by kernel_rfl⟩
 refine sn ?_
 refine st_ret (by kernel_rfl) ?_
 refine q_ret (r := .tup [.b (decide ((↑(lesV a b).fst.adds.length:Int) = (0:Int) ∧ sizeP (lesV a b).fst.gone = (0:Int) ∧ (↑(lesV a b).fst.recs.length:Int) = (0:Int))), .i .i64 ((0:Int))]) (obl := []) (by kernel_rfl) trivial (AVle.tup (ZLe.cons (AVle.eq (show AV.b (decide ((↑(lesV a b).fst.adds.length:Int) = (0:Int) ∧ sizeP (lesV a b).fst.gone = (0:Int) ∧ (↑(lesV a b).fst.recs.length:Int) = (0:Int))) = AV.b (withV a b).fst from ?g5)) (ZLe.cons (AVle.eq (show AV.i .i64 (0:Int) = AV.i .i64 (withV a b).snd from ?g4)) ZLe.nil))); rotate_left 2
 revert h_0; rotate_left
 revert h_0; rotate_left
 revert h_0 h_2 h_3; rotate_left
 revert h_0 h_2 h_3; rotate_left
 revert h_0; rotate_left
 revert h_0; rotate_left
 case g0 => intro h; rw [e, if_neg h]
 case g1 => intro h; rw [e, if_neg h]
 case g2 => intros; exact hg
 case g3 => intros; exact hg
 case g4 => intro h; rw [e, if_pos (Classical.not_not.1 h)]
 case g5 => intro h; rw [e, if_pos (Classical.not_not.1 h)]; rfl
theorem con19 (a b : Facts) (ha : szG a) (hb : szG b) : Con Tryz.prog 19 [.agg (c29 a), .agg (c29 b)] (.tup [.i .i64 (ordV a b).1, .i .i64 (ordV a b).2]) :=
 by
 have e := ord_with a b
 have f : ∀ {x : Bool}, x = false → ¬ x = true := fun {x} h => by rw [h]; simp
 refine st_con tab_ok (by kernel_rfl) [.tmp 4, .tmp 5] 34 Go.Proofs.Tryz.func19 (by kernel_rfl) (by kernel_rfl) ?_
 intro e0 cx
 refine sq ?_
 refine rg (A := True) cx [] [2, 3] [2, 3] trivial ?_
 refine sn (sq ?_)
 refine rg (A := _) cx [(2, { val := some (.tup [.b ((withV a b).fst), .i .i64 ((withV a b).snd)]) })] [2, 3, 6, 7] [2, 3] (con18 (a) (b) (by (with_reducible assumption)) (by (with_reducible assumption))) ?_
 refine sn (sq ?_)
 refine sq ?_
 refine rg (A := (AV.b ((withV a b).snd != (0:Int)) = AV.b (decide ¬(withV a b).snd = (0:Int)))) cx [(1, { tell := some (.b (decide ¬(withV a b).snd = (0:Int))) })] [2, 3, 6, 7, 17] [2, 3] (told_neq) ?_
 refine sn ?_
 refine st_dec (¬(withV a b).snd = (0:Int)) (by kernel_rfl) (by kernel_rfl) (fun h_0 => ?_) (fun h_0 => ?_)
 refine sq ?_
 refine rg (A := True) cx [] [4, 5] [] trivial ?_
 refine sn ?_
 refine st_ret (by kernel_rfl) ?_
 refine q_seq_ret ?_
 refine q_ret (r := .tup [.i .i64 ((0:Int)), .i .i64 ((withV a b).snd)]) (obl := []) (by kernel_rfl) trivial (AVle.tup (ZLe.cons (AVle.eq (show AV.i .i64 (0:Int) = AV.i .i64 (ordV a b).fst from ?g1)) (ZLe.cons (AVle.eq (show AV.i .i64 (withV a b).snd = AV.i .i64 (ordV a b).snd from ?g0)) ZLe.nil))); rotate_left 2
 refine st_skip (by kernel_rfl) ?_
 refine sn (sq ?_)
 refine rg (A := _) cx [(2, { val := some (.tup [.b ((withV b a).fst), .i .i64 ((withV b a).snd)]) })] [6, 8] [] (con18 (b) (a) (by (with_reducible assumption)) (by (with_reducible assumption))) ?_
 refine sn (sq ?_)
 refine st_block 0 (by kernel_rfl) ?_
 refine sq ?_
 refine st_join (σ' := ⟨[(6, .b ((withV a b).fst)), (8, .b ((withV b a).fst)), (25, .b (decide ((withV a b).fst = true ∧ (withV b a).fst = true)))], []⟩) ?_ ?_
 refine st_split ((withV a b).fst = true) (fun h_2 => ?_) (fun h_2 => ?_)
 refine rg (A := _ ∧ (AV.b (withV b a).fst = AV.b (decide ((withV a b).fst = true ∧ (withV b a).fst = true)))) cx [(0, { tell := some (.b (true)) }), (4, { tell := some (.b (decide ((withV a b).fst = true ∧ (withV b a).fst = true))) })] [6, 8, 25] [] ⟨(told_eqt h_2), (by simp only [eq_true h_2, told_simp1, told_simp2, and_true, true_and, and_false, false_and, or_true, true_or, or_false, false_or, not_true_eq_false, not_false_eq_true, decide_true, decide_false, Bool.decide_eq_true])⟩ ?_
 exact ⟨rfl, by kernel_rfl⟩
 refine rg (A := _ ∧ (AV.b false = AV.b (decide ((withV a b).fst = true ∧ (withV b a).fst = true)))) cx [(0, { tell := some (.b (false)) }), (4, { tell := some (.b (decide ((withV a b).fst = true ∧ (withV b a).fst = true))) })] [6, 8, 25] [] ⟨(told_eqn h_2), (by simp only [eq_false h_2, told_simp1, told_simp2, and_true, true_and, and_false, false_and, or_true, true_or, or_false, false_or, not_true_eq_false, not_false_eq_true, decide_true, decide_false, Bool.decide_eq_true])⟩ ?_
 exact ⟨rfl, by kernel_rfl⟩
 refine sn ?_
 refine st_dec ((withV a b).fst = true ∧ (withV b a).fst = true) (by kernel_rfl) (by kernel_rfl) (fun h_3 => ?_) (fun h_3 => ?_)
 refine sq ?_
 refine rg (A := True) cx [] [4, 5] [] trivial ?_
 refine sn ?_
 refine st_ret (by kernel_rfl) ?_
 refine q_blk_ret ?_
 refine q_seq_ret ?_
 refine q_ret (r := .tup [.i .i64 ((0:Int)), .i .i64 ((0:Int))]) (obl := []) (by kernel_rfl) trivial (AVle.tup (ZLe.cons (AVle.eq (show AV.i .i64 (0:Int) = AV.i .i64 (ordV a b).fst from ?g3)) (ZLe.cons (AVle.eq (show AV.i .i64 (0:Int) = AV.i .i64 (ordV a b).snd from ?g2)) ZLe.nil))); rotate_left 2
 refine sq ?_
 refine rg (A := True) cx [] [8, 30] [] trivial ?_
 refine sn ?_
 refine st_cond ((withV a b).fst) (by kernel_rfl) (by kernel_rfl) (fun h_4 => ?_) (fun h_4 => ?_)
 refine sq ?_
 refine rg (A := True) cx [] [4, 5] [] trivial ?_
 refine sn ?_
 refine st_ret (by kernel_rfl) ?_
 refine q_blk_ret ?_
 refine q_seq_ret ?_
 refine q_ret (r := .tup [.i .i64 ((1:Int)), .i .i64 ((0:Int))]) (obl := []) (by kernel_rfl) trivial (AVle.tup (ZLe.cons (AVle.eq (show AV.i .i64 (1:Int) = AV.i .i64 (ordV a b).fst from ?g5)) (ZLe.cons (AVle.eq (show AV.i .i64 (0:Int) = AV.i .i64 (ordV a b).snd from ?g4)) ZLe.nil))); rotate_left 2
 refine sq ?_
 refine rg (A := True) cx [] [32] [] trivial ?_
 refine sn ?_
 refine st_cond ((withV b a).fst) (by kernel_rfl) (by kernel_rfl) (fun h_5 => ?_) (fun h_5 => ?_)
 refine sq ?_
 refine rg (A := True) cx [] [4, 5] [] trivial ?_
 refine sn ?_
 refine st_ret (by kernel_rfl) ?_
 refine q_blk_ret ?_
 refine q_seq_ret ?_
 refine q_ret (r := .tup [.i .i64 ((2:Int)), .i .i64 ((0:Int))]) (obl := []) (by kernel_rfl) trivial (AVle.tup (ZLe.cons (AVle.eq (show AV.i .i64 (2:Int) = AV.i .i64 (ordV a b).fst from ?g7)) (ZLe.cons (AVle.eq (show AV.i .i64 (0:Int) = AV.i .i64 (ordV a b).snd from ?g6)) ZLe.nil))); rotate_left 2
 refine st_skip (by kernel_rfl) ?_
 refine q_blk_normal ?_
 refine sn (sq ?_)
 refine rg (A := True) cx [] [4, 5] [] trivial ?_
 refine sn ?_
 refine st_ret (by kernel_rfl) ?_
 refine q_ret (r := .tup [.i .i64 ((3:Int)), .i .i64 ((0:Int))]) (obl := []) (by kernel_rfl) trivial (AVle.tup (ZLe.cons (AVle.eq (show AV.i .i64 (3:Int) = AV.i .i64 (ordV a b).fst from ?g9)) (ZLe.cons (AVle.eq (show AV.i .i64 (0:Int) = AV.i .i64 (ordV a b).snd from ?g8)) ZLe.nil))); rotate_left 2
 revert h_0; rotate_left
 revert h_0; rotate_left
 revert h_0 h_3; rotate_left
 revert h_0 h_3; rotate_left
 revert h_0 h_3 h_4; rotate_left
 revert h_0 h_3 h_4; rotate_left
 revert h_0 h_3 h_4 h_5; rotate_left
 revert h_0 h_3 h_4 h_5; rotate_left
 revert h_0 h_3 h_4 h_5; rotate_left
 revert h_0 h_3 h_4 h_5; rotate_left
 case g0 => intro h; rw [e, if_neg h]
 case g1 => intro h; rw [e, if_neg h]
 case g2 => intro h k; rw [e, if_pos (Classical.not_not.1 h)]
 case g3 => intro h k; rw [e, if_pos (Classical.not_not.1 h), if_pos k]
 case g4 => intro h k m; rw [e, if_pos (Classical.not_not.1 h)]
 case g5 => intro h k m; rw [e, if_pos (Classical.not_not.1 h), if_neg k, if_pos m]
 case g6 => intro h k m n; rw [e, if_pos (Classical.not_not.1 h)]
 case g7 => intro h k m n; rw [e, if_pos (Classical.not_not.1 h), if_neg k, if_neg (f m), if_pos n]
 case g8 => intro h k m n; rw [e, if_pos (Classical.not_not.1 h)]
 case g9 => intro h k m n; rw [e, if_pos (Classical.not_not.1 h), if_neg k, if_neg (f m), if_neg (f n)]
theorem con21 (f : Facts) (hb : szC f) : Con Tryz.prog 21 [.agg (c29 f)] (.agg (c29 f)) :=
 by
 have hr := hb.2.2.1
 have ha := hb.2.2.2
 have at_ : ∀ i : Int, 0 ≤ i → i < f.recs.length → smP f.recs[i.toNat]!.past := fun i h0 h => hb.2.1 _ (bang_in (by omega))
 refine st_con tab_ok (by kernel_rfl) [.cell 2 29] 40 Go.Proofs.Tryz.func21 (by kernel_rfl) (by kernel_rfl) ?_
 intro e0 cx
 refine sq ?_
 refine rg (A := True) cx [] [1, 2] [1, 2] trivial ?_
 refine sn (sq ?_)
 refine ra (A := (45 = (45:Nat)) ∧ ((4:Nat) = 4) ∧ ([AV.i .i64 (0:Int), AV.i .i64 (0:Int), AV.s { data := #[] : ByteArray }, AV.i .i64 (0:Int)].length = (4:Nat)) ∧ (∀ (r : List AV), r ∈ List.map c45 f.adds → r.length = 4) ∧ ((List.map c45 []).length + (List.map c45 f.adds).length ≤ maxLen) ∧ (((List.map c45 []).length + (List.map c45 f.adds).length) * (40:Nat) ≤ (140737488355328:Nat)) ∧ (List.map c45 [] ++ List.map c45 f.adds = List.map c45 ([] ++ f.adds)) ∧ _) cx [(3, { rows := some (List.map c45 ([] ++ f.adds)) }), (6, { val := some (.agg [.sl (List.map c3 f.gone.vec), .sl (List.map c104 f.gone.cloud)]) })] [1, 2, 3] [1, 2, 3] ⟨(by kernel_rfl), (by kernel_rfl), (by kernel_rfl), (by (with_reducible refine len_map (fun _ => ?_) _; kernel_rfl)), ?g0, ?g1, (by (with_reducible refine app_map ?_; kernel_rfl)), (con63 (f.gone) ?g2 ?g3)⟩ ?_; rotate_left 4
 refine sn (sq ?_)
 refine sq ?_
 refine rg (A := True) cx [] [1, 2, 3, 4] [1, 2, 3] trivial ?_
 refine sn ?_
 refine st_block 0 (by kernel_rfl) ?_
 refine awp_cellIn 3 81 3 3 5303 (σ' := ⟨[(1, .ptr (1) (0) (0) (0)), (2, .ptr (2) (0) (0) (0)), (3, .ptr (3) (0) (0) (0)), (4, .i .i64 ((0:Int)))], [(1, ⟨0, 29, .var [.sl (List.map c45 f.adds), .sl (List.map c3 f.gone.vec), .sl (List.map c104 f.gone.cloud), .sl (List.map c81 f.recs)]⟩), (2, ⟨0, 29, .var [.nl, .nl, .nl, .nl]⟩), (3, ⟨0, 29, .var [.sl (List.map c45 ([] ++ f.adds)), .sl (List.map c3 f.gone.vec), .sl (List.map c104 f.gone.cloud), .own 5303 0]⟩), (5303, ⟨0, 81, .row 3 (List.map c81 [])⟩)]⟩) (by kernel_rfl) ?_
 refine st_loop (X := Int × List Entry × List Int × List Span × List Record × List Entry × List Int × List Span × List Record) (fun x => ⟨[(1, .ptr (1) (0) (0) (0)), (2, .ptr (2) (0) (0) (0)), (3, .ptr (3) (0) (0) (0)), (4, .i .i64 (x.fst))], [(1, ⟨0, 29, .var [.sl (List.map c45 x.snd.fst), .sl (List.map c3 x.snd.snd.fst), .sl (List.map c104 x.snd.snd.snd.fst), .sl (List.map c81 x.snd.snd.snd.snd.fst)]⟩), (2, ⟨0, 29, .var [.nl, .nl, .nl, .nl]⟩), (3, ⟨0, 29, .var [.sl (List.map c45 x.snd.snd.snd.snd.snd.fst), .sl (List.map c3 x.snd.snd.snd.snd.snd.snd.fst), .sl (List.map c104 x.snd.snd.snd.snd.snd.snd.snd.fst), .own 5303 0]⟩), (5303, ⟨0, 81, .row 3 (List.map c81 x.snd.snd.snd.snd.snd.snd.snd.snd)⟩)]⟩) (fun x ↦ decCy f x.fst x.snd.fst x.snd.snd.fst x.snd.snd.snd.fst x.snd.snd.snd.snd.fst x.snd.snd.snd.snd.snd.fst x.snd.snd.snd.snd.snd.snd.fst x.snd.snd.snd.snd.snd.snd.snd.fst x.snd.snd.snd.snd.snd.snd.snd.snd) (fun x ↦ invCy f x.fst x.snd.fst x.snd.snd.fst x.snd.snd.snd.fst x.snd.snd.snd.snd.fst x.snd.snd.snd.snd.snd.fst x.snd.snd.snd.snd.snd.snd.fst x.snd.snd.snd.snd.snd.snd.snd.fst x.snd.snd.snd.snd.snd.snd.snd.snd) [1, 2, 3, 4] [1, 2, 3, 5303] (((0:Int), f.adds, f.gone.vec, f.gone.cloud, f.recs, [] ++ f.adds, f.gone.vec, f.gone.cloud, [])) (by kernel_rfl) (by kernel_rfl) (show invCy f (0:Int) f.adds f.gone.vec f.gone.cloud f.recs ([] ++ f.adds) f.gone.vec f.gone.cloud [] from ?g4) ?_; rotate_left 1
 rintro ⟨i_0, x_1, x_2, x_3, x_4, o_5, v_6, c_7, q_8⟩ h_9
 obtain ⟨h_10, h_11, h_12, h_13, h_14, h_15, h_16, h_17⟩ : x_4 = f.recs ∧ o_5 = f.adds ∧ v_6 = f.gone.vec ∧ c_7 = f.gone.cloud ∧ (0:Int) ≤ i_0 ∧ i_0 ≤ (↑f.recs.length:Int) ∧ (↑q_8.length:Int) = i_0 ∧ isPre f.recs i_0 q_8 := h_9
 refine sq ?_
 refine sq ?_
 refine rg (A := _ ∧ (AV.b (decide (i_0 < (↑x_4.length:Int))) = AV.b (decide (i_0 < (↑x_4.length:Int))))) cx [(3, { tell := some (.i .i64 ((↑x_4.length:Int))) }), (4, { tell := some (.b (decide (i_0 < (↑x_4.length:Int)))) })] [1, 2, 3, 4, 17] [1, 2, 3, 5303] ⟨(told_len c81 x_4), (by kernel_rfl)⟩ ?_
 refine sn ?_
 refine st_dec (i_0 < (↑x_4.length:Int)) (by kernel_rfl) (by kernel_rfl) (fun h_18 => ?_) (fun h_18 => ?_)
 refine st_skip (by kernel_rfl) ?_
 refine sn (sq ?_)
 refine st_block 1 (by kernel_rfl) ?_
 refine ra (A := ((0:Int) ≤ i_0) ∧ ((List.map c81 x_4)[i_0.toNat]? = some (c81 x_4[i_0.toNat]!)) ∧ ((c81 x_4[i_0.toNat]!).length = (3:Nat)) ∧ ((0:Int) ≤ i_0) ∧ ((List.map c81 x_4)[i_0.toNat]? = some (c81 x_4[i_0.toNat]!)) ∧ ((c81 x_4[i_0.toNat]!).length = (3:Nat)) ∧ ((2:Nat) ≤ [AV.sl (List.map c3 x_4[i_0.toNat]!.past.vec), AV.sl (List.map c104 x_4[i_0.toNat]!.past.cloud)].length) ∧ _ ∧ (81 = (81:Nat)) ∧ ((3:Nat) = 3) ∧ ([AV.s { data := #[] : ByteArray }, AV.nl, AV.nl].length = (3:Nat)) ∧ (∀ (r : List AV), r ∈ List.map c81 [x_4[i_0.toNat]!] → r.length = 3) ∧ ((List.map c81 q_8).length + (List.map c81 [x_4[i_0.toNat]!]).length ≤ maxLen) ∧ (((List.map c81 q_8).length + (List.map c81 [x_4[i_0.toNat]!]).length) * (64:Nat) ≤ (140737488355328:Nat)) ∧ (List.map c81 q_8 ++ List.map c81 [x_4[i_0.toNat]!] = List.map c81 (q_8 ++ [x_4[i_0.toNat]!]))) cx [(5, { row := (c81 x_4[i_0.toNat]!) }), (11, { row := (c81 x_4[i_0.toNat]!) }), (14, { val := some (.agg [.sl (List.map c3 x_4[i_0.toNat]!.past.vec), .sl (List.map c104 x_4[i_0.toNat]!.past.cloud)]) }), (17, { rows := some (List.map c81 (q_8 ++ [x_4[i_0.toNat]!])) })] [1, 2, 3, 4] [1, 2, 3, 5303] ⟨(by (with_reducible assumption)), (by (with_reducible refine get_map ?_; omega)), (by kernel_rfl), (by (with_reducible assumption)), (by (with_reducible refine get_map ?_; omega)), (by kernel_rfl), (by (simp only [List.length_append, List.length_cons, List.length_nil]; omega)), (con63 (x_4[i_0.toNat]!.past) ?g5 ?g6), (by kernel_rfl), (by kernel_rfl), (by kernel_rfl), (by (with_reducible refine len_map (fun _ => ?_) _; kernel_rfl)), ?g7, ?g8, (by (with_reducible refine app_map ?_; kernel_rfl))⟩ ?_; rotate_left 4
 refine q_blk_normal ?_
 refine sn ?_
 refine rg (A := (AV.i .i64 (IntKind.i64.wrap (i_0 + (1:Int))) = AV.i .i64 (i_0 + (1:Int)))) cx [(1, { tell := some (.i .i64 (i_0 + (1:Int))) })] [1, 2, 3, 4] [1, 2, 3, 5303] (told_i64 (by omega) ?g9) ?_; rotate_left 1
 refine sn ?_
 refine loop_next ((i_0 + (1:Int), x_1, x_2, x_3, x_4, o_5, v_6, c_7, q_8 ++ [x_4[i_0.toNat]!])) (by kernel_rfl) (show ((↑f.recs.length:Int) - (i_0 + (1:Int))).toNat < ((↑f.recs.length:Int) - i_0).toNat from ?g10) (show invCy f (i_0 + (1:Int)) x_1 x_2 x_3 x_4 o_5 v_6 c_7 (q_8 ++ [x_4[i_0.toNat]!]) from ?g11); rotate_left 2
 refine st_exit 0 (by kernel_rfl) ?_
 refine q_seq_exit ?_
 refine q_seq_exit ?_
 refine q_blk_hit ?_
 refine sn (sq ?_)
 refine awp_norm [5303] [1, 2, 3, 4, 17] [1, 2, 3] (σ' := ⟨[(1, .ptr (1) (0) (0) (0)), (2, .ptr (2) (0) (0) (0)), (3, .ptr (3) (0) (0) (0)), (4, .i .i64 (i_0)), (17, .b (decide (i_0 < (↑x_4.length:Int))))], [(1, ⟨0, 29, .var [.sl (List.map c45 x_1), .sl (List.map c3 x_2), .sl (List.map c104 x_3), .sl (List.map c81 x_4)]⟩), (2, ⟨0, 29, .var [.nl, .nl, .nl, .nl]⟩), (3, ⟨0, 29, .var [.sl (List.map c45 o_5), .sl (List.map c3 v_6), .sl (List.map c104 c_7), .sl (List.map c81 q_8)]⟩)]⟩) (by kernel_rfl) ?_
 refine rg (A := True) cx [] [2] [2] trivial ?_
 refine sn ?_
 refine st_ret (by kernel_rfl) ?_
 refine q_ret (r := .agg [.sl (List.map c45 o_5), .sl (List.map c3 v_6), .sl (List.map c104 c_7), .sl (List.map c81 q_8)]) (obl := []) (by kernel_rfl) trivial (AVle.eq (show AV.agg [AV.sl (List.map c45 o_5), AV.sl (List.map c3 v_6), AV.sl (List.map c104 c_7), AV.sl (List.map c81 q_8)] = AV.agg (c29 f) from ?g12)); rotate_left 1
 rotate_left
 rotate_left
 rotate_left
 rotate_left
 rotate_left
 revert i_0 x_1 x_2 x_3 x_4 o_5 v_6 c_7 q_8 h_10 h_11 h_12 h_13 h_14 h_15 h_16 h_17 h_18; rotate_left
 revert i_0 x_1 x_2 x_3 x_4 o_5 v_6 c_7 q_8 h_10 h_11 h_12 h_13 h_14 h_15 h_16 h_17 h_18; rotate_left
 revert i_0 x_1 x_2 x_3 x_4 o_5 v_6 c_7 q_8 h_10 h_11 h_12 h_13 h_14 h_15 h_16 h_17 h_18; rotate_left
 revert i_0 x_1 x_2 x_3 x_4 o_5 v_6 c_7 q_8 h_10 h_11 h_12 h_13 h_14 h_15 h_16 h_17 h_18; rotate_left
 revert i_0 x_1 x_2 x_3 x_4 o_5 v_6 c_7 q_8 h_10 h_11 h_12 h_13 h_14 h_15 h_16 h_17 h_18; rotate_left
 revert i_0 x_1 x_2 x_3 x_4 o_5 v_6 c_7 q_8 h_10 h_11 h_12 h_13 h_14 h_15 h_16 h_17 h_18; rotate_left
 revert i_0 x_1 x_2 x_3 x_4 o_5 v_6 c_7 q_8 h_10 h_11 h_12 h_13 h_14 h_15 h_16 h_17 h_18; rotate_left
 revert i_0 x_1 x_2 x_3 x_4 o_5 v_6 c_7 q_8 h_10 h_11 h_12 h_13 h_14 h_15 h_16 h_17 h_18; rotate_left
 case g0 => simp only [List.length_map, List.length_nil, Go.maxLen]; omega
 case g1 => simp only [List.length_map, List.length_nil]; omega
 case g2 => have := hb.1.1; omega
 case g3 => have := hb.1.2; omega
 case g4 => exact ⟨rfl, List.nil_append _, rfl, rfl, by omega, by omega, by simp, by simp [isPre]⟩
 case g5 => intro i x1 x2 x3 x4 o v c q e1 e2 e3 e4 h0 h1 h2 h3 h4; rw [e1] at h4 ⊢; have := (at_ i h0 h4).1; omega
 case g6 => intro i x1 x2 x3 x4 o v c q e1 e2 e3 e4 h0 h1 h2 h3 h4; rw [e1] at h4 ⊢; have := (at_ i h0 h4).2; omega
 case g7 => intro i x1 x2 x3 x4 o v c q e1 e2 e3 e4 h0 h1 h2 h3 h4; rw [e1] at h4; simp only [List.length_map, List.length_cons, List.length_nil, Go.maxLen]; omega
 case g8 => intro i x1 x2 x3 x4 o v c q e1 e2 e3 e4 h0 h1 h2 h3 h4; rw [e1] at h4; simp only [List.length_map, List.length_cons, List.length_nil]; omega
 case g9 => intro i x1 x2 x3 x4 o v c q e1 e2 e3 e4 h0 h1 h2 h3 h4; rw [e1] at h4; omega
 case g10 => intro i x1 x2 x3 x4 o v c q e1 e2 e3 e4 h0 h1 h2 h3 h4; rw [e1] at h4; omega
 case g11 =>
  intro i x1 x2 x3 x4 o v c q e1 e2 e3 e4 h0 h1 h2 h3 h4
  rw [e1] at h4 ⊢
  refine ⟨rfl, e2, e3, e4, by omega, by omega, by rw [List.length_append, List.length_singleton]; omega, ?_⟩
  have h3 : q = f.recs.take i.toNat := h3
  show q ++ [f.recs[i.toNat]!] = f.recs.take (i + 1).toNat
  rw [h3]
  exact take_step h0 h4
 case g12 =>
  intro i x1 x2 x3 x4 o v c q e1 e2 e3 e4 h0 h1 h2 h3 h4
  rw [e1] at h4
  have h3 : q = f.recs.take i.toNat := h3
  rw [List.take_of_length_le (by omega)] at h3
  rw [e2, e3, e4, h3]
  rfl
end Go.Proofs.YtaiepnaokhpmcaaGreat
namespace Go.Proofs.YtaiepnaokhpmcaaGreat
open Go.E
set_option maxRecDepth 100000
set_option maxHeartbeats 4000000
def someF : Facts := ⟨[⟨⟨0, 1⟩, ⟨#[65]⟩, 5⟩, ⟨⟨0, 2⟩, ⟨#[66]⟩, 2⟩, ⟨⟨1, 1⟩, ⟨#[65]⟩, 1⟩], ⟨[1], []⟩, []⟩
def barF : Facts := ⟨[], ⟨[], []⟩, [⟨⟨#[65]⟩, ⟨[0, 2], []⟩⟩]⟩
theorem ok_some : okF someF = true := by rw [okF_eq]; decide +kernel
theorem norm_bar : (⟨[0, 2], []⟩ : Past) = normP ⟨[0, 2], []⟩ := by decide +kernel
theorem ok_bar : okF barF = true := by
 refine okF_iff.2 ⟨rfl, norm_none.symm, (recE_iff _).2 ⟨fun r hr => ?_, List.pairwise_singleton _ _⟩⟩
 have e : r = ⟨⟨#[65]⟩, ⟨[0, 2], []⟩⟩ := List.mem_singleton.1 hr
 rw [e]
 refine ck_ok.2 ⟨.inr (by decide +kernel), norm_bar, fun h => ?_⟩
 have := congrArg Past.vec ((empty_form norm_bar).1 h)
 exact absurd this (by decide)
theorem has_nil (e : Entry) : hasE [] e = false := by
 unfold hasE
 rw [decide_eq_false_iff_not]
 intro h
 simp [findE] at h
theorem ord_some : ordV someF barF = (3, 0) := by
 have h1 : ¬ noneF (lessV someF barF) = true := by
  unfold noneF
  rw [decide_eq_true_iff]
  rintro ⟨h, _⟩
  have e : (lessV someF barF).adds = someF.adds := by
   unfold lessV
   rw [List.filter_eq_self]
   intro x _
   show (!hasE [] x) = true
   rw [has_nil]
   rfl
  rw [e] at h
  exact absurd h (by decide)
 have h2 : ¬ noneF (lessV barF someF) = true := by
  unfold noneF
  rw [decide_eq_true_iff]
  rintro ⟨_, _, h⟩
  have e : (lessV barF someF).recs = barF.recs := by
   unfold lessV
   rw [List.filter_eq_self]
   intro x _
   show decide (¬ x ∈ ([] : List Record)) = true
   simp
  rw [e] at h
  exact absurd h (by decide)
 unfold ordV
 rw [if_pos (botF_iff.2 ⟨ok_some, ok_bar⟩), if_neg (fun k => h1 k.1), if_neg h1, if_neg h2]
theorem sz_some : szG someF := ⟨⟨⟨by decide, by decide⟩, fun r hr => by cases hr⟩, by decide⟩
theorem sz_bar : szG barF := ⟨⟨⟨by decide, by decide⟩, fun r hr => by
 have : r = ⟨⟨#[65]⟩, ⟨[0, 2], []⟩⟩ := List.mem_singleton.1 hr
 rw [this]
 exact ⟨by decide, by decide⟩⟩, by decide⟩
theorem lesC {a b : Facts} (ha : szG a) : szC (lesV a b).1 := by
 unfold lesV
 split
 ·rename_i h
  have h := (botF_iff.1 h).1
  refine ⟨tabP_len _, fun r hr => ?_, ?_, ?_⟩
  ·exact norm_sm (rec_forms (okF_iff.1 h).2.2 r (List.mem_filter.1 hr).1)
  ·have : (lessV a b).recs.length ≤ a.recs.length := List.length_filter_le _ _
   have := ha.2
   show (lessV a b).recs.length * 64 ≤ _
   omega
  ·have : (lessV a b).adds.length ≤ a.adds.length := List.length_filter_le _ _
   have := okL_len (lst_ok (okF_iff.1 h).1)
   show (lessV a b).adds.length * 40 ≤ _
   omega
 ·exact (⟨⟨by decide, by decide⟩, fun r hr => (by cases hr), by decide, by decide⟩ : szC zeroF)
theorem lesF {a b : Facts} (ha : szG a) : szF (lesV a b).1 := by
 have h := lesC (b := b) ha
 refine ⟨⟨by have := h.1.1; omega, by have := h.1.2; omega⟩, fun r hr => ⟨by have := (h.2.1 r hr).1; omega, by have := (h.2.1 r hr).2; omega⟩⟩
theorem AVle_sl {a b : List (List AV)} (hl : a.length = b.length) (h : ∀ (j:Nat) (x y : List AV), a[j]? = some x → b[j]? = some y → ZLe x y) : AVle (.sl a) (.sl b) := fun S w v hv => by
 cases hv with
 | sl _ A cap sz u hc hm hn hsz hA h1 h2 =>
  rw [hl]
  refine .sl b A cap sz u (by omega) (by omega) hn (fun r hr => ?_) (fun k => ?_) h1 (fun j q r x hj hq => ?_)
  ·obtain ⟨j, hj, rfl⟩ := List.mem_iff_getElem.1 hr
   have k : j < a.length := by omega
   rw [← (h j a[j] b[j] (List.getElem?_eq_getElem k) (List.getElem?_eq_getElem hj)).1]
   exact hsz _ (List.getElem_mem k)
  ·obtain ⟨ad, e, hs, hc'⟩ := hA (by omega)
   exact ⟨ad, e, hs, fun j q hj => hc' j q (by omega)⟩
  ·have k : j < a.length := by
    have := List.getElem?_eq_some_iff.1 hj
    obtain ⟨h', _⟩ := this
    omega
   have z := h j a[j] r (List.getElem?_eq_getElem k) hj
   have kq : q < a[j].length := by
    have := List.getElem?_eq_some_iff.1 hq
    obtain ⟨h', _⟩ := this
    rw [z.1]
    exact h'
   exact z.2 q _ x (List.getElem?_eq_getElem kq) hq S w _ (h2 j q _ _ (List.getElem?_eq_getElem k) (List.getElem?_eq_getElem kq))
theorem con36 (rep num:Int) (sku : ByteArray) (qty:Int) : Con Tryz.prog 36 [.i .i64 rep, .i .i64 num, .s sku, .i .i64 qty] (.agg (c45 ⟨⟨rep, num⟩, sku, qty⟩)) :=
 by
 refine st_con tab_ok (by kernel_rfl) [.cell 8 45] 15 Go.Proofs.Tryz.func36 (by kernel_rfl) (by kernel_rfl) ?_
 intro e0 cx
 refine sq ?_
 refine rg (A := True) cx [] [0, 1, 2, 3, 8] [8] trivial ?_
 refine sn (sq ?_)
 refine rg (A := True) cx [] [8] [8] trivial ?_
 refine sn ?_
 refine st_ret (by kernel_rfl) ?_
 refine q_ret (r := .agg [.i .i64 (rep), .i .i64 (num), .s (sku), .i .i64 (qty)]) (obl := []) (by kernel_rfl) trivial (AVle.eq (show AV.agg [AV.i .i64 rep, AV.i .i64 num, AV.s sku, AV.i .i64 qty] = AV.agg (c45 { dot := { rep := rep, num := num : Dot }, sku := sku, qty := qty : Entry }) from ?g0)); rotate_left 1
 case g0 => rfl
theorem con16  : Con Tryz.prog 16 [] (.agg (c29 someF)) :=
 by
 refine st_con tab_ok (by kernel_rfl) [.cell 0 29] 8 Go.Proofs.Tryz.func16 (by kernel_rfl) (by kernel_rfl) ?_
 intro e0 cx
 refine sq ?_
 refine rg (A := True) cx [] [0] [0] trivial ?_
 refine sn (sq ?_)
 refine rg (A := _ ∧ _ ∧ _) cx [(0, { val := some (.agg [.i .i64 ((0:Int)), .i .i64 ((1:Int)), .s ({ dot := { rep := (0:Int), num := (1:Int) : Dot }, sku := { data := #[(65 : UInt8)] : ByteArray }, qty := (5:Int) : Entry }.sku), .i .i64 ((5:Int))]) }), (1, { val := some (.agg [.i .i64 ((0:Int)), .i .i64 ((2:Int)), .s ({ dot := { rep := (0:Int), num := (2:Int) : Dot }, sku := { data := #[(66 : UInt8)] : ByteArray }, qty := (2:Int) : Entry }.sku), .i .i64 ((2:Int))]) }), (2, { val := some (.agg [.i .i64 ((1:Int)), .i .i64 ((1:Int)), .s ({ dot := { rep := (1:Int), num := (1:Int) : Dot }, sku := { data := #[(65 : UInt8)] : ByteArray }, qty := (1:Int) : Entry }.sku), .i .i64 ((1:Int))]) })] [0] [0] ⟨(con36 ((0:Int)) ((1:Int)) ({ data := #[(65 : UInt8)] : ByteArray }) ((5:Int))), (con36 ((0:Int)) ((2:Int)) ({ data := #[(66 : UInt8)] : ByteArray }) ((2:Int))), (con36 ((1:Int)) ((1:Int)) ({ data := #[(65 : UInt8)] : ByteArray }) ((1:Int)))⟩ ?_
 refine sn ?_
 refine st_ret (by kernel_rfl) ?_
 refine q_ret (r := .agg [.sl (List.map c45 [{ dot := { rep := (0:Int), num := (1:Int) : Dot }, sku := { dot := { rep := (0:Int), num := (1:Int) : Dot }, sku := { data := #[(65 : UInt8)] : ByteArray }, qty := (5:Int) : Entry }.sku, qty := (5:Int) : Entry }, { dot := { rep := (0:Int), num := (2:Int) : Dot }, sku := { dot := { rep := (0:Int), num := (2:Int) : Dot }, sku := { data := #[(66 : UInt8)] : ByteArray }, qty := (2:Int) : Entry }.sku, qty := (2:Int) : Entry }, { dot := { rep := (1:Int), num := (1:Int) : Dot }, sku := { dot := { rep := (1:Int), num := (1:Int) : Dot }, sku := { data := #[(65 : UInt8)] : ByteArray }, qty := (1:Int) : Entry }.sku, qty := (1:Int) : Entry }]), .sl (List.map c3 [(1:Int)]), .nl, .nl]) (obl := []) (by kernel_rfl) trivial (AVle.agg (ZLe.cons (AVle.eq (show AV.sl (List.map c45 [{ dot := { rep := (0:Int), num := (1:Int) : Dot }, sku := { dot := { rep := (0:Int), num := (1:Int) : Dot }, sku := { data := #[(65 : UInt8)] : ByteArray }, qty := (5:Int) : Entry }.sku, qty := (5:Int) : Entry }, { dot := { rep := (0:Int), num := (2:Int) : Dot }, sku := { dot := { rep := (0:Int), num := (2:Int) : Dot }, sku := { data := #[(66 : UInt8)] : ByteArray }, qty := (2:Int) : Entry }.sku, qty := (2:Int) : Entry }, { dot := { rep := (1:Int), num := (1:Int) : Dot }, sku := { dot := { rep := (1:Int), num := (1:Int) : Dot }, sku := { data := #[(65 : UInt8)] : ByteArray }, qty := (1:Int) : Entry }.sku, qty := (1:Int) : Entry }]) = AV.sl (List.map c45 someF.adds) from ?g1)) (ZLe.cons (AVle.eq (show AV.sl (List.map c3 [(1:Int)]) = AV.sl (List.map c3 someF.gone.vec) from ?g0)) (ZLe.cons AVle.nl (ZLe.cons AVle.nl ZLe.nil))))); rotate_left 2
 all_goals rfl
theorem con17  : Con Tryz.prog 17 [] (.agg (c29 barF)) :=
 by
 refine st_con tab_ok (by kernel_rfl) [.cell 0 29] 6 Go.Proofs.Tryz.func17 (by kernel_rfl) (by kernel_rfl) ?_
 intro e0 cx
 refine sq ?_
 refine rg (A := True) cx [] [0] [0] trivial ?_
 refine sn (sq ?_)
 refine rg (A := True) cx [] [0] [0] trivial ?_
 refine sn ?_
 refine st_ret (by kernel_rfl) ?_
 refine q_ret (r := .agg [.nl, .nl, .nl, .sl [[.s ({ data := #[(65 : UInt8)] : ByteArray }), .sl (List.map c3 [(0:Int), (2:Int)]), .nl]]]) (obl := []) (by kernel_rfl) trivial (AVle.agg (ZLe.cons AVle.nl (ZLe.cons AVle.nl (ZLe.cons AVle.nl (ZLe.cons (show AVle (AV.sl [[AV.s { data := #[(65 : UInt8)] : ByteArray }, AV.sl (List.map c3 [(0:Int), (2:Int)]), AV.nl]]) (AV.sl (List.map c81 barF.recs)) from ?g0) ZLe.nil))))); rotate_left 1
 case g0 =>
  refine AVle_sl rfl fun j x y hx hy => ?_
  match j with
  | 0 =>
   simp only [List.getElem?_cons_zero, Option.some.injEq] at hx
   subst hx
   have hy : y = [AV.s ⟨#[65]⟩, AV.sl (List.map c3 [0, 2]), AV.sl []] := by
    have : some (c81 ⟨⟨#[65]⟩, ⟨[0, 2], []⟩⟩) = some y := hy
    exact (Option.some.inj this).symm
   subst hy
   exact ZLe.cons (AVle.refl _) (ZLe.cons (AVle.refl _) (ZLe.cons AVle.nl ZLe.nil))
  | j + 1 => simp at hx
theorem con3 (a b : Facts) (ha : szG a) (hb : szG b) : Con Tryz.prog 3 [.agg (c29 a), .agg (c29 b)] (.b true) :=
 by
 refine st_con tab_ok (by kernel_rfl) [.tmp 4] 89 Go.Proofs.Tryz.func3 (by kernel_rfl) (by kernel_rfl) ?_
 intro e0 cx
 refine sq ?_
 refine rg (A := True) cx [] [2, 3] [2, 3] trivial ?_
 refine sn (sq ?_)
 refine rg (A := _ ∧ _ ∧ _) cx [(0, { val := some (.agg [.sl (List.map c45 someF.adds), .sl (List.map c3 someF.gone.vec), .sl (List.map c104 someF.gone.cloud), .sl (List.map c81 someF.recs)]) }), (1, { val := some (.agg [.sl (List.map c45 barF.adds), .sl (List.map c3 barF.gone.vec), .sl (List.map c104 barF.gone.cloud), .sl (List.map c81 barF.recs)]) }), (2, { val := some (.tup [.i .i64 ((ordV someF barF).fst), .i .i64 ((ordV someF barF).snd)]) })] [2, 3, 5, 6] [2, 3] ⟨(con16 ), (con17 ), (con15 (someF) (barF) ?g0 ?g1)⟩ ?_; rotate_left 2
 refine sn (sq ?_)
 refine sq ?_
 refine st_join (σ' := ⟨[(2, .ptr (2) (0) (0) (0)), (3, .ptr (3) (0) (0) (0)), (26, .b (decide (¬(ordV someF barF).snd = (0:Int) ∨ ¬(ordV someF barF).fst = (3:Int))))], [(2, ⟨0, 29, .var [.sl (List.map c45 a.adds), .sl (List.map c3 a.gone.vec), .sl (List.map c104 a.gone.cloud), .sl (List.map c81 a.recs)]⟩), (3, ⟨0, 29, .var [.sl (List.map c45 b.adds), .sl (List.map c3 b.gone.vec), .sl (List.map c104 b.gone.cloud), .sl (List.map c81 b.recs)]⟩)]⟩) ?_ ?_
 refine st_split (¬(ordV someF barF).snd = (0:Int)) (fun h_1 => ?_) (fun h_1 => ?_)
 refine rg (A := _ ∧ (AV.b true = AV.b (decide (¬(ordV someF barF).snd = (0:Int) ∨ ¬(ordV someF barF).fst = (3:Int))))) cx [(1, { tell := some (.b (true)) }), (5, { tell := some (.b (decide (¬(ordV someF barF).snd = (0:Int) ∨ ¬(ordV someF barF).fst = (3:Int)))) })] [2, 3, 26] [2, 3] ⟨(told_neqt h_1), (by simp only [eq_false h_1, told_simp1, told_simp2, and_true, true_and, and_false, false_and, or_true, true_or, or_false, false_or, not_true_eq_false, not_false_eq_true, decide_true, decide_false, Bool.decide_eq_true])⟩ ?_
 exact ⟨rfl, by kernel_rfl⟩
 refine rg (A := (AV.b ((ordV someF barF).snd != (0:Int)) = AV.b (decide ¬(ordV someF barF).snd = (0:Int))) ∧ _ ∧ (AV.b ((ordV someF barF).fst != (3:Int)) = AV.b (decide ¬(ordV someF barF).fst = (3:Int))) ∧ (AV.b (decide ¬(ordV someF barF).fst = (3:Int)) = AV.b (decide (¬(ordV someF barF).snd = (0:Int) ∨ ¬(ordV someF barF).fst = (3:Int))))) cx [(1, { tell := some (.b (decide ¬(ordV someF barF).snd = (0:Int))) }), (2, { tell := some (.b (false)) }), (4, { tell := some (.b (decide ¬(ordV someF barF).fst = (3:Int))) }), (5, { tell := some (.b (decide (¬(ordV someF barF).snd = (0:Int) ∨ ¬(ordV someF barF).fst = (3:Int)))) })] [2, 3, 26] [2, 3] ⟨(told_neq), (told_false h_1), (told_neq), (by first | (simp only [eq_false h_1, told_simp1, told_simp2, and_true, true_and, and_false, false_and, or_true, true_or, or_false, false_or, not_true_eq_false, not_false_eq_true, decide_true, decide_false, Bool.decide_eq_true]; done) | simp_all)⟩ ?_
 exact ⟨rfl, by kernel_rfl⟩
 refine sn ?_
 refine st_dec (¬(ordV someF barF).snd = (0:Int) ∨ ¬(ordV someF barF).fst = (3:Int)) (by kernel_rfl) (by kernel_rfl) (fun h_2 => ?_) (fun h_2 => ?_)
 refine sq ?_
 refine rg (A := True) cx [] [4] [] trivial ?_
 refine sn ?_
 refine st_ret (by kernel_rfl) ?_
 refine q_seq_ret ?_
 refine q_ret (r := .b (false)) (obl := []) (by kernel_rfl) trivial (AVle.eq (show AV.b false = AV.b true from ?g2)); rotate_left 1
 refine st_skip (by kernel_rfl) ?_
 refine sn (sq ?_)
 refine rg (A := _) cx [(2, { val := some (.tup [.b ((withV a b).fst), .i .i64 ((withV a b).snd)]) })] [2, 3, 7, 8] [2, 3] (con18 (a) (b) (by (with_reducible assumption)) (by (with_reducible assumption))) ?_
 refine sn (sq ?_)
 refine rg (A := _) cx [(2, { val := some (.tup [.i .i64 ((ordV a b).fst), .i .i64 ((ordV a b).snd)]) })] [2, 3, 7, 8, 9, 10] [2, 3] (con19 (a) (b) (by (with_reducible assumption)) (by (with_reducible assumption))) ?_
 refine sn (sq ?_)
 refine rg (A := _) cx [(2, { val := some (.tup [.agg [.sl (List.map c45 (lesV a b).fst.adds), .sl (List.map c3 (lesV a b).fst.gone.vec), .sl (List.map c104 (lesV a b).fst.gone.cloud), .sl (List.map c81 (lesV a b).fst.recs)], .i .i64 ((lesV a b).snd)]) })] [2, 3, 7, 8, 9, 10, 11, 12] [2, 3, 11] (con20 (a) (b) (by (with_reducible assumption)) (by (with_reducible assumption))) ?_
 refine sn (sq ?_)
 refine rg (A := _) cx [(1, { val := some (.agg [.sl (List.map c45 (lesV a b).fst.adds), .sl (List.map c3 (lesV a b).fst.gone.vec), .sl (List.map c104 (lesV a b).fst.gone.cloud), .sl (List.map c81 (lesV a b).fst.recs)]) })] [2, 3, 7, 8, 9, 10, 11, 12] [2, 3, 11] (con21 ((lesV a b).fst) ?g3) ?_; rotate_left 1
 refine sn (sq ?_)
 refine rg (A := _) cx [(2, { val := some (.tup [.b ((withV a b).fst), .i .i64 ((withV a b).snd)]) })] [2, 3, 7, 8, 9, 10, 11, 12, 13, 6] [2, 3, 11] (con22 (a) (b) (by (with_reducible assumption)) (by (with_reducible assumption))) ?_
 refine sn (sq ?_)
 refine sq ?_
 refine rg (A := (AV.b ((withV a b).snd != (withV a b).snd) = AV.b false) ∧ ((AV.b !(withV a b).fst == (withV a b).fst) = AV.b false)) cx [(2, { tell := some (.b (false)) }), (6, { tell := some (.b (false)) })] [2, 3, 9, 10, 11, 12, 60] [2, 3, 11] ⟨(told_ins), (told_bnes)⟩ ?_
 refine sn ?_
 refine st_false (by kernel_rfl) (by kernel_rfl) ?_
 refine st_skip (by kernel_rfl) ?_
 refine sn (sq ?_)
 refine rg (A := _) cx [(2, { val := some (.tup [.i .i64 ((ordV a b).fst), .i .i64 ((ordV a b).snd)]) })] [2, 3, 9, 10, 11, 12, 5, 6] [2, 3, 11] (con15 (a) (b) (by (with_reducible assumption)) (by (with_reducible assumption))) ?_
 refine sn (sq ?_)
 refine sq ?_
 refine rg (A := (AV.b ((ordV a b).snd != (ordV a b).snd) = AV.b false) ∧ (AV.b ((ordV a b).fst != (ordV a b).fst) = AV.b false)) cx [(2, { tell := some (.b (false)) }), (6, { tell := some (.b (false)) })] [2, 3, 11, 12, 74] [2, 3, 11] ⟨(told_ins), (told_ins)⟩ ?_
 refine sn ?_
 refine st_false (by kernel_rfl) (by kernel_rfl) ?_
 refine st_skip (by kernel_rfl) ?_
 refine sn (sq ?_)
 refine rg (A := _) cx [(2, { val := some (.tup [.agg [.sl (List.map c45 (lesV a b).fst.adds), .sl (List.map c3 (lesV a b).fst.gone.vec), .sl (List.map c104 (lesV a b).fst.gone.cloud), .sl (List.map c81 (lesV a b).fst.recs)], .i .i64 ((lesV a b).snd)]) })] [11, 12, 14, 6] [11, 14] (con23 (a) (b) (by (with_reducible assumption)) (by (with_reducible assumption))) ?_
 refine sn (sq ?_)
 refine rg (A := (AV.b ((lesV a b).snd == (lesV a b).snd) = AV.b true) ∧ _) cx [(2, { tell := some (.b (true)) }), (6, { val := some (.b (decide ((lesV a b).fst = (lesV a b).fst))) })] [4] [] ⟨(told_ies), (con24 ((lesV a b).fst) ((lesV a b).fst) ?g4)⟩ ?_; rotate_left 1
 refine sn ?_
 refine st_ret (by kernel_rfl) ?_
 refine q_ret (r := .b (decide ((lesV a b).fst = (lesV a b).fst))) (obl := []) (by kernel_rfl) trivial (AVle.eq (show AV.b (decide ((lesV a b).fst = (lesV a b).fst)) = AV.b true from ?g5)); rotate_left 1
 rotate_left
 rotate_left
 revert h_2; rotate_left
 revert h_2; rotate_left
 revert h_2; rotate_left
 revert h_2; rotate_left
 case g0 => exact sz_some
 case g1 => exact sz_bar
 case g2 => intro h; rw [ord_some] at h; rcases h with h | h <;> exact absurd rfl h
 case g3 => intro _; exact lesC ha
 case g4 => intro _; exact lesF ha
 case g5 => intro _; rw [decide_eq_true rfl]
end Go.Proofs.YtaiepnaokhpmcaaGreat
namespace Go.E
open Go.RowKit Go.ChangeShapes Go.WideShapes Go.ChangeAt
def TyA (T : Tab) (L n t:Nat) (av : AV) : Prop :=
 match look T t with
 | some ti => if ti.isAgg then ∃ cs, av = .agg cs ∧ TyC T L n t cs else TyC T L n t [av]
 | none => False
def TyAll (T : Tab) (L n:Nat) : List Nat → List AV → Prop
 | [], [] => True
 | t :: ts, a :: aL => TyA T L n t a ∧ TyAll T L n ts aL
 | _, _ => False
section
variable {P : Program} {T : Tab} {H : Type} {enc : TypeId × Value → H} {W : World} {spare : Nat → Bool} {held : Bool}
theorem plain_not_cell (hT : TabOk P T) {n t : Nat} {ti : TI} (hti : look T t = some ti) (hp : plainT T n t = true) (hg : ti.isAgg = false) {r : Reach} {base : Nat} {v : Value} (hv : Value.okWide P W r base t v) : v.oneCell' = true ∨ ∃ x, v = x ∧ v.cells = #[v] := by
 have hu := (hT t ti hti).1
 unfold Value.okWide at hv
 rw [hu] at hv
 cases n with
 | zero => simp [plainT] at hp
 | succ n =>
  unfold plainT at hp
  rw [hti] at hp
  simp only at hp
  unfold TI.isAgg at hg
  cases hd : ti.desc with
  | bool => rw [hd] at hv; simp only [Cell.okWide, hu, hd, Cell.ok] at hv; cases v <;> simp_all [Value.oneCell', Value.cells]
  | int k => rw [hd] at hv; simp only [Cell.okWide, hu, hd, Cell.ok] at hv; cases v <;> simp_all [Value.oneCell', Value.cells]
  | string => rw [hd] at hv; simp only [Cell.okWide, hu, hd, Cell.ok] at hv; cases v <;> simp_all [Value.oneCell', Value.cells]
  | slice e => rw [hd] at hv; simp only [Cell.okWide, hu, hd, Cell.ok] at hv; cases v <;> simp_all [Value.oneCell', Value.cells]
  | struct fs => rw [hd] at hg; simp at hg
  | array k e => rw [hd] at hg; simp at hg
  | _ => rw [hd] at hp; first | exact absurd hp Bool.false_ne_true | cases hp
theorem open_arg (hT : TabOk P T) {n t : Nat} (hp : plainT T n t = true) {r : Reach} {base : Nat} {v : Value} {d : DataW H} {ps : List MemPlace} (hv : Value.okWide P W r base t v)
  (hd : DataW.Trod enc P W 0 spare held t v d ps) (hw : ∀ m ∈ d.weights P t, m ≤ reachBytes) {L : Nat} (hL : bulkD d ≤ L) : ∃ av, RelV0 (fun k => k < W.heap.size) W av v ∧ TyA T L n t av := by
 obtain ⟨ti, hti⟩ := plain_look hp
 obtain ⟨fuel, hf⟩ := hd
 obtain ⟨avs, hc, hty⟩ := opens hT n t hp fuel _ _ _ hf hw L hL
 by_cases hg : ti.isAgg = true
 ·have hu := (hT t ti hti).1
  have hv' := hv
  unfold Value.okWide at hv'
  rw [hu] at hv'
  have : ∃ cs, v = .agg cs := by
   unfold TI.isAgg at hg
   split at hg
   ·rename_i fs hd; rw [hd] at hv'; obtain ⟨cs, h, _⟩ := hv'; exact ⟨cs, h⟩
   ·rename_i k e hd; rw [hd] at hv'; obtain ⟨cs, h, _⟩ := hv'; exact ⟨cs, h⟩
   ·cases hg
  obtain ⟨cs, rfl⟩ := this
  refine ⟨.agg avs, ?_, by unfold TyA; rw [hti]; simp only [hg, if_true]; exact ⟨avs, rfl, hty⟩⟩
  have := RelV0.agg (S := fun k => k < W.heap.size) (w := W) avs cs.toList (by rw [hc.1]; simp [Value.cells]) (fun u hu => hc.2.1 u (by simpa [Value.cells] using hu)) (fun j a u ha hu => hc.2.2 j a u ha (by simpa [Value.cells] using hu))
  simpa using this
 ·have hg' : ti.isAgg = false := by simpa using hg
  have h1 : v.cells.toList = [v] := by
   rcases plain_not_cell hT hti hp hg' hv with h | ⟨_, _, h⟩
   ·cases v <;> simp_all [Value.oneCell', Value.cells]
   ·rw [h]
  rw [h1] at hc
  obtain ⟨c1, _, c3⟩ := hc
  match avs, c1, c3, hty with
  | [a], _, c3, hty => exact ⟨a, c3 0 a v rfl rfl, by unfold TyA; rw [hti]; simp only [hg', Bool.false_eq_true, if_false]; exact hty⟩
theorem open_args (hT : TabOk P T) {L n : Nat} {r : Reach} {base : Nat} : ∀ (ts : List Nat) (vs : List Value) (ds : List (DataW H)) (ps : List MemPlace), (∀ t ∈ ts, plainT T n t = true) →
  (∀ (j:Nat) t v, ts[j]? = some t → vs[j]? = some v → Value.okWide P W r base t v) → DataW.TrodAll enc P W 0 spare held ts vs ds ps → (∀ m ∈ DataW.weightsEach P ts ds, m ≤ reachBytes) → bulkDs ds ≤ L →
  ∃ avs : List AV, avs.length = vs.length ∧ (∀ (j:Nat) (a : AV) (u : Value), avs[j]? = some a → vs[j]? = some u → RelV0 (fun k => k < W.heap.size) W a u) ∧ TyAll T L n ts avs ∧ ds.length = ts.length
 | [], [], [], ps, _, _, _, _, _ => ⟨[], rfl, fun j a u ha => by simp at ha, trivial, rfl⟩
 | t :: ts, v :: vs, d :: ds, ps, hp, hv, hA, hw, hL => by
  simp only [bulkDs] at hL
  obtain ⟨p, q, h1, h2, _⟩ := hA
  obtain ⟨a, e1, e2⟩ := open_arg hT (hp t (by simp)) (hv 0 t v rfl rfl) h1 (fun m hm => hw m (by simp only [DataW.weightsEach, List.mem_append]; exact .inl hm)) (L := L) (by omega)
  obtain ⟨aL, f1, f2, f3, f4⟩ := open_args (L := L) hT ts vs ds q (fun t ht => hp t (List.mem_cons_of_mem _ ht)) (fun j t v ht hv' => hv (j + 1) t v (by simpa using ht) (by simpa using hv')) h2 (fun m hm => hw m (by simp only [DataW.weightsEach, List.mem_append]; exact .inr hm)) (by omega)
  refine ⟨a :: aL, by simp [f1], fun j b u hb hu => ?_, ⟨e2, f3⟩, by simp [f4]⟩
  cases j with
  | zero => simp at hb hu; subst hb hu; exact e1
  | succ j => exact f2 j b u (by simpa using hb) (by simpa using hu)
 | [], _ :: _, _, _, _, _, hA, _, _ => hA.elim
 | [], [], _ :: _, _, _, _, hA, _, _ => hA.elim
 | _ :: _, [], _, _, _, _, hA, _, _ => hA.elim
 | _ :: _, _ :: _, [], _, _, _, hA, _, _ => hA.elim
theorem trodAll_stays (hl : laidOutB P = true) {W' : World} (hb : Below W.heap.size W W') : ∀ (ts : List Nat) (vs : List Value) (ds : List (DataW H)) (ps : List MemPlace), (∀ t ∈ ts, P.readableRec t = true ∧ t < P.types.size) →
  (∀ x ∈ ps, x.block < W.heap.size) → DataW.TrodAll enc P W 0 (fun _ => true) true ts vs ds ps → DataW.TrodAll enc P W' 0 (fun b => decide (b < W.heap.size)) true ts vs ds ps
 | [], [], [], ps, _, _, h => h
 | t :: ts, v :: vs, d :: ds, ps, hr, hlt, h => by
  obtain ⟨p, q, h1, h2, rfl⟩ := h
  exact ⟨p, q, Below.trod hl (hr t (by simp)).1 (hr t (by simp)).2 h1 hb (fun x hx => hlt x (List.mem_append_left _ hx)),
   trodAll_stays hl hb ts vs ds q (fun t ht => hr t (List.mem_cons_of_mem _ ht)) (fun x hx => hlt x (List.mem_append_right _ hx)) h2, rfl⟩
 | [], _ :: _, _, _, _, _, hA => hA.elim
 | [], [], _ :: _, _, _, _, hA => hA.elim
 | _ :: _, [], _, _, _, _, hA => hA.elim
 | _ :: _, _ :: _, [], _, _, _, hA => hA.elim
end
theorem law_core {T : Tab} {C : Checked} {f : FuncId} {fn : Func} {s : ChangeSpec} {H : Type} {enc : TypeId × Value → H} (ts : List Nat) (tb L n:Nat)
  (hT : TabOk C.prog T) (hl : laidOutB C.prog = true)
  (hts : fn.params = ts.toArray) (htb : fn.resultTypes = #[tb]) (hub : C.prog.underlying tb = some .bool) (hpl : ts.all (fun t => plainT T n t && C.prog.readableRec t && Nat.blt t C.prog.types.size) = true)
  (hvars : s.vars = []) (hspec : ∀ ds : List (DataW H), ds.length = ts.length → s.fn H (ds ++ []) = { results := [.lit (.bool true)], args := ds })
  (hcon : ∀ avs, TyAll T L n ts avs → Con C.prog f avs (.b true)) {W : World} {base : Nat} {args : Array Value} {ds gs : List (DataW H)} {before : List MemPlace} {us : List Nat}
  (hval : ∀ (j:Nat) t v, fn.params[j]? = some t → args[j]? = some v → Value.okWide C.prog W .any base t v) (hW : DataW.Whole enc C.prog fn.params.toList s.vars false W args.toList ds gs before)
  (hsz : (DataW.weightsEach C.prog (fn.params.toList ++ us) (ds ++ gs)).all (· ≤ reachBytes) = true) (hbk : bulkDs (ds ++ gs) ≤ L) :
  Calls C.prog f args W fun e W' => ∃ v, e = .returned v ∧ s.post enc C.prog fn false true false false W args v W' := by
 have hW' := hW
 obtain ⟨p, q, hA, hV, rfl, _, _⟩ := hW
 rw [hvars] at hV
 obtain ⟨rfl, rfl⟩ := trodVars_none hV
 rw [List.append_nil] at hW' hbk
 have hpars : fn.params.toList = ts := by rw [hts]
 have hA' : DataW.TrodAll enc C.prog W 0 (fun _ => true) true ts args.toList ds p := by rw [← hpars]; exact hA
 have hpl' : ∀ t ∈ ts, plainT T n t = true ∧ C.prog.readableRec t = true ∧ t < C.prog.types.size := by
  intro t ht
  have := List.all_eq_true.1 hpl t ht
  simp only [Bool.and_eq_true] at this
  exact ⟨this.1.1, this.1.2, by simpa using this.2⟩
 have hw : ∀ m ∈ DataW.weightsEach C.prog ts ds, m ≤ reachBytes := by
  intro m hm
  have hsz' := hsz
  rw [List.append_nil, hpars] at hsz'
  have hsub : ∀ (ts us : List Nat) (ds : List (DataW H)), ∀ m ∈ DataW.weightsEach C.prog ts ds, m ∈ DataW.weightsEach C.prog (ts ++ us) ds := by
   intro ts us ds
   induction ts generalizing ds with
   | nil => intro m hm; cases ds <;> simp [DataW.weightsEach] at hm
   | cons t ts ih =>
    intro m hm
    cases ds with
    | nil => simp [DataW.weightsEach] at hm
    | cons d ds =>
     simp only [DataW.weightsEach, List.cons_append, List.mem_append] at hm ⊢
     rcases hm with hm | hm
     ·exact .inl hm
     ·exact .inr (ih ds m hm)
  have := List.all_eq_true.1 hsz' m (hsub ts _ ds m hm)
  simpa using this
 obtain ⟨avs, h1, h2, h3, h4⟩ := open_args hT ts args.toList ds p (fun t ht => (hpl' t ht).1) (fun j t v ht hv => hval j t v (by rw [hts]; simpa using ht) (by simpa using hv)) hA' hw hbk
 have hlt : ∀ x ∈ p, x.block < W.heap.size := fun x hx => hW'.lt x hx
 have hsp := hspec ds h4
 have := (hcon avs h3).2 W (fun k => k < W.heap.size) args.toList (fun _ h => h) (by rw [h1]) h2
 rw [Array.toArray_toList] at this
 refine this.mono fun e W' ⟨v, he, hr, hb⟩ => ?_
 cases hr with
 | b =>
  refine ⟨_, he, ds, [], p, [], p, [], hW', ?_, ?_, ?_, hb.frame _, fun h => by cases h⟩
  ·rw [hsp, htb]
   exact trodAll_mk1 (shut_bool hub true)
  ·rw [hsp, hpars]
   exact trodAll_stays hl hb ts args.toList ds p (fun t ht => (hpl' t ht).2) hlt hA'
  ·rw [hsp, hvars]
   rfl
theorem law_lifted {T : Tab} {C : Checked} {os : Os} {f : FuncId} {fn : Func} {s : ChangeSpec} {conds : List PathCond} {H : Type} {enc : TypeId × Value → H} (ts : List Nat) (tb n:Nat)
  (hT : TabOk C.prog T) (hl : laidOutB C.prog = true) (own : ownKnob C.prog.godebug = none) (started : os.Started) (noInit : C.prog.inits.idxOf? f = none) (hfn : C.prog.funcs[f]? = some fn)
  (hts : fn.params = ts.toArray) (htb : fn.resultTypes = #[tb]) (hub : C.prog.underlying tb = some .bool) (hpl : ts.all (fun t => plainT T n t && C.prog.readableRec t && Nat.blt t C.prog.types.size) = true)
  (hvars : s.vars = []) (hspec : ∀ ds : List (DataW H), ds.length = ts.length → s.fn H (ds ++ []) = { results := [.lit (.bool true)], args := ds })
  (witness : ∃ (w : World) (tape : Tape) (i : Input), w.os = os ∧ (w.forCall tape i).Shaped C.prog ∧ i.vars = [] ∧ Input.okWide C.prog (w.forCall tape i) .any w.heap.size f i ∧
   s.pre6 enc C.prog fn conds false (w.forCall tape i).memory i.args ∧ ({} : Assume).holds C.prog (lone (Frame.enter C.prog f i.args .normal) [] (w.forCall tape i)))
  (hcon : ∀ L avs, TyAll T L n ts avs → Con C.prog f avs (.b true)) :
  ReturnsInHanded {} C os f .any (s.pre6 enc C.prog fn conds false) (s.post enc C.prog fn false true false false) := by
 refine returnsInHanded_of_change_sized own started noInit hfn witness ?_
 intro W base args ds gs before hval hW _ hsz _
 exact law_core ts tb (bulkDs (ds ++ gs)) n hT hl hts htb hub hpl hvars hspec (hcon _) hval hW hsz (Nat.le_refl _)
theorem rows_typed {α : Type} {g : α → List AV} {Q : α → Prop} {C : List AV → Prop} (h : ∀ r, C r → ∃ x, r = g x ∧ Q x) : ∀ (rows : List (List AV)), (∀ r ∈ rows, C r) → ∃ xs : List α, rows = xs.map g ∧ ∀ x ∈ xs, Q x
 | [], _ => ⟨[], rfl, fun x hx => by simp at hx⟩
 | r :: rows, hr => by
  obtain ⟨x, h1, h2⟩ := h r (hr r (by simp))
  obtain ⟨xs, h3, h4⟩ := rows_typed h rows fun q hq => hr q (List.mem_cons_of_mem _ hq)
  refine ⟨x :: xs, by rw [h1, h3]; rfl, fun y hy => ?_⟩
  rcases List.mem_cons.1 hy with rfl | hy
  ·exact h2
  ·exact h4 y hy
end Go.E
namespace Go.Proofs.YtaiepnaokhpmcaaGreat
open Go.E
set_option maxRecDepth 100000
set_option maxHeartbeats 4000000
open Go.ChangeShapes Go.WideShapes Go.ChangeAt Go.RowKit Go
theorem Tryz.own : Go.ownKnob Tryz.prog.godebug = none := by kernel_rfl
theorem Tryz.laidOut : laidOutB Tryz.prog = true := by kernel_rfl
def inr (n:Int) : Prop := -9223372036854775808 ≤ n ∧ n ≤ 9223372036854775807
theorem ty3 {L n : Nat} {cs : List AV} (h : TyC tab L (n + 1) 3 cs) : ∃ x, cs = c3 x ∧ inr x := by
 obtain ⟨x, rfl, h1, h2⟩ := h
 exact ⟨x, rfl, h1, h2⟩
theorem ty43 {L n : Nat} {cs : List AV} (h : TyC tab L (n + 2) 43 cs) : ∃ d : Dot, cs = c43 d ∧ inr d.rep ∧ inr d.num := by
 obtain ⟨a, b, rfl, ha, c, d, rfl, hc, rfl⟩ := h
 obtain ⟨x, rfl, hx⟩ := ty3 ha
 obtain ⟨y, rfl, hy⟩ := ty3 hc
 exact ⟨⟨x, y⟩, rfl, hx, hy⟩
theorem ty9 {L n : Nat} {cs : List AV} (h : TyC tab L (n + 1) 9 cs) : ∃ s : ByteArray, cs = [.s s] ∧ s.size ≤ 140737488351232 := by
 obtain ⟨s, rfl, _, h2, _⟩ := h
 exact ⟨s, rfl, h2⟩
theorem ty104 {L n : Nat} {cs : List AV} (h : TyC tab L (n + 2) 104 cs) : ∃ d : Span, cs = c104 d ∧ inr d.rep ∧ inr d.lo ∧ inr d.hi := by
 obtain ⟨a, b, rfl, ha, c, d, rfl, hc, e, f, rfl, he, rfl⟩ := h
 obtain ⟨x, rfl, hx⟩ := ty3 ha
 obtain ⟨y, rfl, hy⟩ := ty3 hc
 obtain ⟨z, rfl, hz⟩ := ty3 he
 exact ⟨⟨x, y, z⟩, rfl, hx, hy, hz⟩
def inE (e : Entry) : Prop := inr e.dot.rep ∧ inr e.dot.num ∧ e.sku.size ≤ 140737488351232 ∧ inr e.qty
theorem ty45 {L n : Nat} {cs : List AV} (h : TyC tab L (n + 3) 45 cs) : ∃ e : Entry, cs = c45 e ∧ inE e := by
 obtain ⟨a, b, rfl, ha, c, d, rfl, hc, e, f, rfl, he, rfl⟩ := h
 obtain ⟨x, rfl, hx⟩ := ty43 ha
 obtain ⟨y, rfl, hy⟩ := ty9 hc
 obtain ⟨z, rfl, hz⟩ := ty3 he
 exact ⟨⟨x, y, z⟩, rfl, hx.1, hx.2, hy, hz⟩
theorem ty22 {L n : Nat} {cs : List AV} (h : TyC tab L (n + 4) 22 cs) : ∃ xs : List Entry, cs = [.sl (xs.map c45)] ∧ ((∀ x ∈ xs, inE x) ∧ xs.length * 40 ≤ 140737488351232) ∧ xs.length ≤ L := by
 obtain ⟨rows, rfl, h1, h2, hL, h3⟩ := h
 obtain ⟨xs, rfl, hx⟩ := rows_typed (fun r hr => ty45 hr) rows h3
 exact ⟨xs, rfl, ⟨hx, by rw [List.length_map] at h2; exact h2⟩, by rw [List.length_map] at hL; exact hL⟩
mutual
theorem bulk_eq {H : Type} : ∀ d : DataW H, Rows.uptoBulk d = bulkD d
  | .lit l => by cases l <;> simp [Rows.uptoBulk, bulkD]
  | .nil => by simp [Rows.uptoBulk, bulkD]
  | .ptr d => by simp only [Rows.uptoBulk, bulkD, bulk_eq d]
  | .slice elems spare => by simp only [Rows.uptoBulk, bulkD, bulks_eq elems, bulks_eq spare]
  | .agg parts => by simp only [Rows.uptoBulk, bulkD, bulks_eq parts]
  | .iface _ d => by simp only [Rows.uptoBulk, bulkD, bulk_eq d]
  | .map entries => by simp only [Rows.uptoBulk, bulkD, bulkm_eq entries]
  | .held _ => by simp [Rows.uptoBulk, bulkD]
theorem bulks_eq {H : Type} : ∀ l : List (DataW H), Rows.uptoBulkAll l = bulkDs l
  | [] => by simp [Rows.uptoBulkAll, bulkDs]
  | d :: r => by simp only [Rows.uptoBulkAll, bulkDs, bulk_eq d, bulks_eq r]
theorem bulkm_eq {H : Type} : ∀ l : List (Lit × DataW H), Rows.uptoBulkEntries l = bulkDm l
  | [] => by simp [Rows.uptoBulkEntries, bulkDm]
  | x :: r => by simp only [Rows.uptoBulkEntries, bulkDm, bulke_eq x, bulkm_eq r]
theorem bulke_eq {H : Type} : ∀ x : Lit × DataW H, Rows.uptoBulkEntry x = bulkDe x
  | (l, d) => by cases l <;> simp only [Rows.uptoBulkEntry, bulkDe, bulk_eq d]
end
end Go.Proofs.YtaiepnaokhpmcaaGreat
namespace Go.Proofs.YtaiepnaokhpmcaaGreat
open Go.E
set_option maxRecDepth 100000
set_option maxHeartbeats 4000000
def inPL (L:Nat) (p : Past) : Prop := szP p ∧ p.cloud.length ≤ L ∧ p.vec.length ≤ L
theorem ly23 {L n : Nat} {cs : List AV} (h : TyC tab L (n + 2) 23 cs) : ∃ xs : List Int, cs = c23 xs ∧ xs.length * 8 ≤ 140737488351232 ∧ xs.length ≤ L := by
 obtain ⟨rows, rfl, h1, h2, hL, h3⟩ := h
 obtain ⟨xs, rfl, hx⟩ := rows_typed (fun r hr => ty3 hr) rows h3
 exact ⟨xs, rfl, by rw [List.length_map] at h2; exact h2, by rw [List.length_map] at hL; exact hL⟩
theorem ly24 {L n : Nat} {cs : List AV} (h : TyC tab L (n + 3) 24 cs) : ∃ xs : List Span, cs = [.sl (xs.map c104)] ∧ xs.length * 24 ≤ 140737488351232 ∧ xs.length ≤ L := by
 obtain ⟨rows, rfl, h1, h2, hL, h3⟩ := h
 obtain ⟨xs, rfl, hx⟩ := rows_typed (fun r hr => ty104 hr) rows h3
 exact ⟨xs, rfl, by rw [List.length_map] at h2; exact h2, by rw [List.length_map] at hL; exact hL⟩
theorem ly26 {L n : Nat} {cs : List AV} (h : TyC tab L (n + 4) 26 cs) : ∃ p : Past, cs = c26 p ∧ inPL L p := by
 obtain ⟨a, b, rfl, ha, c, d, rfl, hc, rfl⟩ := h
 obtain ⟨x, rfl, hx⟩ := ly23 (L := L) (n := n + 1) ha
 obtain ⟨y, rfl, hy⟩ := ly24 hc
 exact ⟨⟨x, y⟩, rfl, ⟨by simp only; omega, by simp only; omega⟩, hy.2, hx.2⟩
theorem ly81 {L n : Nat} {cs : List AV} (h : TyC tab L (n + 5) 81 cs) : ∃ r : Record, cs = c81 r ∧ inPL L r.past := by
 obtain ⟨a, b, rfl, ha, c, d, rfl, hc, rfl⟩ := h
 obtain ⟨x, rfl, hx⟩ := ty9 (L := L) (n := n + 3) ha
 obtain ⟨y, rfl, hy⟩ := ly26 hc
 exact ⟨⟨x, y⟩, rfl, hy⟩
def inRL (L:Nat) (rs : List Record) : Prop := (∀ r ∈ rs, inPL L r.past) ∧ rs.length * 64 ≤ 140737488351232 ∧ rs.length ≤ L
theorem ly27 {L n : Nat} {cs : List AV} (h : TyC tab L (n + 6) 27 cs) : ∃ rs : List Record, cs = [.sl (rs.map c81)] ∧ inRL L rs := by
 obtain ⟨rows, rfl, h1, h2, hL, h3⟩ := h
 obtain ⟨xs, rfl, hx⟩ := rows_typed (fun r hr => ly81 hr) rows h3
 exact ⟨xs, rfl, hx, by rw [List.length_map] at h2; exact h2, by rw [List.length_map] at hL; exact hL⟩
def inFL (L:Nat) (f : Facts) : Prop := (f.adds.length * 40 ≤ 140737488351232 ∧ f.adds.length ≤ L) ∧ inPL L f.gone ∧ inRL L f.recs
theorem ly29 {L n : Nat} {cs : List AV} (h : TyC tab L (n + 7) 29 cs) : ∃ f : Facts, cs = c29 f ∧ inFL L f := by
 obtain ⟨a, b, rfl, ha, c, d, rfl, hc, e, g, rfl, he, rfl⟩ := h
 obtain ⟨x, rfl, hx⟩ := ty22 (L := L) (n := n + 2) ha
 obtain ⟨y, rfl, hy⟩ := ly26 (L := L) (n := n + 2) hc
 obtain ⟨z, rfl, hz⟩ := ly27 he
 exact ⟨⟨x, y, z⟩, rfl, ⟨hx.1.2, hx.2⟩, hy, hz⟩
theorem ta29 {L : Nat} {a : AV} (h : TyA tab L 9 29 a) : ∃ f : Facts, a = .agg (c29 f) ∧ inFL L f := by
 obtain ⟨cs, rfl, h2⟩ := (show ∃ cs, a = .agg cs ∧ TyC tab L 9 29 cs from h)
 obtain ⟨d, rfl, k⟩ := ly29 (L := L) (n := 2) h2
 exact ⟨d, rfl, k⟩
theorem inF_sz {L : Nat} {f : Facts} (h : inFL L f) : szF f := ⟨h.2.1.1, fun r hr => (h.2.2.1 r hr).1⟩
end Go.Proofs.YtaiepnaokhpmcaaGreat
namespace Go.Proofs.YtaiepnaokhpmcaaGreat
open Go.E
set_option maxRecDepth 100000
set_option maxHeartbeats 4000000
theorem Tryz.rowedM : Go.mapsRowed Tryz.prog = true := by kernel_rfl
theorem Tryz.stopsH : Tryz.prog.stopsHeard = true := by kernel_rfl
theorem Tryz.mayE : Tryz.prog.mayEnter = true := by kernel_rfl
end Go.Proofs.YtaiepnaokhpmcaaGreat
