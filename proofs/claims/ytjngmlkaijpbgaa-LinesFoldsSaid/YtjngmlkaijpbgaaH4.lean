/- Lv: lines.Lines. Conditions: sizes. Lpa: entries in form, in plain words (first part). Conditions: none. Lw: lines: Line, Total; the document's Lines, Line, Total. Conditions: sizes. Ya: the library's stable sort, piece by piece: what each function of it does to the row. Conditions: what is asked of 'less' and of 'swap'. Yb: the library's stable sort: symMerge puts two sorted runs into one. Conditions: what is asked of 'less' and of 'swap'; the order. Yc: the library's stable sort, whole: blocks of 20 by insertion, then merged by pairs. Conditions: what is asked of 'less' and of 'swap'; the order. Yd: the library's stable sort: the one order that it gives (by tags: each element with its place), and sort.SliceStable. Conditions: what is asked of 'less'; the order; the types. Ye: sort.SliceStable, walked. Conditions: what is asked of 'less'; the order; the types. Yg: sort.SliceStable as a call that puts a row of one's own into the stable order. Conditions: 'less' by its contract; the order; the types. EV: slices.Clone at any element type: it hands back a row of the caller's own. Conditions: how its body is laid; sizes. EW: a merge sort from below (ever longer pieces, by pairs), in plain words. Conditions: the order is total and transitive where it is asked that the outcome rises. Le: lines: the library's sort at entries; copies; what sorted lists come to. Conditions: none. -/
import Derived.WalkKit
import Derived.Shelf.SlSortFuncK.SWK
import Derived.Deep.Cut
import Derived.Deep.CutRange
import Derived.Deep.DeepCutAuto
import Derived.Lib.ReflectliteSwap
import Derived.Laws.Externs
import Derived.Lib.ReflectliteSlice
import Derived.Shelf.SlLaysE0
import Derived.Shelf.RegionOpenPlain
import Derived.Deep.LoopGhost
import Derived.Lib.Walk
import Derived.Lib.SliceRun
import Derived.Test.YtjngmlkaijpbgaaH3
set_option linter.unusedVariables false
set_option linter.unusedSimpArgs false
set_option linter.unusedSectionVars false
namespace Go.Proofs.Ytjngmlkaijpbgaa
open Go.E
set_option maxRecDepth 100000
set_option maxHeartbeats 4000000
def c76 (p : ByteArray × Line) : List AV := [.s p.1, .agg (c55 p.2)]
def invF (es : List Entry) (i : Int) (m : List (ByteArray × Line)) : Prop := 0 ≤ i ∧ i ≤ es.length ∧ (m.length : Int) ≤ i ∧ m = fillL (es.take i.toNat)
def decF (es : List Entry) (i : Int) (m : List (ByteArray × Line)) : Nat := (es.length - i).toNat
def isSeen (m : List (ByteArray × Line)) (seen : List Nat) (l : List Line) : Prop := seen.Nodup ∧ (∀ j ∈ seen, j < m.length) ∧ l = seen.map (fun j => m[j]!.2)
def invS (es : List Entry) (m : List (ByteArray × Line)) (l : List Line) (seen : List Nat) : Prop := m = fillL es ∧ (l.length : Int) = seen.length ∧ seen.length ≤ m.length ∧ isSeen m seen l
def decS (m : List (ByteArray × Line)) (l : List Line) (seen : List Nat) : Nat := m.length - seen.length
theorem ent_qty {e : Entry} (h : entE e = 0) : 1 ≤ e.qty ∧ e.qty ≤ 1000000 := by
  unfold entE at h
  split at h
  · cases h
  · split at h
    · cases h
    · split at h
      · cases h
      · split at h
        · cases h
        · omega
theorem sumE_bound : ∀ {l : List Entry}, (∀ e ∈ l, entE e = 0) → (l.length : Int) ≤ sumE l ∧ sumE l ≤ 1000000 * l.length
  | [], _ => by simp [sumE]
  | e :: l, h => by
    have h1 := ent_qty (h e (by simp))
    have h2 := sumE_bound (l := l) fun x hx => h x (by simp [hx])
    simp only [sumE, List.length_cons]
    omega
theorem okL_mem {es : List Entry} (h : lstE es = 0) : ∀ e ∈ es, entE e = 0 := fun e he => by
  obtain ⟨i, hi, rfl⟩ := List.mem_iff_getElem.1 he
  have := (okL_at (lst_ok h) hi).1
  rwa [getElem!_pos es i hi] at this
theorem line_bound {l es : List Entry} (h : lstE es = 0) (hs : ∀ e ∈ l, e ∈ es) (s : ByteArray) : 0 ≤ (lineOf l s).qty ∧ (lineOf l s).qty ≤ 1000000 * l.length ∧ 0 ≤ (lineOf l s).parts ∧ (lineOf l s).parts ≤ l.length := by
  have h1 : (ofSku l s).length ≤ l.length := List.length_filter_le _ _
  have h2 := sumE_bound (l := ofSku l s) fun e he => okL_mem h e (hs e (List.mem_filter.1 he).1)
  unfold lineOf
  simp only
  omega
theorem fill_bound {es : List Entry} (h : lstE es = 0) {i : Int} (h0 : 0 ≤ i) (h1 : i ≤ es.length) (s : ByteArray) :
    0 ≤ (lkp s (fillL (es.take i.toNat))).qty ∧ (lkp s (fillL (es.take i.toNat))).qty ≤ 1000000 * i ∧ 0 ≤ (lkp s (fillL (es.take i.toNat))).parts ∧ (lkp s (fillL (es.take i.toNat))).parts ≤ i := by
  have h2 := line_bound h (l := es.take i.toNat) (fun e he => List.mem_of_mem_take he) s
  have h3 := (fill_is (es.take i.toNat)).lkp s
  rw [h3.1, h3.2]
  rw [List.length_take] at h2
  omega
theorem qty_at {es : List Entry} (h : lstE es = 0) {i : Int} (h0 : 0 ≤ i) (h1 : i < es.length) : 1 ≤ es[i.toNat]!.qty ∧ es[i.toNat]!.qty ≤ 1000000 := ent_qty (okL_at (lst_ok h) (by omega)).1
theorem invF_step {es : List Entry} {i : Int} {m : List (ByteArray × Line)} (h0 : 0 ≤ i) (h1 : (m.length : Int) ≤ i) (h2 : m = fillL (es.take i.toNat)) (h3 : i < es.length) :
    invF es (i + 1) (mset es[i.toNat]!.sku ⟨es[i.toNat]!.sku, (lkp es[i.toNat]!.sku m).qty + es[i.toNat]!.qty, (lkp es[i.toNat]!.sku m).parts + 1⟩ m) := by
  have h4 := mset_len es[i.toNat]!.sku (addV es[i.toNat]! (lkp es[i.toNat]!.sku m)) m
  unfold addV at h4
  refine ⟨by omega, by omega, by omega, ?_⟩
  rw [← take_step h0 h3, fillL_app, ← h2]
  rfl
theorem isSeen_step {m : List (ByteArray × Line)} {seen : List Nat} {l : List Line} {j : Nat} (h : isSeen m seen l) (hj : j < m.length) (hn : ¬ j ∈ seen) : isSeen m (seen ++ [j]) (l ++ [m[j]!.2]) := by
  obtain ⟨h1, h2, h3⟩ := h
  refine ⟨List.nodup_append.2 ⟨h1, by simp, fun a ha b hb e => ?_⟩, fun k hk => ?_, by rw [h3, List.map_append]; rfl⟩
  · have : b = j := by simpa using hb
    subst e this
    exact hn ha
  · rcases List.mem_append.1 hk with k1 | k1
    · exact h2 k k1
    · have : k = j := by simpa using k1
      omega
theorem isSeen_more {m : List (ByteArray × Line)} {seen : List Nat} {l : List Line} {j : Nat} (h : isSeen m seen l) (hj : j < m.length) (hn : ¬ j ∈ seen) : seen.length + 1 ≤ m.length := by
  have h1 := isSeen_step h hj hn
  have := seen_len _ _ h1.1 h1.2.1
  simpa using this
theorem isSeen_end {m : List (ByteArray × Line)} {seen : List Nat} {l : List Line} (h : isSeen m seen l) (ha : ∀ j, j < m.length → j ∈ seen) : l.Perm (m.map (·.2)) := by
  obtain ⟨h1, h2, h3⟩ := h
  have hp := (seen_perm h1 h2 ha).map (fun j => m[j]!.2)
  rw [← h3] at hp
  have e : (List.range m.length).map (fun j => m[j]!.2) = m.map (·.2) := by
    have := congrArg (List.map fun p : ByteArray × Line => p.2) (range_map m)
    rw [List.map_map] at this
    exact this
  rwa [e] at hp
theorem con35 (es : List Entry) (hs : es.length * 40 ≤ 140737488351232) : Con Try.prog 35 [.sl (es.map c28)] (.tup [.sl ((linesV es).1.map c55), .i .i64 (linesV es).2]) :=
  by
  refine con_lens 0 (c28) (es) (by kernel_rfl) Go.Proofs.Try.func35 (by kernel_rfl) fun hl_0 => ?_
  refine st_con tab_ok (by kernel_rfl) [.tmp 2, .tmp 3] 61 Go.Proofs.Try.func35 (by kernel_rfl) (by kernel_rfl) ?_
  intro e0 cx
  refine sq ?_
  refine rg (A := True) cx [] [0] [] trivial ?_
  refine sn ?_
  refine sq ?_
  refine sq ?_
  refine rg (A := _ ∧ (AV.b (lstE es != (0 : Int)) = AV.b (decide ¬lstE es = (0 : Int)))) cx [(1, { val := some (.i .i64 (lstE es)) }), (2, { tell := some (.b (decide ¬lstE es = (0 : Int))) })] [0, 13] [] ⟨(con16 (es)), (told_neq)⟩ ?_
  refine sn ?_
  refine st_dec (¬lstE es = (0 : Int)) (by kernel_rfl) (by kernel_rfl) (fun h_0 => ?_) (fun h_0 => ?_)
  refine sq ?_
  refine rg (A := True) cx [] [2, 3] [] trivial ?_
  refine sn ?_
  refine st_ret (by kernel_rfl) ?_
  refine q_seq_ret ?_
  refine q_ret (r := .tup [.nl, .i .i64 ((1 : Int))]) (obl := []) (by kernel_rfl) trivial (AVle.tup (ZLe.cons (AVle.nl' (show List.map c55 (linesV es).fst = [] from ?g1)) (ZLe.cons (AVle.eq (show AV.i IntKind.i64 (1 : Int) = AV.i IntKind.i64 (linesV es).snd from ?g0)) ZLe.nil))); rotate_left 2
  refine st_skip (by kernel_rfl) ?_
  refine sn ?_
  refine sq ?_
  refine rg (A := True) cx [] [0, 4] [14] trivial ?_
  refine sn ?_
  refine sq ?_
  refine sq ?_
  refine rg (A := _) cx [(1, { tell := some (.i .i64 ((↑es.length : Int))) })] [4, 15, 16, 17] [14] (told_len c28 es) ?_
  refine sn ?_
  refine st_block 0 (by kernel_rfl) ?_
  refine st_loop (X := Int × List (ByteArray × Line)) (fun x => ⟨[(4, .own 14 0), (15, .sl (List.map c28 es)), (16, .i .i64 ((↑es.length : Int))), (17, .i .i64 (x.fst))], [(14, ⟨0, 76, .map (List.map c76 x.snd)⟩)]⟩) (fun x ↦ decF es x.fst x.snd) (fun x ↦ invF es x.fst x.snd) [4, 15, 16, 17] [14] (((0 : Int), [])) (by kernel_rfl) (by kernel_rfl) (show invF es (0 : Int) [] from ?g2) ?_; rotate_left 1
  rintro ⟨i_1, m_2⟩ h_3
  obtain ⟨h_4, h_5, h_6, h_7⟩ : (0 : Int) ≤ i_1 ∧ i_1 ≤ (↑es.length : Int) ∧ (↑m_2.length : Int) ≤ i_1 ∧ m_2 = fillL (List.take i_1.toNat es) := h_3
  refine sq ?_
  refine rg (A := (AV.b (decide (i_1 < (↑es.length : Int))) = AV.b (decide (i_1 < (↑es.length : Int))))) cx [(0, { tell := some (.b (decide (i_1 < (↑es.length : Int)))) })] [4, 15, 16, 17, 18] [14] (by kernel_rfl) ?_
  refine sn ?_
  refine sq ?_
  refine st_dec (i_1 < (↑es.length : Int)) (by kernel_rfl) (by kernel_rfl) (fun h_8 => ?_) (fun h_8 => ?_)
  refine st_skip (by kernel_rfl) ?_
  refine sn ?_
  refine sq ?_
  refine st_block 1 (by kernel_rfl) ?_
  refine sq ?_
  refine rg (A := ((0 : Int) ≤ i_1) ∧ ((List.map c28 es)[i_1.toNat]? = some (c28 es[i_1.toNat]!)) ∧ ((c28 es[i_1.toNat]!).length = (4 : Nat)) ∧ ((4 : Nat) ≤ [AV.i IntKind.i64 es[i_1.toNat]!.dot.rep, AV.i IntKind.i64 es[i_1.toNat]!.dot.num, AV.s es[i_1.toNat]!.sku, AV.i IntKind.i64 es[i_1.toNat]!.qty].length)) cx [(0, { row := (c28 es[i_1.toNat]!) })] [4, 15, 16, 17, 6] [14, 6] ⟨(by (with_reducible assumption)), (by (with_reducible refine get_map ?_; omega)), (by kernel_rfl), (by (simp only [List.length_append, List.length_cons, List.length_nil]; omega))⟩ ?_
  refine sn ?_
  refine sq ?_
  refine rg (A := ((if false = true then AV.tup [mget (zeroA { desc := TypeDesc.struct #[{ name := "Sku", type := (9 : Nat), offset := (0 : Nat), embedded := false, tag := "", pkgPath := "", byteOffset := (0 : Nat) : Field }, { name := "Qty", type := (3 : Nat), offset := (1 : Nat), embedded := false, tag := "", pkgPath := "", byteOffset := (16 : Nat) : Field }, { name := "Parts", type := (3 : Nat), offset := (2 : Nat), embedded := false, tag := "", pkgPath := "", byteOffset := (24 : Nat) : Field }], size := (3 : Nat), bytes := (32 : Nat), zero := [AV.s { data := #[] : ByteArray }, AV.i IntKind.i64 (0 : Int), AV.i IntKind.i64 (0 : Int)] : TI }) es[i_1.toNat]!.sku (List.map c76 m_2), AV.b (mfind es[i_1.toNat]!.sku (List.map c76 m_2)).isSome] else mget (zeroA { desc := TypeDesc.struct #[{ name := "Sku", type := (9 : Nat), offset := (0 : Nat), embedded := false, tag := "", pkgPath := "", byteOffset := (0 : Nat) : Field }, { name := "Qty", type := (3 : Nat), offset := (1 : Nat), embedded := false, tag := "", pkgPath := "", byteOffset := (16 : Nat) : Field }, { name := "Parts", type := (3 : Nat), offset := (2 : Nat), embedded := false, tag := "", pkgPath := "", byteOffset := (24 : Nat) : Field }], size := (3 : Nat), bytes := (32 : Nat), zero := [AV.s { data := #[] : ByteArray }, AV.i IntKind.i64 (0 : Int), AV.i IntKind.i64 (0 : Int)] : TI }) es[i_1.toNat]!.sku (List.map c76 m_2)) = AV.agg [AV.s (lkp es[i_1.toNat]!.sku m_2).sku, AV.i IntKind.i64 (lkp es[i_1.toNat]!.sku m_2).qty, AV.i IntKind.i64 (lkp es[i_1.toNat]!.sku m_2).parts]) ∧ (ZeroIs Try.prog (55 : Nat) (zeroA { desc := TypeDesc.struct #[{ name := "Sku", type := (9 : Nat), offset := (0 : Nat), embedded := false, tag := "", pkgPath := "", byteOffset := (0 : Nat) : Field }, { name := "Qty", type := (3 : Nat), offset := (1 : Nat), embedded := false, tag := "", pkgPath := "", byteOffset := (16 : Nat) : Field }, { name := "Parts", type := (3 : Nat), offset := (2 : Nat), embedded := false, tag := "", pkgPath := "", byteOffset := (24 : Nat) : Field }], size := (3 : Nat), bytes := (32 : Nat), zero := [AV.s { data := #[] : ByteArray }, AV.i IntKind.i64 (0 : Int), AV.i IntKind.i64 (0 : Int)] : TI }))) cx [(3, { tell := some (.agg [.s ((lkp es[i_1.toNat]!.sku m_2).sku), .i .i64 ((lkp es[i_1.toNat]!.sku m_2).qty), .i .i64 ((lkp es[i_1.toNat]!.sku m_2).parts)]) })] [4, 15, 16, 17, 6, 7] [14, 6, 7] ⟨(told_mget (enc := c76) (fun b ↦ AV.agg [AV.s b.sku, AV.i IntKind.i64 b.qty, AV.i IntKind.i64 b.parts]) (fun _ => rfl) rfl (es[i_1.toNat]!.sku) (m_2)), (show _ = _ from by kernel_rfl)⟩ ?_
  refine sn ?_
  refine sq ?_
  refine rg (A := True) cx [] [4, 15, 16, 17, 6, 7] [14, 6, 7] trivial ?_
  refine sn ?_
  refine sq ?_
  refine rg (A := (AV.i IntKind.i64 (IntKind.i64.wrap ((lkp es[i_1.toNat]!.sku m_2).qty + es[i_1.toNat]!.qty)) = AV.i IntKind.i64 ((lkp es[i_1.toNat]!.sku m_2).qty + es[i_1.toNat]!.qty))) cx [(4, { tell := some (.i .i64 ((lkp es[i_1.toNat]!.sku m_2).qty + es[i_1.toNat]!.qty)) })] [4, 15, 16, 17, 6, 7] [14, 6, 7] (told_i64 ?g3 ?g4) ?_; rotate_left 2
  refine sn ?_
  refine sq ?_
  refine rg (A := (AV.i IntKind.i64 (IntKind.i64.wrap ((lkp es[i_1.toNat]!.sku m_2).parts + (1 : Int))) = AV.i IntKind.i64 ((lkp es[i_1.toNat]!.sku m_2).parts + (1 : Int)))) cx [(2, { tell := some (.i .i64 ((lkp es[i_1.toNat]!.sku m_2).parts + (1 : Int))) })] [4, 15, 16, 17, 6, 7] [14, 6, 7] (told_i64 ?g5 ?g6) ?_; rotate_left 2
  refine sn ?_
  refine rg (A := (mput es[i_1.toNat]!.sku (AV.agg [AV.s es[i_1.toNat]!.sku, AV.i IntKind.i64 ((lkp es[i_1.toNat]!.sku m_2).qty + es[i_1.toNat]!.qty), AV.i IntKind.i64 ((lkp es[i_1.toNat]!.sku m_2).parts + (1 : Int))]) (List.map c76 m_2) = List.map c76 (mset es[i_1.toNat]!.sku { sku := es[i_1.toNat]!.sku, qty := (lkp es[i_1.toNat]!.sku m_2).qty + es[i_1.toNat]!.qty, parts := (lkp es[i_1.toNat]!.sku m_2).parts + (1 : Int) : Line } m_2))) cx [(4, { rows := some (List.map c76 (mset es[i_1.toNat]!.sku { sku := es[i_1.toNat]!.sku, qty := (lkp es[i_1.toNat]!.sku m_2).qty + es[i_1.toNat]!.qty, parts := (lkp es[i_1.toNat]!.sku m_2).parts + (1 : Int) : Line } m_2)) })] [4, 15, 16, 17] [14] (mput_map (enc := c76) (fun b ↦ AV.agg [AV.s b.sku, AV.i IntKind.i64 b.qty, AV.i IntKind.i64 b.parts]) (fun _ => rfl) (es[i_1.toNat]!.sku) ({ sku := es[i_1.toNat]!.sku, qty := (lkp es[i_1.toNat]!.sku m_2).qty + es[i_1.toNat]!.qty, parts := (lkp es[i_1.toNat]!.sku m_2).parts + (1 : Int) : Line }) (m_2)) ?_
  refine q_blk_normal ?_
  refine sn ?_
  refine rg (A := (AV.i IntKind.i64 (IntKind.i64.wrap (i_1 + (1 : Int))) = AV.i IntKind.i64 (i_1 + (1 : Int)))) cx [(0, { tell := some (.i .i64 (i_1 + (1 : Int))) })] [4, 15, 16, 17] [14] (told_i64 (by omega) (by omega)) ?_
  refine sn ?_
  refine loop_next ((i_1 + (1 : Int), mset es[i_1.toNat]!.sku { sku := es[i_1.toNat]!.sku, qty := (lkp es[i_1.toNat]!.sku m_2).qty + es[i_1.toNat]!.qty, parts := (lkp es[i_1.toNat]!.sku m_2).parts + (1 : Int) : Line } m_2)) (by kernel_rfl) (show ((↑es.length : Int) - (i_1 + (1 : Int))).toNat < ((↑es.length : Int) - i_1).toNat from (by omega)) (show invF es (i_1 + (1 : Int)) (mset es[i_1.toNat]!.sku { sku := es[i_1.toNat]!.sku, qty := (lkp es[i_1.toNat]!.sku m_2).qty + es[i_1.toNat]!.qty, parts := (lkp es[i_1.toNat]!.sku m_2).parts + (1 : Int) : Line } m_2) from ?g7); rotate_left 1
  refine st_exit 0 (by kernel_rfl) ?_
  refine q_seq_exit ?_
  refine q_seq_exit ?_
  refine q_blk_hit ?_
  refine sn ?_
  refine sq ?_
  refine rg (A := _ ∧ ((0 : Int) = (0 : Int)) ∧ ((↑m_2.length : Int) = (↑m_2.length : Int)) ∧ ((32 : Nat) * m_2.length ≤ (281474976710656 : Nat)) ∧ (m_2.length ≤ maxLen)) cx [(1, { tell := some (.i .i64 ((↑m_2.length : Int))) }), (2, { n := m_2.length, flat := true })] [4, 8] [14, 45, 8] ⟨(told_len c76 m_2), (by kernel_rfl), (by kernel_rfl), (by omega), (by (simp only [Go.maxLen]; omega))⟩ ?_
  refine sn ?_
  refine sq ?_
  refine sq ?_
  refine rg (A := True) cx [] [8, 47] [14, 45, 8, 47] trivial ?_
  refine sn ?_
  refine st_block 2 (by kernel_rfl) ?_
  refine st_loop (X := List (ByteArray × Line) × List Line × List Nat) (fun x => ⟨[(8, .ptr (8) (0) (0) (0)), (47, .own 47 0)], [(14, ⟨0, 76, .map (List.map c76 x.fst)⟩), (45, ⟨0, 55, .row 3 (List.map c55 x.snd.fst)⟩), (8, ⟨0, 51, .var [.own 45 0]⟩), (47, ⟨0, 76, .iter (.own 14 0) ((List.map c76 m_2).length) (x.snd.snd)⟩)]⟩) (fun x ↦ decS x.fst x.snd.fst x.snd.snd) (fun x ↦ invS es x.fst x.snd.fst x.snd.snd) [8, 47] [14, 45, 8, 47] ((m_2, [], [])) (by kernel_rfl) (by kernel_rfl) (show invS es m_2 [] [] from ?g8) ?_; rotate_left 1
  rintro ⟨m_9, l_10, seen_11⟩ h_12
  obtain ⟨h_13, h_14, h_15, h_16⟩ : m_9 = fillL es ∧ (↑l_10.length : Int) = (↑seen_11.length : Int) ∧ seen_11.length ≤ m_9.length ∧ isSeen m_9 seen_11 l_10 := h_12
  refine sq ?_
  refine st_next cx 47 48 47 14 0 ((List.map c76 m_2).length) ⟨0, 76, .iter (.own 14 0) ((List.map c76 m_2).length) (seen_11)⟩ ⟨0, 76, .map (List.map c76 m_9)⟩ (seen_11) (List.map c76 m_9) [8, 47, 49] [14, 45, 8, 47] (σ0 := ⟨[(8, .ptr (8) (0) (0) (0)), (47, .own 47 0), (49, .b (false))], [(14, ⟨0, 76, .map (List.map c76 m_9)⟩), (45, ⟨0, 55, .row 3 (List.map c55 l_10)⟩), (8, ⟨0, 51, .var [.own 45 0]⟩), (47, ⟨0, 76, .iter (.own 14 0) ((List.map c76 m_2).length) (seen_11)⟩)]⟩) (σ1 := fun j_18 => ⟨[(8, .ptr (8) (0) (0) (0)), (47, .own 47 0), (49, .b (true))], [(14, ⟨0, 76, .map (List.map c76 m_9)⟩), (45, ⟨0, 55, .row 3 (List.map c55 l_10)⟩), (8, ⟨0, 51, .var [.own 45 0]⟩), (47, ⟨0, 76, .iter (.own 14 0) ((List.map c76 m_2).length) (seen_11 ++ [j_18])⟩)]⟩) ?g9 (fun h_17 => ?_) (fun j_18 h_19 h_20 => ?_) (by kernel_rfl) (by kernel_rfl) (by kernel_rfl) (by kernel_rfl) (by kernel_rfl) (by kernel_rfl) (by kernel_rfl) (by kernel_rfl) (by kernel_rfl) (fun _ => by kernel_rfl); rotate_left 1
  refine sn ?_
  refine sq ?_
  refine st_false (by kernel_rfl) (by kernel_rfl) ?_
  refine st_exit 2 (by kernel_rfl) ?_
  refine q_seq_exit ?_
  refine q_seq_exit ?_
  refine q_blk_hit ?_
  refine sn ?_
  refine sq ?_
  have hl_21 := (rng_pdqL l_10)
  refine rg (A := (AV.own (45) (0) = AV.own (45) (0)) ∧ (IOConG Try.prog (60 : FuncId) (61 : FuncId) (some (51 : Nat)) true (55 : Nat) (3 : Nat) (List.map c55 l_10) (List.map c55 (pdqL l_10)))) cx [(3, { rows := some (List.map c55 (pdqL l_10)) })] [8] [45, 8] ⟨(by kernel_rfl), (io60 (l_10) ?g10)⟩ ?_; rotate_left 1
  refine sn ?_
  refine sq ?_
  refine rg (A := True) cx [] [2, 3] [45] trivial ?_
  refine sn ?_
  refine st_ret (by kernel_rfl) ?_
  refine q_ret (r := .tup [.sl (List.map c55 (pdqL l_10)), .i .i64 ((0 : Int))]) (obl := []) (by kernel_rfl) trivial (AVle.tup (ZLe.cons (AVle.eq (show AV.sl (List.map c55 (pdqL l_10)) = AV.sl (List.map c55 (linesV es).fst) from ?g12)) (ZLe.cons (AVle.eq (show AV.i IntKind.i64 (0 : Int) = AV.i IntKind.i64 (linesV es).snd from ?g11)) ZLe.nil))); rotate_left 2
  refine sn ?_
  refine sq ?_
  refine st_true (by kernel_rfl) (by kernel_rfl) ?_
  refine st_skip (by kernel_rfl) ?_
  refine sn ?_
  refine st_block 3 (by kernel_rfl) ?_
  refine sq ?_
  refine rg (A := ((List.map c76 m_2).length = (List.map c76 m_9).length) ∧ (entryIs (List.map c76 m_9) (seen_11 ++ [j_18]) [AV.s m_9[j_18]!.fst, AV.agg [AV.s m_9[j_18]!.snd.sku, AV.i IntKind.i64 m_9[j_18]!.snd.qty, AV.i IntKind.i64 m_9[j_18]!.snd.parts]])) cx [(0, { row := [.s (m_9[j_18]!.fst), .agg [.s (m_9[j_18]!.snd.sku), .i .i64 (m_9[j_18]!.snd.qty), .i .i64 (m_9[j_18]!.snd.parts)]] })] [8, 47, 10] [14, 45, 8, 47, 10] ⟨?g13, (by (refine entry_map ?_ rfl; simp only [List.length_map] at *; omega))⟩ ?_; rotate_left 1
  refine sn ?_
  refine rg (A := (55 = (55 : Nat)) ∧ ((3 : Nat) = 3) ∧ ([AV.s { data := #[] : ByteArray }, AV.i IntKind.i64 (0 : Int), AV.i IntKind.i64 (0 : Int)].length = (3 : Nat)) ∧ (∀ (r : List AV), r ∈ List.map c55 [m_9[j_18]!.snd] → r.length = 3) ∧ ((List.map c55 l_10).length + (List.map c55 [m_9[j_18]!.snd]).length ≤ maxLen) ∧ (((List.map c55 l_10).length + (List.map c55 [m_9[j_18]!.snd]).length) * (32 : Nat) ≤ (140737488355328 : Nat)) ∧ (List.map c55 l_10 ++ List.map c55 [m_9[j_18]!.snd] = List.map c55 (l_10 ++ [m_9[j_18]!.snd]))) cx [(3, { rows := some (List.map c55 (l_10 ++ [m_9[j_18]!.snd])) })] [8, 47] [14, 45, 8, 47] ⟨(by kernel_rfl), (by kernel_rfl), (by kernel_rfl), (by (with_reducible refine len_map (fun _ => ?_) _; kernel_rfl)), ?g14, ?g15, (by (with_reducible refine app_map ?_; kernel_rfl))⟩ ?_; rotate_left 2
  refine q_blk_normal ?_
  refine sn ?_
  refine loop_next ((m_9, l_10 ++ [m_9[j_18]!.snd], seen_11 ++ [j_18])) (by kernel_rfl) (show m_9.length - (seen_11 ++ [j_18]).length < m_9.length - seen_11.length from ?g16) (show invS es m_9 (l_10 ++ [m_9[j_18]!.snd]) (seen_11 ++ [j_18]) from ?g17); rotate_left 2
  revert h_0; rotate_left
  revert h_0; rotate_left
  revert h_0; rotate_left
  revert h_0 i_1 m_2 h_4 h_5 h_6 h_7 h_8; rotate_left
  revert h_0 i_1 m_2 h_4 h_5 h_6 h_7 h_8; rotate_left
  revert h_0 i_1 m_2 h_4 h_5 h_6 h_7 h_8; rotate_left
  revert h_0 i_1 m_2 h_4 h_5 h_6 h_7 h_8; rotate_left
  revert h_0 i_1 m_2 h_4 h_5 h_6 h_7 h_8; rotate_left
  revert h_0 i_1 m_2 h_4 h_5 h_6 h_7 h_8; rotate_left
  revert h_0 i_1 m_2 h_4 h_5 h_6 h_7 h_8 m_9 l_10 seen_11 h_13 h_14 h_15 h_16; rotate_left
  clear hl_21; revert h_0 i_1 m_2 h_4 h_5 h_6 h_7 h_8 m_9 l_10 seen_11 h_13 h_14 h_15 h_16 h_17; rotate_left
  clear hl_21; revert h_0 i_1 m_2 h_4 h_5 h_6 h_7 h_8 m_9 l_10 seen_11 h_13 h_14 h_15 h_16 h_17; rotate_left
  clear hl_21; revert h_0 i_1 m_2 h_4 h_5 h_6 h_7 h_8 m_9 l_10 seen_11 h_13 h_14 h_15 h_16 h_17; rotate_left
  revert h_0 i_1 m_2 h_4 h_5 h_6 h_7 h_8 m_9 l_10 seen_11 h_13 h_14 h_15 h_16 j_18 h_19 h_20; rotate_left
  revert h_0 i_1 m_2 h_4 h_5 h_6 h_7 h_8 m_9 l_10 seen_11 h_13 h_14 h_15 h_16 j_18 h_19 h_20; rotate_left
  revert h_0 i_1 m_2 h_4 h_5 h_6 h_7 h_8 m_9 l_10 seen_11 h_13 h_14 h_15 h_16 j_18 h_19 h_20; rotate_left
  revert h_0 i_1 m_2 h_4 h_5 h_6 h_7 h_8 m_9 l_10 seen_11 h_13 h_14 h_15 h_16 j_18 h_19 h_20; rotate_left
  revert h_0 i_1 m_2 h_4 h_5 h_6 h_7 h_8 m_9 l_10 seen_11 h_13 h_14 h_15 h_16 j_18 h_19 h_20; rotate_left
  case g0 => intro h; rw [linesV_no h]
  case g1 => intro h; rw [linesV_no h]; rfl
  case g2 => intro _; exact ⟨by omega, by omega, by simp, by simp [fillL]⟩
  case g3 => intro h i m h0 h1 h2 h3 h4; subst h3; have := fill_bound (Classical.not_not.1 h) h0 h1 es[i.toNat]!.sku; have := qty_at (Classical.not_not.1 h) h0 h4; omega
  case g4 => intro h i m h0 h1 h2 h3 h4; subst h3; have := fill_bound (Classical.not_not.1 h) h0 h1 es[i.toNat]!.sku; have := qty_at (Classical.not_not.1 h) h0 h4; omega
  case g5 => intro h i m h0 h1 h2 h3 h4; subst h3; have := fill_bound (Classical.not_not.1 h) h0 h1 es[i.toNat]!.sku; omega
  case g6 => intro h i m h0 h1 h2 h3 h4; subst h3; have := fill_bound (Classical.not_not.1 h) h0 h1 es[i.toNat]!.sku; omega
  case g7 => intro h i m h0 h1 h2 h3 h4; exact invF_step h0 h2 h3 h4
  case g8 =>
    intro h i m h0 h1 h2 h3 h4
    refine ⟨by rw [h3, List.take_of_length_le (by omega)], by simp, by simp, ⟨by simp, by simp, rfl⟩⟩
  case g9 => intro h i m h0 h1 h2 h3 h4 m' l s k0 k1 k2 k3; rw [k0, h3, List.take_of_length_le (by omega)]
  case g13 => intro h i m h0 h1 h2 h3 h4 m' l s k0 k1 k2 k3; intros; rw [k0, h3, List.take_of_length_le (by omega)]
  case g10 => intro h i m h0 h1 h2 h3 h4 m' l s k0 k1 k2 k3; intros; have := fillL_len es; subst k0; omega
  case g11 => intro h i m h0 h1 h2 h3 h4 m' l s k0 k1 k2 k3; intros; rw [linesV_ok (Classical.not_not.1 h)]
  case g12 =>
    intro h i m h0 h1 h2 h3 h4 m' l s k0 k1 k2 k3 ha
    rw [linesV_ok (Classical.not_not.1 h)]
    subst k0
    rw [linesU_perm (isSeen_end k3 fun j hj => ha j (by rw [List.length_map]; exact hj))]
  case g14 =>
    intro h i m h0 h1 h2 h3 h4 m' l s k0 k1 k2 k3 j hj hn
    have := isSeen_more k3 (by rw [List.length_map] at hj; exact hj) hn
    have := fillL_len es
    subst k0
    simp only [List.length_map, List.length_cons, List.length_nil, Go.maxLen]
    omega
  case g15 =>
    intro h i m h0 h1 h2 h3 h4 m' l s k0 k1 k2 k3 j hj hn
    have := isSeen_more k3 (by rw [List.length_map] at hj; exact hj) hn
    have := fillL_len es
    subst k0
    simp only [List.length_map, List.length_cons, List.length_nil]
    omega
  case g16 =>
    intro h i m h0 h1 h2 h3 h4 m' l s k0 k1 k2 k3 j hj hn
    have := isSeen_more k3 (by rw [List.length_map] at hj; exact hj) hn
    rw [List.length_append, List.length_cons, List.length_nil]
    omega
  case g17 =>
    intro h i m h0 h1 h2 h3 h4 m' l s k0 k1 k2 k3 j hj hn
    rw [List.length_map] at hj
    have := isSeen_more k3 hj hn
    exact ⟨k0, by rw [List.length_append, List.length_append]; simp; omega, by rw [List.length_append]; simpa using this, isSeen_step k3 hj hn⟩
end Go.Proofs.Ytjngmlkaijpbgaa
namespace Go.Proofs.Ytjngmlkaijpbgaa
open Go.E
set_option maxRecDepth 100000
set_option maxHeartbeats 4000000
theorem dLt_iff {a b : Dot} : dLt a b = true ↔ a.rep < b.rep ∨ a.rep = b.rep ∧ a.num < b.num := by simp [dLt]
theorem dLt_irr (a : Dot) : ¬ dLt a a = true := by rw [dLt_iff]; omega
theorem dLt_trans {a b c : Dot} (h1 : dLt a b = true) (h2 : dLt b c = true) : dLt a c = true := by rw [dLt_iff] at *; omega
theorem dLt_total {a b : Dot} (h1 : ¬ dLt a b = true) (h2 : ¬ dLt b a = true) : a = b := by
  rw [dLt_iff] at *
  cases a; cases b
  simp only at *
  congr 1 <;> omega
def upE (es : List Entry) : Prop := es.Pairwise (fun a b => dLt a.dot b.dot = true)
def formE (es : List Entry) : Prop := (∀ e ∈ es, entE e = 0) ∧ upE es
theorem okL_iff (es : List Entry) : okL es = true ↔ formE es := by
  constructor
  · intro h
    refine ⟨fun e he => ?_, ?_⟩
    · obtain ⟨i, hi, rfl⟩ := List.mem_iff_getElem.1 he
      have := (okL_at h hi).1
      rwa [getElem!_pos es i hi] at this
    · unfold upE
      rw [List.pairwise_iff_getElem]
      have step : ∀ n i : Nat, (hi : i + n + 1 < es.length) → dLt es[i]!.dot es[i + n + 1]!.dot = true := by
        intro n
        induction n with
        | zero =>
          intro i hi
          have := (okL_at h hi).2
          rcases this with k | k
          · omega
          · simpa using k
        | succ n ih =>
          intro i hi
          have h1 := ih i (by omega)
          have h2 := (okL_at h (i := i + (n + 1) + 1) hi).2
          rcases h2 with k | k
          · omega
          · rw [show i + (n + 1) + 1 - 1 = i + n + 1 by omega] at k; exact dLt_trans h1 k
      intro i j hi hj hij
      have := step (j - i - 1) i (by omega)
      rw [show i + (j - i - 1) + 1 = j by omega, getElem!_pos es i hi, getElem!_pos es j hj] at this
      exact this
  · rintro ⟨h1, h2⟩
    unfold upE at h2
    rw [List.pairwise_iff_getElem] at h2
    unfold okL
    rw [allUp_iff]
    intro i hi
    rw [okAt_iff]
    refine ⟨h1 _ (bang_mem hi), ?_⟩
    by_cases e : i = 0
    · exact .inl e
    · refine .inr ?_
      have := h2 (i - 1) i (by omega) hi (by omega)
      rwa [getElem!_pos es (i - 1) (by omega), getElem!_pos es i hi]
theorem lst_iff (es : List Entry) : lstE es = 0 ↔ formE es := by
  rw [← okL_iff]
  exact ⟨lst_ok, fun h => by unfold lstE; rw [if_pos h]⟩
theorem formE_sub {l es : List Entry} (h : formE es) (hs : l.Sublist es) : formE l := ⟨fun e he => h.1 e (hs.subset he), List.Pairwise.sublist hs h.2⟩
theorem formE_dot {es : List Entry} (h : formE es) {x y : Entry} (hx : x ∈ es) (hy : y ∈ es) (hd : x.dot = y.dot) : x = y := by
  obtain ⟨i, hi, rfl⟩ := List.mem_iff_getElem.1 hx
  obtain ⟨j, hj, rfl⟩ := List.mem_iff_getElem.1 hy
  have hp := List.pairwise_iff_getElem.1 h.2
  by_cases e : i = j
  · subst e; rfl
  · rcases Nat.lt_or_gt_of_ne e with e | e
    · have := hp i j hi hj e; rw [hd] at this; exact absurd this (dLt_irr _)
    · have := hp j i hj hi e; rw [hd] at this; exact absurd this (dLt_irr _)
theorem upE_unique : ∀ {a b : List Entry}, upE a → upE b → (∀ e, e ∈ a ↔ e ∈ b) → a = b
  | [], [], _, _, _ => rfl
  | [], y :: b, _, _, h => by have := (h y).2 (by simp); cases this
  | x :: a, [], _, _, h => by have := (h x).1 (by simp); cases this
  | x :: a, y :: b, ha, hb, h => by
    have pa := List.pairwise_cons.1 ha
    have pb := List.pairwise_cons.1 hb
    have e : x = y := by
      apply Classical.byContradiction
      intro hne
      have h1 : x ∈ b := by
        rcases List.mem_cons.1 ((h x).1 (by simp)) with k | k
        · exact absurd k hne
        · exact k
      have h2 : y ∈ a := by
        rcases List.mem_cons.1 ((h y).2 (by simp)) with k | k
        · exact absurd k.symm hne
        · exact k
      exact dLt_irr _ (dLt_trans (pa.1 y h2) (pb.1 x h1))
    subst e
    rw [upE_unique pa.2 pb.2 fun e => ?_]
    constructor
    · intro he
      rcases List.mem_cons.1 ((h e).1 (by simp [he])) with k | k
      · subst k; exact absurd (pa.1 e he) (dLt_irr _)
      · exact k
    · intro he
      rcases List.mem_cons.1 ((h e).2 (by simp [he])) with k | k
      · subst k; exact absurd (pb.1 e he) (dLt_irr _)
      · exact k
end Go.Proofs.Ytjngmlkaijpbgaa
namespace Go.Proofs.Ytjngmlkaijpbgaa
open Go.E
set_option maxRecDepth 100000
set_option maxHeartbeats 4000000
def lineR (es : List Entry) (s : ByteArray) : Line × Int := if lstE es = 0 then (if good s = true then (if ofSku es s = [] then (default, 0) else (lineOf es s, 0)) else (default, 5)) else (default, 1)
def totR (es : List Entry) : Int × Int := if lstE es = 0 then (sumE es, 0) else (0, 1)
theorem totR_no {es : List Entry} (h : ¬ lstE es = 0) : totR es = (0, 1) := by unfold totR; rw [if_neg h]
theorem totR_ok {es : List Entry} (h : lstE es = 0) : totR es = (sumE es, 0) := by unfold totR; rw [if_pos h]
theorem sumE_take {es : List Entry} {i : Int} (h0 : 0 ≤ i) (h : i < es.length) : sumE (es.take (i + 1).toNat) = sumE (es.take i.toNat) + es[i.toNat]!.qty := by
  rw [← take_step h0 h, sumE_app]
  simp [sumE]
theorem take_bound {es : List Entry} (h : lstE es = 0) {i : Int} (h0 : 0 ≤ i) (h1 : i ≤ es.length) : 0 ≤ sumE (es.take i.toNat) ∧ sumE (es.take i.toNat) ≤ 1000000 * i := by
  have h2 := sumE_bound (l := es.take i.toNat) fun e he => okL_mem h e (List.mem_of_mem_take he)
  rw [List.length_take] at h2
  omega
theorem of_cases (es : List Entry) (s : ByteArray) : (lstE es = 0 ∧ good s = true ∧ ofV es s = (ofSku es s, 0)) ∨ (¬ (lstE es = 0 ∧ good s = true) ∧ ¬ (ofV es s).2 = 0 ∧ lineR es s = (default, (ofV es s).2)) := by
  by_cases h : lstE es = 0
  · by_cases g : good s = true
    · exact .inl ⟨h, g, ofV_ok h g⟩
    · refine .inr ⟨fun k => g k.2, by rw [ofV_sku h g]; decide, ?_⟩
      unfold lineR
      rw [if_pos h, if_neg g, ofV_sku h g]
  · refine .inr ⟨fun k => h k.1, by rw [ofV_form h]; decide, ?_⟩
    unfold lineR
    rw [if_neg h, ofV_form h]
theorem line_none {es : List Entry} {s : ByteArray} (h : ¬ (ofV es s).2 = 0 ∨ ((ofV es s).1.length : Int) = 0) : lineR es s = (default, (ofV es s).2) := by
  rcases of_cases es s with ⟨h1, h2, h3⟩ | ⟨_, _, h3⟩
  · rw [h3] at h ⊢
    rcases h with h | h
    · exact absurd rfl h
    · have : ofSku es s = [] := List.eq_nil_of_length_eq_zero (by simp only at h; omega)
      unfold lineR
      rw [if_pos h1, if_pos h2, if_pos this]
  · exact h3
theorem line_some {es : List Entry} {s : ByteArray} (h : ¬ (¬ (ofV es s).2 = 0 ∨ ((ofV es s).1.length : Int) = 0)) : lstE es = 0 ∧ ofV es s = (ofSku es s, 0) ∧ lineR es s = (lineOf es s, 0) ∧ lstE (ofSku es s) = 0 := by
  rcases of_cases es s with ⟨h1, h2, h3⟩ | ⟨_, h2, _⟩
  · refine ⟨h1, h3, ?_, (lst_iff _).2 (formE_sub ((lst_iff _).1 h1) List.filter_sublist)⟩
    unfold lineR
    rw [if_pos h1, if_pos h2, if_neg]
    intro k
    apply h
    rw [h3, k]
    exact .inr rfl
  · exact absurd (.inl h2) h
def invT (es : List Entry) (n i : Int) : Prop := 0 ≤ i ∧ i ≤ es.length ∧ n = sumE (es.take i.toNat)
def decT (es : List Entry) (n i : Int) : Nat := (es.length - i).toNat
theorem invT_step {es : List Entry} {n i : Int} (h0 : 0 ≤ i) (h2 : n = sumE (es.take i.toNat)) (h : i < es.length) : invT es (n + es[i.toNat]!.qty) (i + 1) := ⟨by omega, by omega, by rw [sumE_take h0 h, h2]⟩
theorem invT_end {es : List Entry} {n i : Int} (h2 : n = sumE (es.take i.toNat)) (h : ¬ i < es.length) : n = sumE es := by rw [h2, List.take_of_length_le (by omega)]
theorem con38 (es : List Entry) (hs : es.length * 40 ≤ 140737488351232) : Con Try.prog 38 [.sl (es.map c28)] (.tup [.i .i64 (totR es).1, .i .i64 (totR es).2]) :=
  by
  refine con_lens 0 (c28) (es) (by kernel_rfl) Go.Proofs.Try.func38 (by kernel_rfl) fun hl_0 => ?_
  refine st_con tab_ok (by kernel_rfl) [.tmp 2, .tmp 3] 22 Go.Proofs.Try.func38 (by kernel_rfl) (by kernel_rfl) ?_
  intro e0 cx
  refine sq ?_
  refine rg (A := True) cx [] [0] [] trivial ?_
  refine sn ?_
  refine sq ?_
  refine sq ?_
  refine rg (A := _ ∧ (AV.b (lstE es != (0 : Int)) = AV.b (decide ¬lstE es = (0 : Int)))) cx [(1, { val := some (.i .i64 (lstE es)) }), (2, { tell := some (.b (decide ¬lstE es = (0 : Int))) })] [0, 9] [] ⟨(con16 (es)), (told_neq)⟩ ?_
  refine sn ?_
  refine st_dec (¬lstE es = (0 : Int)) (by kernel_rfl) (by kernel_rfl) (fun h_0 => ?_) (fun h_0 => ?_)
  refine sq ?_
  refine rg (A := True) cx [] [2, 3] [] trivial ?_
  refine sn ?_
  refine st_ret (by kernel_rfl) ?_
  refine q_seq_ret ?_
  refine q_ret (r := .tup [.i .i64 ((0 : Int)), .i .i64 ((1 : Int))]) (obl := []) (by kernel_rfl) trivial (AVle.tup (ZLe.cons (AVle.eq (show AV.i IntKind.i64 (0 : Int) = AV.i IntKind.i64 (totR es).fst from ?g1)) (ZLe.cons (AVle.eq (show AV.i IntKind.i64 (1 : Int) = AV.i IntKind.i64 (totR es).snd from ?g0)) ZLe.nil))); rotate_left 2
  refine st_skip (by kernel_rfl) ?_
  refine sn ?_
  refine sq ?_
  refine rg (A := True) cx [] [0, 4] [] trivial ?_
  refine sn ?_
  refine sq ?_
  refine sq ?_
  refine rg (A := _) cx [(1, { tell := some (.i .i64 ((↑es.length : Int))) })] [4, 10, 11, 12] [] (told_len c28 es) ?_
  refine sn ?_
  refine st_block 0 (by kernel_rfl) ?_
  refine st_loop (X := Int × Int) (fun x => ⟨[(4, .i .i64 (x.fst)), (10, .sl (List.map c28 es)), (11, .i .i64 ((↑es.length : Int))), (12, .i .i64 (x.snd))], []⟩) (fun x ↦ decT es x.fst x.snd) (fun x ↦ invT es x.fst x.snd) [4, 10, 11, 12] [] (((0 : Int), (0 : Int))) (by kernel_rfl) (by kernel_rfl) (show invT es (0 : Int) (0 : Int) from ?g2) ?_; rotate_left 1
  rintro ⟨n_1, i_2⟩ h_3
  obtain ⟨h_4, h_5, h_6⟩ : (0 : Int) ≤ i_2 ∧ i_2 ≤ (↑es.length : Int) ∧ n_1 = sumE (List.take i_2.toNat es) := h_3
  refine sq ?_
  refine rg (A := (AV.b (decide (i_2 < (↑es.length : Int))) = AV.b (decide (i_2 < (↑es.length : Int))))) cx [(0, { tell := some (.b (decide (i_2 < (↑es.length : Int)))) })] [4, 10, 11, 12, 13] [] (by kernel_rfl) ?_
  refine sn ?_
  refine sq ?_
  refine st_dec (i_2 < (↑es.length : Int)) (by kernel_rfl) (by kernel_rfl) (fun h_7 => ?_) (fun h_7 => ?_)
  refine st_skip (by kernel_rfl) ?_
  refine sn ?_
  refine sq ?_
  refine st_block 1 (by kernel_rfl) ?_
  refine sq ?_
  refine rg (A := ((0 : Int) ≤ i_2) ∧ ((List.map c28 es)[i_2.toNat]? = some (c28 es[i_2.toNat]!)) ∧ ((c28 es[i_2.toNat]!).length = (4 : Nat)) ∧ ((4 : Nat) ≤ [AV.i IntKind.i64 es[i_2.toNat]!.dot.rep, AV.i IntKind.i64 es[i_2.toNat]!.dot.num, AV.s es[i_2.toNat]!.sku, AV.i IntKind.i64 es[i_2.toNat]!.qty].length)) cx [(0, { row := (c28 es[i_2.toNat]!) })] [4, 10, 11, 12, 6] [6] ⟨(by (with_reducible assumption)), (by (with_reducible refine get_map ?_; omega)), (by kernel_rfl), (by (simp only [List.length_append, List.length_cons, List.length_nil]; omega))⟩ ?_
  refine sn ?_
  refine rg (A := (AV.i IntKind.i64 (IntKind.i64.wrap (n_1 + es[i_2.toNat]!.qty)) = AV.i IntKind.i64 (n_1 + es[i_2.toNat]!.qty))) cx [(3, { tell := some (.i .i64 (n_1 + es[i_2.toNat]!.qty)) })] [4, 10, 11, 12] [] (told_i64 ?g3 ?g4) ?_; rotate_left 2
  refine q_blk_normal ?_
  refine sn ?_
  refine rg (A := (AV.i IntKind.i64 (IntKind.i64.wrap (i_2 + (1 : Int))) = AV.i IntKind.i64 (i_2 + (1 : Int)))) cx [(0, { tell := some (.i .i64 (i_2 + (1 : Int))) })] [4, 10, 11, 12] [] (told_i64 (by omega) (by omega)) ?_
  refine sn ?_
  refine loop_next ((n_1 + es[i_2.toNat]!.qty, i_2 + (1 : Int))) (by kernel_rfl) (show ((↑es.length : Int) - (i_2 + (1 : Int))).toNat < ((↑es.length : Int) - i_2).toNat from (by omega)) (show invT es (n_1 + es[i_2.toNat]!.qty) (i_2 + (1 : Int)) from ?g5); rotate_left 1
  refine st_exit 0 (by kernel_rfl) ?_
  refine q_seq_exit ?_
  refine q_seq_exit ?_
  refine q_blk_hit ?_
  refine sn ?_
  refine sq ?_
  refine rg (A := True) cx [] [2, 3] [] trivial ?_
  refine sn ?_
  refine st_ret (by kernel_rfl) ?_
  refine q_ret (r := .tup [.i .i64 (n_1), .i .i64 ((0 : Int))]) (obl := []) (by kernel_rfl) trivial (AVle.tup (ZLe.cons (AVle.eq (show AV.i IntKind.i64 n_1 = AV.i IntKind.i64 (totR es).fst from ?g7)) (ZLe.cons (AVle.eq (show AV.i IntKind.i64 (0 : Int) = AV.i IntKind.i64 (totR es).snd from ?g6)) ZLe.nil))); rotate_left 2
  revert h_0; rotate_left
  revert h_0; rotate_left
  revert h_0; rotate_left
  revert h_0 n_1 i_2 h_4 h_5 h_6 h_7; rotate_left
  revert h_0 n_1 i_2 h_4 h_5 h_6 h_7; rotate_left
  revert h_0 n_1 i_2 h_4 h_5 h_6 h_7; rotate_left
  revert h_0 n_1 i_2 h_4 h_5 h_6 h_7; rotate_left
  revert h_0 n_1 i_2 h_4 h_5 h_6 h_7; rotate_left
  case g0 => intro h; rw [totR_no h]
  case g1 => intro h; rw [totR_no h]
  case g2 => intro _; exact ⟨by omega, by omega, rfl⟩
  case g3 => intro h n i h0 h1 h2 h3; have := take_bound (Classical.not_not.1 h) h0 h1; have := qty_at (Classical.not_not.1 h) h0 h3; omega
  case g4 => intro h n i h0 h1 h2 h3; have := take_bound (Classical.not_not.1 h) h0 h1; have := qty_at (Classical.not_not.1 h) h0 h3; omega
  case g5 => intro h n i h0 h1 h2 h3; exact invT_step h0 h2 h3
  case g6 => intro h n i h0 h1 h2 h3; rw [totR_ok (Classical.not_not.1 h)]
  case g7 => intro h n i h0 h1 h2 h3; rw [totR_ok (Classical.not_not.1 h), invT_end h2 h3]
theorem con34 (es : List Entry) (hs : es.length * 40 ≤ 140737488351232) : Con Try.prog 34 [.sl (es.map c28)] (.tup [.i .i64 (totR es).1, .i .i64 (totR es).2]) :=
  by
  refine con_lens 0 (c28) (es) (by kernel_rfl) Go.Proofs.Try.func34 (by kernel_rfl) fun hl_0 => ?_
  refine st_con tab_ok (by kernel_rfl) [.tmp 2, .tmp 3] 23 Go.Proofs.Try.func34 (by kernel_rfl) (by kernel_rfl) ?_
  intro e0 cx
  refine sq ?_
  refine rg (A := True) cx [] [0] [] trivial ?_
  refine sn ?_
  refine sq ?_
  refine sq ?_
  refine rg (A := _ ∧ (AV.b (lstE es != (0 : Int)) = AV.b (decide ¬lstE es = (0 : Int)))) cx [(1, { val := some (.i .i64 (lstE es)) }), (2, { tell := some (.b (decide ¬lstE es = (0 : Int))) })] [0, 8] [] ⟨(con18 (es)), (told_neq)⟩ ?_
  refine sn ?_
  refine st_dec (¬lstE es = (0 : Int)) (by kernel_rfl) (by kernel_rfl) (fun h_0 => ?_) (fun h_0 => ?_)
  refine sq ?_
  refine rg (A := True) cx [] [2, 3] [] trivial ?_
  refine sn ?_
  refine st_ret (by kernel_rfl) ?_
  refine q_seq_ret ?_
  refine q_ret (r := .tup [.i .i64 ((0 : Int)), .i .i64 ((1 : Int))]) (obl := []) (by kernel_rfl) trivial (AVle.tup (ZLe.cons (AVle.eq (show AV.i IntKind.i64 (0 : Int) = AV.i IntKind.i64 (totR es).fst from ?g1)) (ZLe.cons (AVle.eq (show AV.i IntKind.i64 (1 : Int) = AV.i IntKind.i64 (totR es).snd from ?g0)) ZLe.nil))); rotate_left 2
  refine st_skip (by kernel_rfl) ?_
  refine sn ?_
  refine sq ?_
  refine rg (A := True) cx [] [0, 4] [] trivial ?_
  refine sn ?_
  refine sq ?_
  refine sq ?_
  refine rg (A := True) cx [] [0, 4, 5] [] trivial ?_
  refine sn ?_
  refine st_block 0 (by kernel_rfl) ?_
  refine st_loop (X := Int × Int) (fun x => ⟨[(0, .sl (List.map c28 es)), (4, .i .i64 (x.fst)), (5, .i .i64 (x.snd))], []⟩) (fun x ↦ decT es x.fst x.snd) (fun x ↦ invT es x.fst x.snd) [0, 4, 5] [] (((0 : Int), (0 : Int))) (by kernel_rfl) (by kernel_rfl) (show invT es (0 : Int) (0 : Int) from ?g2) ?_; rotate_left 1
  rintro ⟨n_1, i_2⟩ h_3
  obtain ⟨h_4, h_5, h_6⟩ : (0 : Int) ≤ i_2 ∧ i_2 ≤ (↑es.length : Int) ∧ n_1 = sumE (List.take i_2.toNat es) := h_3
  refine sq ?_
  refine sq ?_
  refine rg (A := _ ∧ (AV.b (decide (i_2 < (↑es.length : Int))) = AV.b (decide (i_2 < (↑es.length : Int))))) cx [(2, { tell := some (.i .i64 ((↑es.length : Int))) }), (3, { tell := some (.b (decide (i_2 < (↑es.length : Int)))) })] [0, 4, 5, 12] [] ⟨(told_len c28 es), (by kernel_rfl)⟩ ?_
  refine sn ?_
  refine st_dec (i_2 < (↑es.length : Int)) (by kernel_rfl) (by kernel_rfl) (fun h_7 => ?_) (fun h_7 => ?_)
  refine st_skip (by kernel_rfl) ?_
  refine sn ?_
  refine sq ?_
  refine st_block 1 (by kernel_rfl) ?_
  refine rg (A := ((0 : Int) ≤ i_2) ∧ ((List.map c28 es)[i_2.toNat]? = some (c28 es[i_2.toNat]!)) ∧ ((c28 es[i_2.toNat]!).length = (4 : Nat)) ∧ (AV.i IntKind.i64 (IntKind.i64.wrap (n_1 + es[i_2.toNat]!.qty)) = AV.i IntKind.i64 (n_1 + es[i_2.toNat]!.qty))) cx [(3, { row := (c28 es[i_2.toNat]!) }), (6, { tell := some (.i .i64 (n_1 + es[i_2.toNat]!.qty)) })] [0, 4, 5] [] ⟨(by (with_reducible assumption)), (by (with_reducible refine get_map ?_; omega)), (by kernel_rfl), (told_i64 ?g3 ?g4)⟩ ?_; rotate_left 2
  refine q_blk_normal ?_
  refine sn ?_
  refine rg (A := (AV.i IntKind.i64 (IntKind.i64.wrap (i_2 + (1 : Int))) = AV.i IntKind.i64 (i_2 + (1 : Int)))) cx [(1, { tell := some (.i .i64 (i_2 + (1 : Int))) })] [0, 4, 5] [] (told_i64 (by omega) (by omega)) ?_
  refine sn ?_
  refine loop_next ((n_1 + es[i_2.toNat]!.qty, i_2 + (1 : Int))) (by kernel_rfl) (show ((↑es.length : Int) - (i_2 + (1 : Int))).toNat < ((↑es.length : Int) - i_2).toNat from (by omega)) (show invT es (n_1 + es[i_2.toNat]!.qty) (i_2 + (1 : Int)) from ?g5); rotate_left 1
  refine st_exit 0 (by kernel_rfl) ?_
  refine q_seq_exit ?_
  refine q_seq_exit ?_
  refine q_blk_hit ?_
  refine sn ?_
  refine sq ?_
  refine rg (A := True) cx [] [2, 3] [] trivial ?_
  refine sn ?_
  refine st_ret (by kernel_rfl) ?_
  refine q_ret (r := .tup [.i .i64 (n_1), .i .i64 ((0 : Int))]) (obl := []) (by kernel_rfl) trivial (AVle.tup (ZLe.cons (AVle.eq (show AV.i IntKind.i64 n_1 = AV.i IntKind.i64 (totR es).fst from ?g7)) (ZLe.cons (AVle.eq (show AV.i IntKind.i64 (0 : Int) = AV.i IntKind.i64 (totR es).snd from ?g6)) ZLe.nil))); rotate_left 2
  revert h_0; rotate_left
  revert h_0; rotate_left
  revert h_0; rotate_left
  revert h_0 n_1 i_2 h_4 h_5 h_6 h_7; rotate_left
  revert h_0 n_1 i_2 h_4 h_5 h_6 h_7; rotate_left
  revert h_0 n_1 i_2 h_4 h_5 h_6 h_7; rotate_left
  revert h_0 n_1 i_2 h_4 h_5 h_6 h_7; rotate_left
  revert h_0 n_1 i_2 h_4 h_5 h_6 h_7; rotate_left
  case g0 => intro h; rw [totR_no h]
  case g1 => intro h; rw [totR_no h]
  case g2 => intro _; exact ⟨by omega, by omega, rfl⟩
  case g3 => intro h n i h0 h1 h2 h3; have := take_bound (Classical.not_not.1 h) h0 h1; have := qty_at (Classical.not_not.1 h) h0 h3; omega
  case g4 => intro h n i h0 h1 h2 h3; have := take_bound (Classical.not_not.1 h) h0 h1; have := qty_at (Classical.not_not.1 h) h0 h3; omega
  case g5 => intro h n i h0 h1 h2 h3; exact invT_step h0 h2 h3
  case g6 => intro h n i h0 h1 h2 h3; rw [totR_ok (Classical.not_not.1 h)]
  case g7 => intro h n i h0 h1 h2 h3; rw [totR_ok (Classical.not_not.1 h), invT_end h2 h3]
theorem con37 (es : List Entry) (s : ByteArray) (hs : es.length * 40 ≤ 140737488351232) : Con Try.prog 37 [.sl (es.map c28), .s s] (.tup [.agg (c55 (lineR es s).1), .i .i64 (lineR es s).2]) :=
  by
  refine con_lens 0 (c28) (es) (by kernel_rfl) Go.Proofs.Try.func37 (by kernel_rfl) fun hl_0 => ?_
  refine st_con tab_ok (by kernel_rfl) [.cell 4 55, .tmp 5] 35 Go.Proofs.Try.func37 (by kernel_rfl) (by kernel_rfl) ?_
  intro e0 cx
  refine sq ?_
  refine rg (A := True) cx [] [0, 1, 4] [4] trivial ?_
  refine sn ?_
  refine sq ?_
  have hl_0 := (rng_ofV es)
  have hl_1 := (rng_ofV es s)
  refine rg (A := _) cx [(2, { val := some (.tup [.sl (List.map c28 (ofV es s).fst), .i .i64 ((ofV es s).snd)]) })] [1, 4, 6, 7] [4] (con23 (es) (s) (by (with_reducible assumption))) ?_
  refine sn ?_
  refine sq ?_
  refine sq ?_
  refine st_join (σ' := ⟨[(1, .s (s)), (4, .ptr (4) (0) (0) (0)), (6, .sl (List.map c28 (ofV es s).fst)), (7, .i .i64 ((ofV es s).snd)), (22, .b (decide (¬(ofV es s).snd = (0 : Int) ∨ (↑(ofV es s).fst.length : Int) = (0 : Int))))], [(4, ⟨0, 55, .var [.s ({ data := #[] : ByteArray }), .i .i64 ((0 : Int)), .i .i64 ((0 : Int))]⟩)]⟩) ?_ ?_
  refine st_split (¬(ofV es s).snd = (0 : Int)) (fun h_3 => ?_) (fun h_3 => ?_)
  refine rg (A := (AV.b ((ofV es s).snd != (0 : Int)) = AV.b true) ∧ (AV.b true = AV.b (decide (¬(ofV es s).snd = (0 : Int) ∨ (↑(ofV es s).fst.length : Int) = (0 : Int))))) cx [(1, { tell := some (.b (true)) }), (6, { tell := some (.b (decide (¬(ofV es s).snd = (0 : Int) ∨ (↑(ofV es s).fst.length : Int) = (0 : Int)))) })] [1, 4, 6, 7, 22] [4] ⟨(told_neqt h_3), (by simp only [eq_false h_3, told_simp1, told_simp2, and_true, true_and, and_false, false_and, or_true, true_or, or_false, false_or, not_true_eq_false, not_false_eq_true, decide_true, decide_false, Bool.decide_eq_true])⟩ ?_
  exact ⟨rfl, by kernel_rfl⟩
  refine rg (A := (AV.b ((ofV es s).snd != (0 : Int)) = AV.b (decide ¬(ofV es s).snd = (0 : Int))) ∧ _ ∧ _ ∧ (AV.b ((↑(ofV es s).fst.length : Int) == (0 : Int)) = AV.b (decide ((↑(ofV es s).fst.length : Int) = (0 : Int)))) ∧ (AV.b (decide ((↑(ofV es s).fst.length : Int) = (0 : Int))) = AV.b (decide (¬(ofV es s).snd = (0 : Int) ∨ (↑(ofV es s).fst.length : Int) = (0 : Int))))) cx [(1, { tell := some (.b (decide ¬(ofV es s).snd = (0 : Int))) }), (2, { tell := some (.b (false)) }), (4, { tell := some (.i .i64 ((↑(ofV es s).fst.length : Int))) }), (5, { tell := some (.b (decide ((↑(ofV es s).fst.length : Int) = (0 : Int)))) }), (6, { tell := some (.b (decide (¬(ofV es s).snd = (0 : Int) ∨ (↑(ofV es s).fst.length : Int) = (0 : Int)))) })] [1, 4, 6, 7, 22] [4] ⟨(told_neq), (told_false h_3), (told_len c28 (ofV es s).fst), (by kernel_rfl), (by simp only [eq_false h_3, told_simp1, told_simp2, and_true, true_and, and_false, false_and, or_true, true_or, or_false, false_or, not_true_eq_false, not_false_eq_true, decide_true, decide_false, Bool.decide_eq_true])⟩ ?_
  exact ⟨rfl, by kernel_rfl⟩
  refine sn ?_
  refine st_dec (¬(ofV es s).snd = (0 : Int) ∨ (↑(ofV es s).fst.length : Int) = (0 : Int)) (by kernel_rfl) (by kernel_rfl) (fun h_4 => ?_) (fun h_4 => ?_)
  refine sq ?_
  refine rg (A := True) cx [] [4, 5] [4] trivial ?_
  refine sn ?_
  refine st_ret (by kernel_rfl) ?_
  refine q_seq_ret ?_
  refine q_ret (r := .tup [.agg [.s ({ data := #[] : ByteArray }), .i .i64 ((0 : Int)), .i .i64 ((0 : Int))], .i .i64 ((ofV es s).snd)]) (obl := []) (by kernel_rfl) trivial (AVle.tup (ZLe.cons (AVle.eq (show AV.agg [AV.s { data := #[] : ByteArray }, AV.i IntKind.i64 (0 : Int), AV.i IntKind.i64 (0 : Int)] = AV.agg [AV.s (lineR es s).fst.sku, AV.i IntKind.i64 (lineR es s).fst.qty, AV.i IntKind.i64 (lineR es s).fst.parts] from ?g1)) (ZLe.cons (AVle.eq (show AV.i IntKind.i64 (ofV es s).snd = AV.i IntKind.i64 (lineR es s).snd from ?g0)) ZLe.nil))); rotate_left 2
  refine st_skip (by kernel_rfl) ?_
  refine sn ?_
  refine sq ?_
  refine rg (A := _) cx [(1, { val := some (.tup [.i .i64 ((totR (ofV es s).fst).fst), .i .i64 ((totR (ofV es s).fst).snd)]) })] [1, 4, 6, 8] [4] (con38 ((ofV es s).fst) (by omega)) ?_
  refine sn ?_
  refine sq ?_
  refine rg (A := _) cx [(3, { tell := some (.i .i64 ((↑(ofV es s).fst.length : Int))) })] [4, 5] [4] (told_len c28 (ofV es s).fst) ?_
  refine sn ?_
  refine st_ret (by kernel_rfl) ?_
  refine q_ret (r := .tup [.agg [.s (s), .i .i64 ((totR (ofV es s).fst).fst), .i .i64 ((↑(ofV es s).fst.length : Int))], .i .i64 ((0 : Int))]) (obl := []) (by kernel_rfl) trivial (AVle.tup (ZLe.cons (AVle.eq (show AV.agg [AV.s s, AV.i IntKind.i64 (totR (ofV es s).fst).fst, AV.i IntKind.i64 (↑(ofV es s).fst.length : Int)] = AV.agg [AV.s (lineR es s).fst.sku, AV.i IntKind.i64 (lineR es s).fst.qty, AV.i IntKind.i64 (lineR es s).fst.parts] from ?g3)) (ZLe.cons (AVle.eq (show AV.i IntKind.i64 (0 : Int) = AV.i IntKind.i64 (lineR es s).snd from ?g2)) ZLe.nil))); rotate_left 2
  revert h_4; rotate_left
  revert h_4; rotate_left
  revert h_4; rotate_left
  revert h_4; rotate_left
  case g0 => intro h; rw [line_none h]
  case g1 => intro h; rw [line_none h]; rfl
  case g2 => intro h; rw [(line_some h).2.2.1]
  case g3 =>
    intro h
    obtain ⟨h1, h2, h3, h4⟩ := line_some h
    rw [h2, h3]
    simp only
    rw [totR_ok h4]
    rfl
theorem con36 (a b : List Line) : Con Try.prog 36 [.sl (a.map c55), .sl (b.map c55)] (.b (decide (a = b))) :=
  by
  refine con_lens 0 (c55) (a) (by kernel_rfl) Go.Proofs.Try.func36 (by kernel_rfl) fun hl_0 => ?_
  refine con_lens 1 (c55) (b) (by kernel_rfl) Go.Proofs.Try.func36 (by kernel_rfl) fun hl_1 => ?_
  refine st_con tab_ok (by kernel_rfl) [.tmp 4] 26 Go.Proofs.Try.func36 (by kernel_rfl) (by kernel_rfl) ?_
  intro e0 cx
  refine sq ?_
  refine rg (A := True) cx [] [0, 1] [] trivial ?_
  refine sn ?_
  refine sq ?_
  refine sq ?_
  refine rg (A := _ ∧ _ ∧ (AV.b ((↑a.length : Int) != (↑b.length : Int)) = AV.b (decide ¬(↑a.length : Int) = (↑b.length : Int)))) cx [(1, { tell := some (.i .i64 ((↑a.length : Int))) }), (3, { tell := some (.i .i64 ((↑b.length : Int))) }), (4, { tell := some (.b (decide ¬(↑a.length : Int) = (↑b.length : Int))) })] [0, 1, 10] [] ⟨(told_len c55 a), (told_len c55 b), (told_neq)⟩ ?_
  refine sn ?_
  refine st_dec (¬(↑a.length : Int) = (↑b.length : Int)) (by kernel_rfl) (by kernel_rfl) (fun h_0 => ?_) (fun h_0 => ?_)
  refine sq ?_
  refine rg (A := True) cx [] [4] [] trivial ?_
  refine sn ?_
  refine st_ret (by kernel_rfl) ?_
  refine q_seq_ret ?_
  refine q_ret (r := .b (false)) (obl := []) (by kernel_rfl) trivial (AVle.eq (show AV.b false = AV.b (decide (a = b)) from ?g0)); rotate_left 1
  refine st_skip (by kernel_rfl) ?_
  refine sn ?_
  refine sq ?_
  refine sq ?_
  refine rg (A := True) cx [] [0, 1, 5] [] trivial ?_
  refine sn ?_
  refine st_block 0 (by kernel_rfl) ?_
  refine st_loop (X := Int) (fun x => ⟨[(0, .sl (List.map c55 a)), (1, .sl (List.map c55 b)), (5, .i .i64 (x))], []⟩) (fun x ↦ dec30 a x) (fun x ↦ inv30 a b x) [0, 1, 5] [] ((0 : Int)) (by kernel_rfl) (by kernel_rfl) (show inv30 a b (0 : Int) from ?g1) ?_; rotate_left 1
  intro i_1 h_2
  obtain ⟨h_3, h_4, h_5⟩ : (0 : Int) ≤ i_1 ∧ i_1 ≤ (↑a.length : Int) ∧ ∀ (j : Nat), (↑j : Int) < i_1 → a[j]! = b[j]! := h_2
  refine sq ?_
  refine sq ?_
  refine rg (A := _ ∧ (AV.b (decide (i_1 < (↑a.length : Int))) = AV.b (decide (i_1 < (↑a.length : Int))))) cx [(2, { tell := some (.i .i64 ((↑a.length : Int))) }), (3, { tell := some (.b (decide (i_1 < (↑a.length : Int)))) })] [0, 1, 5, 14] [] ⟨(told_len c55 a), (by kernel_rfl)⟩ ?_
  refine sn ?_
  refine st_dec (i_1 < (↑a.length : Int)) (by kernel_rfl) (by kernel_rfl) (fun h_6 => ?_) (fun h_6 => ?_)
  refine st_skip (by kernel_rfl) ?_
  refine sn ?_
  refine sq ?_
  refine st_block 1 (by kernel_rfl) ?_
  refine sq ?_
  refine ra (A := ((0 : Int) ≤ i_1) ∧ ((List.map c55 a)[i_1.toNat]? = some (c55 a[i_1.toNat]!)) ∧ ((c55 a[i_1.toNat]!).length = (3 : Nat)) ∧ ((3 : Nat) ≤ [AV.s a[i_1.toNat]!.sku, AV.i IntKind.i64 a[i_1.toNat]!.qty, AV.i IntKind.i64 a[i_1.toNat]!.parts].length) ∧ ((0 : Int) ≤ i_1) ∧ ((List.map c55 b)[i_1.toNat]? = some (c55 b[i_1.toNat]!)) ∧ ((c55 b[i_1.toNat]!).length = (3 : Nat)) ∧ ((3 : Nat) ≤ [AV.s b[i_1.toNat]!.sku, AV.i IntKind.i64 b[i_1.toNat]!.qty, AV.i IntKind.i64 b[i_1.toNat]!.parts].length) ∧ (AggEq Try.prog (55 : Nat) [AV.s a[i_1.toNat]!.sku, AV.i IntKind.i64 a[i_1.toNat]!.qty, AV.i IntKind.i64 a[i_1.toNat]!.parts] [AV.s b[i_1.toNat]!.sku, AV.i IntKind.i64 b[i_1.toNat]!.qty, AV.i IntKind.i64 b[i_1.toNat]!.parts] !decide ¬a[i_1.toNat]! = b[i_1.toNat]!)) cx [(2, { row := (c55 a[i_1.toNat]!) }), (6, { row := (c55 b[i_1.toNat]!) }), (8, { val := some (.b (decide ¬a[i_1.toNat]! = b[i_1.toNat]!)) })] [0, 1, 5, 25] [] ⟨(by (with_reducible assumption)), (by (with_reducible refine get_map ?_; omega)), (by kernel_rfl), (by (simp only [List.length_append, List.length_cons, List.length_nil]; omega)), (by (with_reducible assumption)), (by (with_reducible refine get_map ?_; omega)), (by kernel_rfl), (by (simp only [List.length_append, List.length_cons, List.length_nil]; omega)), (aggNe_dec (eq55 a[i_1.toNat]! b[i_1.toNat]!))⟩ ?_
  refine sn ?_
  refine st_dec (¬a[i_1.toNat]! = b[i_1.toNat]!) (by kernel_rfl) (by kernel_rfl) (fun h_7 => ?_) (fun h_7 => ?_)
  refine sq ?_
  refine rg (A := True) cx [] [4] [] trivial ?_
  refine sn ?_
  refine st_ret (by kernel_rfl) ?_
  refine q_blk_ret ?_
  refine q_seq_ret ?_
  refine q_seq_ret ?_
  refine q_blk_ret ?_
  refine q_seq_ret ?_
  refine q_ret (r := .b (false)) (obl := []) (by kernel_rfl) trivial (AVle.eq (show AV.b false = AV.b (decide (a = b)) from ?g2)); rotate_left 1
  refine st_skip (by kernel_rfl) ?_
  refine q_blk_normal ?_
  refine sn ?_
  refine rg (A := (AV.i IntKind.i64 (IntKind.i64.wrap (i_1 + (1 : Int))) = AV.i IntKind.i64 (i_1 + (1 : Int)))) cx [(1, { tell := some (.i .i64 (i_1 + (1 : Int))) })] [0, 1, 5] [] (told_i64 (by omega) (by omega)) ?_
  refine sn ?_
  refine loop_next (i_1 + (1 : Int)) (by kernel_rfl) (show ((↑a.length : Int) - (i_1 + (1 : Int))).toNat < ((↑a.length : Int) - i_1).toNat from (by omega)) (show inv30 a b (i_1 + (1 : Int)) from ?g3); rotate_left 1
  refine st_exit 0 (by kernel_rfl) ?_
  refine q_seq_exit ?_
  refine q_seq_exit ?_
  refine q_blk_hit ?_
  refine sn ?_
  refine sq ?_
  refine rg (A := True) cx [] [4] [] trivial ?_
  refine sn ?_
  refine st_ret (by kernel_rfl) ?_
  refine q_ret (r := .b (true)) (obl := []) (by kernel_rfl) trivial (AVle.eq (show AV.b true = AV.b (decide (a = b)) from ?g4)); rotate_left 1
  revert h_0; rotate_left
  revert h_0; rotate_left
  revert h_0 i_1 h_3 h_4 h_5 h_6 h_7; rotate_left
  revert h_0 i_1 h_3 h_4 h_5 h_6 h_7; rotate_left
  revert h_0 i_1 h_3 h_4 h_5 h_6; rotate_left
  case g0 => intro h; congr 1; symm; rw [decide_eq_false_iff_not]; rintro rfl; exact h rfl
  case g1 => intro h; exact ⟨by omega, by omega, fun j hj => by omega⟩
  case g2 => intro h i h1 h2 h3 h4 h5; congr 1; symm; rw [decide_eq_false_iff_not]; rintro rfl; exact h5 rfl
  case g3 =>
    intro h i h1 h2 h3 h4 h5
    refine ⟨by omega, by omega, fun j hj => ?_⟩
    by_cases e : j = i.toNat
    · subst e; exact Classical.not_not.1 h5
    · exact h3 j (by omega)
  case g4 => intro h i h1 h2 h3 h4; congr 1; symm; rw [decide_eq_true_iff]; exact bang_eq (Classical.not_not.1 h) fun j hj => h3 j (by omega)
end Go.Proofs.Ytjngmlkaijpbgaa
namespace Go.Proofs.Ytjngmlkaijpbgaa
open Go.E
set_option maxRecDepth 100000
set_option maxHeartbeats 4000000
open Go Go.Sort Go.RowKit Go.Lib Go.Shelf Go.Proofs
section
variable {α : Type} [Inhabited α] {enc : α → List Value} {k blk off : Nat}
/-- What is asked of 'swap', at two places that are not one. -/
def SwapAt (sf : Nat) (sb : Array Value) (enc : α → List Value) (k blk off size : Nat) : Prop :=
  ∀ (W : World) (dk : Array α), HoldsK enc k W blk off dk → dk.size = size → ∀ i j : Nat, i < size → j < size → i ≠ j →
    (callFunc sf (#[.int .i64 i, .int .i64 j] ++ sb)).run Try.prog W = .ok (.value (.tuple #[])) ((W.setCells blk (off + i * k) (enc dk[j]!)).setCells blk (off + j * k) (enc dk[i]!))
def boxW (w : World) (g : Nat) (lb : Array Value) (sf : Nat) (sb : Array Value) : World := w.alloc (.cells #[.func (.func g) #[] lb, .func (.func sf) #[] sb] 96)
theorem boxW_size (w : World) (g : Nat) (lb : Array Value) (sf : Nat) (sb : Array Value) : (boxW w g lb sf sb).heap.size = w.heap.size + 1 := by simp [boxW]
theorem boxW_fam {w0 : World} {d : Array α} (hH : HoldsK enc k w0 blk off d) (g : Nat) (lb : Array Value) (sf : Nat) (sb : Array Value) : Fam enc k blk off w0 d (boxW w0 g lb sf sb) := (Fam.start hH).alloc _
theorem boxW_cell {w0 : World} (hb : blk < w0.heap.size) (g : Nat) (lb : Array Value) (sf : Nat) (sb : Array Value) {W : World} {d' : Array α} (h : Fam enc k blk off (boxW w0 g lb sf sb) d' W) :
    W.cell? ⟨w0.heap.size, 0, none⟩ = some (.func (.func g) #[] lb) ∧ W.cell? ⟨w0.heap.size, 1, none⟩ = some (.func (.func sf) #[] sb) := by
  constructor
  · rw [h.cell (by show w0.heap.size < _; rw [boxW_size]; omega) (by show w0.heap.size ≠ blk; omega)]; simp [boxW]
  · rw [h.cell (by show w0.heap.size < _; rw [boxW_size]; omega) (by show w0.heap.size ≠ blk; omega)]; simp [boxW]
set_option maxHeartbeats 4000000 in
theorem swapRange_walk (hk : ∀ x, (enc x).length = k) (g : Nat) (lb : Array Value) (sf : Nat) (sb : Array Value) (w0 : World) (d : Array α) (hswap : SwapAt sf sb enc k blk off d.size) (hH : HoldsK enc k w0 blk off d) (hb : blk < w0.heap.size)
    (a b n : Nat) (hab : a + n ≤ b) (hbn : b + n ≤ d.size) (hsz : d.size < 4611686018427387904) :
    Calls Try.prog 131 #[.agg #[.func (.func g) #[] lb, .func (.func sf) #[] sb], .int .i64 a, .int .i64 b, .int .i64 n] w0 fun e w' =>
      e = .returned (.tuple #[]) ∧ ∃ d', Fam enc k blk off w0 d' w' ∧ d'.size = d.size ∧ PermIn a (b + n) d d' ∧ ∀ j, d'[j]! = d[swIx a b n j]! := by
  have HF : Hid (Fam enc k blk off w0 d (boxW w0 g lb sf sb)) := boxW_fam hH g lb sf sb
  have hb1 : blk < (boxW w0 g lb sf sb).heap.size := by rw [boxW_size]; omega
  have HH : Hid (HoldsK enc k (boxW w0 g lb sf sb) blk off d) := HF.out.holds hb hH rfl
  have HS : Hid (SwapAt sf sb enc k blk off d.size) := hswap
  clear hswap
  go_enter Try.func131, Try.ntmps131
  go_wp2
  go_loopw [8] (fun v8 wr => ∃ (i : Nat) (dk : Array α), v8 = .int .i64 i ∧ i ≤ n ∧ Hid (dk.size = d.size ∧ Fam enc k blk off (boxW w0 g lb sf sb) dk wr ∧ PermIn a (b + n) d dk ∧ ∀ j, dk[j]! = d[swIx a b i j]!)) (fun v8 _ => n - (intOf v8).toNat)
  case atStart => exact ⟨0, d, by go_num, by omega, rfl, Fam.start HH.out, permIn_refl d _ _, fun j => by rw [swIx_zero]⟩
  case round =>
    obtain ⟨i, dk, rfl, hin, HI⟩ := hrel
    have c := (boxW_cell hb g lb sf sb HI.out.2.1).2
    go_wp2
    · have hlt : i < n := by omega
      have hs := HS.out wr dk (HI.out.2.1.holds hb1 HH.out HI.out.1) HI.out.1 (a + i) (b + i) (by omega) (by omega) (by omega)
      rw [show ((a + i : Nat) : Int) = (a : Int) + (i : Int) by omega, show ((b + i : Nat) : Int) = (b : Int) + (i : Int) by omega] at hs
      rw [hs, Oper.upon_value]
      clear hs
      go_wp2
      go_roundw
      case rel =>
        obtain ⟨e1, e2, e3, e4⟩ := HI.out
        exact ⟨i + 1, swp dk (a + i) (b + i), by go_num, by omega, by rw [Sort.size_swp]; exact e1, e2.swap hk hb1 _ _ (by omega) (by omega),
          permIn_trans d dk _ _ _ e3 (swp_permIn dk a (b + n) (a + i) (b + i) (by omega) (by omega) (by omega) (by omega) (by omega)), sw_step (by omega) (by omega) e1 e4⟩
      case measure => simp [intOf]; omega
    · go_end0
      obtain ⟨e1, e2, e3, e4⟩ := HI.out
      have hi : i = n := by omega
      exact ⟨rfl, dk, HF.out.trans hb e2 e1, e1, e3, fun j => by rw [e4 j, hi]⟩
set_option maxHeartbeats 4000000 in
theorem rotate_walk (hk : ∀ x, (enc x).length = k) (g : Nat) (lb : Array Value) (sf : Nat) (sb : Array Value) (w0 : World) (d : Array α) (hswap : SwapAt sf sb enc k blk off d.size) (hH : HoldsK enc k w0 blk off d) (hb : blk < w0.heap.size)
    (a m b : Nat) (ham : a < m) (hmb : m < b) (hbn : b ≤ d.size) (hsz : d.size < 4611686018427387904) :
    Calls Try.prog 122 #[.agg #[.func (.func g) #[] lb, .func (.func sf) #[] sb], .int .i64 a, .int .i64 m, .int .i64 b] w0 fun e w' =>
      e = .returned (.tuple #[]) ∧ ∃ d', Fam enc k blk off w0 d' w' ∧ d'.size = d.size ∧ PermIn a b d d' ∧ ∀ j, d'[j]! = d[rotIx a m b j]! := by
  have HF : Hid (Fam enc k blk off w0 d (boxW w0 g lb sf sb)) := boxW_fam hH g lb sf sb
  have hb1 : blk < (boxW w0 g lb sf sb).heap.size := by rw [boxW_size]; omega
  have HH : Hid (HoldsK enc k (boxW w0 g lb sf sb) blk off d) := HF.out.holds hb hH rfl
  have HS : Hid (SwapAt sf sb enc k blk off d.size) := hswap
  have u := run_underlying (P := Try.prog) (tab_ok 96 _ rfl).1
  clear hswap
  go_enter Try.func122, Try.ntmps122
  go_wp2
  go_loopw [8, 9] (fun v8 v9 wr => ∃ (i j : Nat) (dk : Array α), v8 = .int .i64 i ∧ v9 = .int .i64 j ∧ 0 < i ∧ 0 < j ∧ a + i ≤ m ∧ m + j ≤ b ∧ Hid (dk.size = d.size ∧ Fam enc k blk off (boxW w0 g lb sf sb) dk wr ∧ PermIn a b d dk ∧ ∀ q, dk[rotIx (m - i) m (m + j) q]! = d[rotIx a m b q]!)) (fun v8 v9 _ => (intOf v8).toNat + (intOf v9).toNat)
  case atStart =>
    refine ⟨m - a, b - m, d, by go_num, by go_num, by omega, by omega, by omega, by omega, rfl, Fam.start HH.out, permIn_refl d _ _, fun q => ?_⟩
    rw [show m - (m - a) = a by omega, show m + (b - m) = b by omega]
  case round =>
    obtain ⟨i, j, dk, rfl, rfl, hi0, hj0, hi, hj, HI⟩ := hrel
    have c := boxW_cell hb g lb sf sb HI.out.2.1
    have c0 := c.1
    have c1 := c.2
    clear c
    have hw := HI.out.2.1.size
    by_cases hij : i = j
    · subst hij
      have hc := swapRange_walk hk g lb sf sb wr dk (HI.out.1 ▸ HS.out) (HI.out.2.1.holds hb1 HH.out HI.out.1) (by omega) (m - i) m i (by omega) (by rw [HI.out.1]; omega) (by rw [HI.out.1]; omega)
      rw [show ((m - i : Nat) : Int) = (m : Int) - (i : Int) by omega] at hc
      have HC := Box.mk hc
      clear hc
      go_wp2_with (go_at_call 131; refine HC.out.mono ?_; rintro e w' ⟨rfl, d', f1, f2, f3, f4⟩)
      go_end0
      obtain ⟨e1, e2, e3, e4⟩ := HI.out
      exact ⟨rfl, d', HF.out.trans hb (e2.trans hb1 f1 (by rw [f2, e1])) (by rw [f2, e1]), by rw [f2, e1], permIn_trans d dk d' _ _ e3 (perm_mono (by omega) (by omega) (by omega) f3), fun q => by rw [f4 q, rot_same (by omega), e4 q]⟩
    · by_cases hlt : j < i
      · have hc := swapRange_walk hk g lb sf sb wr dk (HI.out.1 ▸ HS.out) (HI.out.2.1.holds hb1 HH.out HI.out.1) (by omega) (m - i) m j (by omega) (by rw [HI.out.1]; omega) (by rw [HI.out.1]; omega)
        rw [show ((m - i : Nat) : Int) = (m : Int) - (i : Int) by omega] at hc
        have HC := Box.mk hc
        clear hc
        go_wp2_with (go_at_call 131; refine HC.out.mono ?_; rintro e w' ⟨rfl, d', f1, f2, f3, f4⟩)
        go_roundw
        case rel =>
          obtain ⟨e1, e2, e3, e4⟩ := HI.out
          exact ⟨i - j, j, d', by go_num, rfl, by omega, by omega, by omega, by omega, by rw [f2, e1], e2.trans hb1 f1 (by rw [f2]), permIn_trans d dk d' _ _ e3 (perm_mono (by omega) (by omega) (by omega) f3), fun q => by rw [f4, rot_left (by omega) hj0 hlt, e4 q]⟩
        case measure => simp [intOf]; omega
      · have hc := swapRange_walk hk g lb sf sb wr dk (HI.out.1 ▸ HS.out) (HI.out.2.1.holds hb1 HH.out HI.out.1) (by omega) (m - i) (m + j - i) i (by omega) (by rw [HI.out.1]; omega) (by rw [HI.out.1]; omega)
        rw [show ((m - i : Nat) : Int) = (m : Int) - (i : Int) by omega, show ((m + j - i : Nat) : Int) = (m : Int) + (j : Int) - (i : Int) by omega] at hc
        have HC := Box.mk hc
        clear hc
        go_wp2_with (go_at_call 131; refine HC.out.mono ?_; rintro e w' ⟨rfl, d', f1, f2, f3, f4⟩)
        go_roundw
        case rel =>
          obtain ⟨e1, e2, e3, e4⟩ := HI.out
          exact ⟨i, j - i, d', rfl, by go_num, by omega, by omega, by omega, by omega, by rw [f2, e1], e2.trans hb1 f1 (by rw [f2]), permIn_trans d dk d' _ _ e3 (perm_mono (by omega) (by omega) (by omega) f3), fun q => by rw [f4, rot_right (by omega) hi0 (by omega), e4 q]⟩
        case measure => simp [intOf]; omega
/-- What is asked of 'less': it answers, and turns nothing that was there. -/
def LessAt (g : Nat) (lb : Array Value) (enc : α → List Value) (k : Nat) (lt : α → α → Bool) (blk off size : Nat) (w0 : World) : Prop :=
  ∀ (W : World) (dk : Array α), Fam enc k blk off w0 dk W → dk.size = size → ∀ i j : Nat, i < size → j < size →
    Calls Try.prog g (#[.int .i64 i, .int .i64 j] ++ lb) W fun e w' => e = .returned (.bool (lt dk[i]! dk[j]!)) ∧ Below W.heap.size W w'
theorem LessAt.on {g : Nat} {lb : Array Value} {lt : α → α → Bool} {size : Nat} {w0 W : World} {d : Array α} (h : LessAt g lb enc k lt blk off size w0) (hb : blk < w0.heap.size) (hF : Fam enc k blk off w0 d W) (hs : d.size = size) : LessAt g lb enc k lt blk off size W :=
  fun W' dk hF' hs' i j hi hj => h W' dk (hF.trans hb hF' (by omega)) hs' i j hi hj
set_option maxHeartbeats 4000000 in
theorem insertion_walk (hk : ∀ x, (enc x).length = k) (lt : α → α → Bool) (g : Nat) (lb : Array Value) (sf : Nat) (sb : Array Value) (w0 : World) (d : Array α) (hg : Callable Try.prog g) (hless : LessAt g lb enc k lt blk off d.size w0) (hswap : SwapAt sf sb enc k blk off d.size) (hH : HoldsK enc k w0 blk off d) (hb : blk < w0.heap.size)
    (a b : Nat) (hab : a ≤ b) (hbn : b ≤ d.size) (hsz : d.size < 4611686018427387904) :
    Calls Try.prog 102 #[.agg #[.func (.func g) #[] lb, .func (.func sf) #[] sb], .int .i64 a, .int .i64 b] w0 fun e w' =>
      e = .returned (.tuple #[]) ∧ Fam enc k blk off w0 (Sort.insertionSort lt d a b) w' := by
  have HF := Box.mk (boxW_fam hH g lb sf sb)
  have hb1 : blk < (boxW w0 g lb sf sb).heap.size := by rw [boxW_size]; omega
  have HH := Box.mk (HF.out.holds hb hH rfl)
  have HS := Box.mk hswap
  have HL := Box.mk (hless.on hb HF.out rfl)
  have eg : ∀ args w, (callFunc g args).run Try.prog w = .ok (.enter g args) w := fun args w => run_callFunc hg w
  clear hswap hless
  go_enter Try.func102, Try.ntmps102
  go_wp2
  go_loopw [6] (fun vi wr => ∃ (i : Nat) (dk : Array α), vi = .int .i64 i ∧ a < i ∧ i ≤ b + 1 ∧ dk.size = d.size ∧ Box (Fam enc k blk off (boxW w0 g lb sf sb) dk wr) ∧ Box (insOuter lt a b i dk = insOuter lt a b (a + 1) d)) (fun vi _ => b + 1 - (intOf vi).toNat)
  case atStart => exact ⟨a + 1, d, by go_num, by omega, by omega, rfl, ⟨Fam.start HH.out⟩, ⟨rfl⟩⟩
  case round =>
    obtain ⟨i, dk, rfl, hai, hib, hsk, HW, HO⟩ := hrel
    go_wp2
    · go_loopw [7] (fun vj wr2 => ∃ (j : Nat) (dj : Array α), vj = .int .i64 j ∧ a ≤ j ∧ j ≤ i ∧ dj.size = d.size ∧ Box (Fam enc k blk off (boxW w0 g lb sf sb) dj wr2) ∧ Box (insInner lt a j dj = insInner lt a i dk)) (fun vj _ => (intOf vj).toNat)
      case atStart => exact ⟨i, dk, rfl, by omega, Nat.le_refl _, hsk, HW, ⟨rfl⟩⟩
      case round =>
        obtain ⟨j, dj, rfl, haj, hji, hsj, HJ, HI⟩ := hrel
        have hlt : i < b := by assumption
        have c := boxW_cell hb g lb sf sb HJ.out
        have c0 := c.1
        have c1 := c.2
        clear c
        by_cases hja : a < j
        · have hl := HL.out wr dj HJ.out hsj j (j - 1) (by omega) (by omega)
          rw [show (((j - 1 : Nat) : Int)) = (j : Int) - 1 by omega] at hl
          cases hlv : lt dj[j]! dj[j - 1]! with
          | true =>
            rw [hlv] at hl
            have HQ := Box.mk hl
            clear hl
            go_wp2_with (go_at_fn g; refine HQ.out.mono ?_; rintro e w' ⟨rfl, hB⟩; have c2 := (boxW_cell hb g lb sf sb (HJ.out.below hB)).2; have FB := Box.mk (HJ.out.below hB); clear hB)
            have hs := HS.out w' dj (FB.out.holds hb1 HH.out hsj) hsj j (j - 1) (by omega) (by omega) (by omega)
            rw [show (((j - 1 : Nat) : Int)) = (j : Int) - 1 by omega] at hs
            rw [hs, Oper.upon_value]
            clear hs
            go_wp2
            go_roundw
            case rel =>
              (repeat apply Exists.intro)
              refine ⟨⟨j - 1, swp dj j (j - 1), by congr 1 <;> omega, by omega, by omega, by rw [Sort.size_swp]; exact hsj, ⟨FB.out.swap hk hb1 _ _ (by omega) (by omega)⟩, ⟨?_⟩⟩, by rw [decide_eq_true hlt, show ((j - 1 : Nat) : Int) = (j : Int) - 1 by omega]⟩
              rw [← HI.out, insInner_go lt a j dj hja hlv]
            case measure => simp [intOf]; omega
          | false =>
            rw [hlv] at hl
            have HQ := Box.mk hl
            clear hl
            go_wp2_with (go_at_fn g; refine HQ.out.mono ?_; rintro e w' ⟨rfl, hB⟩)
            go_roundw
            case rel => exact ⟨i + 1, dj, by go_num, by omega, by omega, hsj, ⟨HJ.out.below hB⟩, ⟨by rw [← HO.out, insOuter_go _ _ _ _ _ hlt, ← HI.out, insInner_stop _ _ _ _ (Or.inr hlv)]⟩⟩
            case measure => simp [intOf]; omega
        · go_wp2
          go_roundw
          case rel => exact ⟨i + 1, dj, by go_num, by omega, by omega, hsj, HJ, ⟨by rw [← HO.out, insOuter_go _ _ _ _ _ hlt, ← HI.out, insInner_stop _ _ _ _ (Or.inl (by omega))]⟩⟩
          case measure => simp [intOf]; omega
    · have hge : ¬ i < b := by omega
      go_end0
      exact ⟨rfl, by unfold Sort.insertionSort; rw [← HO.out, insOuter_stop _ _ _ _ _ hge]; exact HF.out.trans hb HW.out hsk⟩
end
end Go.Proofs.Ytjngmlkaijpbgaa
namespace Go.Proofs.Ytjngmlkaijpbgaa
open Go.E
set_option maxRecDepth 100000
set_option maxHeartbeats 4000000
open Go Go.Sort Go.RowKit Go.Lib Go.Shelf Go.Proofs
section
variable {α : Type} [Inhabited α] {enc : α → List Value} {k blk off : Nat}
section
variable {lt0 lt : α → α → Bool} {d dA dB dC : Array α} {a m b start h h' : Nat}
theorem so_le (hO : SWO lt) (hs : SortedIn lt a b d) {i j : Nat} (h1 : a ≤ i) (h2 : i ≤ j) (h3 : j < b) : lt d[j]! d[i]! = false := by
  rcases Nat.lt_or_ge i j with h | h
  · exact hs i j h1 h h3
  · rw [show i = j by omega]; exact hO.irrefl _
theorem srA_t (hO : SWO lt) (hs : SortedIn lt m b d) {x : α} (h1 : h < b) (ht : lt d[h]! x = true) (h2 : m ≤ h') (h3 : h' ≤ h) : lt d[h']! x = true := by
  cases hc : lt d[h']! x with
  | true => rfl
  | false => rw [hO.ntrans _ _ _ (so_le hO hs h2 h3 h1) hc] at ht; cases ht
theorem srA_f (hO : SWO lt) (hs : SortedIn lt m b d) {x : α} (h1 : m ≤ h) (ht : lt d[h]! x = false) (h2 : h ≤ h') (h3 : h' < b) : lt d[h']! x = false := hO.ntrans _ _ _ (so_le hO hs h1 h2 h3) ht
theorem srB_f (hO : SWO lt) (hs : SortedIn lt a m d) {x : α} (h1 : h < m) (ht : lt x d[h]! = false) (h2 : a ≤ h') (h3 : h' ≤ h) : lt x d[h']! = false := hO.ntrans _ _ _ ht (so_le hO hs h2 h3 h1)
theorem srB_t (hO : SWO lt) (hs : SortedIn lt a m d) {x : α} (h1 : a ≤ h) (ht : lt x d[h]! = true) (h2 : h ≤ h') (h3 : h' < m) : lt x d[h']! = true := by
  cases hc : lt x d[h']! with
  | true => rfl
  | false => rw [hO.ntrans _ _ _ hc (so_le hO hs h1 h2 h3)] at ht; cases ht
theorem srC_f (hO : SWO lt) (hs1 : SortedIn lt a m d) (hs2 : SortedIn lt m b d) {p c c' : Nat} (hc : c < m) (hpc : m ≤ p - c) (ht : lt d[p - c]! d[c]! = false) (h2 : a ≤ c') (h3 : c' ≤ c) (h4 : p - c' < b) : lt d[p - c']! d[c']! = false :=
  hO.ntrans _ _ _ (hO.ntrans _ _ _ (so_le hO hs2 hpc (by omega) h4) ht) (so_le hO hs1 h2 h3 hc)
theorem srC_t (hO : SWO lt) (hs1 : SortedIn lt a m d) (hs2 : SortedIn lt m b d) {p c c' : Nat} (hc : a ≤ c) (hpc : p - c < b) (ht : lt d[p - c]! d[c]! = true) (h2 : c ≤ c') (h3 : c' < m) (h4 : m ≤ p - c') : lt d[p - c']! d[c']! = true := by
  cases hh : lt d[p - c']! d[c']! with
  | true => rfl
  | false => rw [hO.ntrans _ _ _ (hO.ntrans _ _ _ (so_le hO hs2 h4 (by omega) hpc) hh) (so_le hO hs1 hc h2 h3)] at ht; cases ht
theorem rotIx_id {a m b q : Nat} (h : a = m ∨ m = b) (h1 : a ≤ m) (h2 : m ≤ b) : rotIx a m b q = q := by
  unfold rotIx; rcases h with h | h
  · subst h; split
    · omega
    · rw [if_neg (by omega)]
  · subst h; rw [if_neg (by omega)]; split <;> omega
theorem ord_cut (ham : a < m) (hmb : m < b) (hC : Cut lt a m b start d) (hd : ∀ q, dA[q]! = d[rotIx start m ((a + b) / 2 + m - start) q]!) (ho : ∀ p q, a ≤ p → p < m → m ≤ q → q < b → lt0 d[q]! d[p]! = lt d[q]! d[p]!) :
    (∀ p q, a ≤ p → p < start → start ≤ q → q < (a + b) / 2 → lt0 dA[q]! dA[p]! = lt dA[q]! dA[p]!) ∧ (∀ p q, (a + b) / 2 ≤ p → p < (a + b) / 2 + m - start → (a + b) / 2 + m - start ≤ q → q < b → lt0 dA[q]! dA[p]! = lt dA[q]! dA[p]!) := by
  obtain ⟨c1, c2, c3, c4, c5, c6⟩ := hC
  clear c5 c6
  constructor
  · intro p q h1 h2 h3 h4
    rw [hd p, hd q]
    have e1 : rotIx start m ((a + b) / 2 + m - start) p = p := by unfold rotIx; rw [if_neg (by omega), if_neg (by omega)]
    have e2 : rotIx start m ((a + b) / 2 + m - start) q = q - start + m := by unfold rotIx; rw [if_pos (by omega)]
    rw [e1, e2]
    exact ho _ _ h1 (by omega) (by omega) (by omega)
  · intro p q h1 h2 h3 h4
    rw [hd p, hd q]
    have e1 : rotIx start m ((a + b) / 2 + m - start) p = p - ((a + b) / 2 + m - start - m) := by unfold rotIx; rw [if_neg (by omega), if_pos (by omega)]
    have e2 : rotIx start m ((a + b) / 2 + m - start) q = q := by unfold rotIx; rw [if_neg (by omega), if_neg (by omega)]
    rw [e1, e2]
    exact ho _ _ (by omega) (by omega) (by omega) (by omega)
theorem ord_keep {mid e : Nat} (h : PermIn a mid dA dB) (ho : ∀ p q, mid ≤ p → p < e → e ≤ q → q < b → lt0 dA[q]! dA[p]! = lt dA[q]! dA[p]!) : ∀ p q, mid ≤ p → p < e → e ≤ q → q < b → lt0 dB[q]! dB[p]! = lt dB[q]! dB[p]! := by
  intro p q h1 h2 h3 h4
  rw [h.2.1 p (by omega), h.2.1 q (by omega)]; exact ho p q h1 h2 h3 h4
theorem sorted_keep {mid e f : Nat} (h : PermIn a mid dA dB) (hm : mid ≤ e) (hs : SortedIn lt e f dA) : SortedIn lt e f dB := sorted_same hs fun i h1 h2 => h.2.1 i (by omega)
theorem sym_end {mid : Nat} (ham : a ≤ mid) (hmb : mid ≤ b) (hb : b ≤ d.size) (hA : PermIn a b d dA) (hx : ∀ p q, a ≤ p → p < mid → mid ≤ q → q < b → lt dA[q]! dA[p]! = false) (hB : PermIn a mid dA dB) (hBs : SortedIn lt a mid dB)
    (hC : PermIn mid b dB dC) (hCs : SortedIn lt mid b dC) : PermIn a b d dC ∧ SortedIn lt a b dC := by
  have sA : dA.size = d.size := hA.1
  have sB : dB.size = dA.size := hB.1
  refine ⟨permIn_trans d dA dC _ _ hA (permIn_trans dA dB dC _ _ (perm_mono (Nat.le_refl _) hmb (by omega) hB) (perm_mono ham (Nat.le_refl _) (by omega) hC)), ?_⟩
  exact sorted_halves (sorted_same hBs fun i h1 h2 => hC.2.1 i (by omega)) hCs (cross_perm' ham hmb (by omega) hC (cross_perm ham hmb (by omega) hB hx))
end
set_option maxHeartbeats 8000000 in
theorem symMerge_walk (hk : ∀ x, (enc x).length = k) (lt0 lt : α → α → Bool) (hO : SWO lt) (g : Nat) (lb : Array Value) (sf : Nat) (sb : Array Value) (hg : Callable Try.prog g) : ∀ (n : Nat) (w0 : World) (d : Array α) (hless : LessAt g lb enc k lt0 blk off d.size w0) (hswap : SwapAt sf sb enc k blk off d.size) (hH : HoldsK enc k w0 blk off d) (hb : blk < w0.heap.size)
    (a m b : Nat) (ham : a < m) (hmb : m < b) (hbn : b ≤ d.size) (hsz : d.size < 4611686018427387904) (hn : b - a ≤ n)
    (hord : ∀ p q, a ≤ p → p < m → m ≤ q → q < b → lt0 d[q]! d[p]! = lt d[q]! d[p]!) (hs1 : SortedIn lt a m d) (hs2 : SortedIn lt m b d),
    Calls Try.prog 103 #[.agg #[.func (.func g) #[] lb, .func (.func sf) #[] sb], .int .i64 a, .int .i64 m, .int .i64 b] w0 fun e w' =>
      e = .returned (.tuple #[]) ∧ ∃ d', Fam enc k blk off w0 d' w' ∧ d'.size = d.size ∧ PermIn a b d d' ∧ SortedIn lt a b d' := by
  intro n
  induction n with
  | zero => intros; omega
  | succ n ih =>
  intro w0 d hless hswap hH hb a m b ham hmb hbn hsz hn hord hs1 hs2
  have HF := Box.mk (boxW_fam hH g lb sf sb)
  have hb1 : blk < (boxW w0 g lb sf sb).heap.size := by rw [boxW_size]; omega
  have HH := Box.mk (HF.out.holds hb hH rfl)
  have HS := Box.mk hswap
  have HL := Box.mk (hless.on hb HF.out rfl)
  have HO := Box.mk hord
  have H1 := Box.mk hs1
  have H2 := Box.mk hs2
  have IH := Box.mk ih
  have eg : ∀ args w, (callFunc g args).run Try.prog w = .ok (.enter g args) w := fun args w => run_callFunc hg w
  clear hswap hless hord hs1 hs2 ih
  by_cases hone : m = a + 1
  · have hone1 : (m : Int) - a = 1 := by omega
    have hma1 : m ≤ a + 1 := by omega
    have HM := Box.mk hone
    clear hone
    go_enter Try.func103, Try.ntmps103
    go_wp2
    clear hone1
    go_loopw [8, 9] (fun v8 v9 wr => ∃ (i j : Nat), v8 = .int .i64 i ∧ v9 = .int .i64 j ∧ m ≤ i ∧ i ≤ j ∧ j ≤ b ∧ Box (Fam enc k blk off (boxW w0 g lb sf sb) d wr) ∧ Box ((∀ h, m ≤ h → h < i → lt d[h]! d[a]! = true) ∧ (∀ h, j ≤ h → h < b → lt d[h]! d[a]! = false))) (fun v8 v9 _ => (intOf v9).toNat - (intOf v8).toNat)
    case atStart => exact ⟨m, b, rfl, rfl, by omega, by omega, by omega, ⟨Fam.start HH.out⟩, ⟨fun h h1 h2 => by omega, fun h h1 h2 => by omega⟩⟩
    case round =>
      obtain ⟨i, j, rfl, rfl, hai, hij, hjb, HW, HI⟩ := hrel
      have c := boxW_cell hb g lb sf sb HW.out
      have c0 := c.1
      have c1 := c.2
      clear c
      by_cases hlt : i < j
      · have hl := HL.out wr d HW.out rfl ((i + j) / 2) a (by omega) (by omega)
        have ho := HO.out a ((i + j) / 2) (by omega) (by omega) (by omega) (by omega)
        cases hlv : lt d[(i + j) / 2]! d[a]! with
        | true =>
          rw [ho, hlv] at hl
          clear ho
          have HQ := Box.mk hl
          clear hl
          go_wp2_with (go_at_fn g; refine HQ.out.mono ?_; rintro e w' ⟨rfl, hB⟩; have FB := Box.mk (HW.out.below hB); clear hB)
          go_roundw
          case rel => exact ⟨(i + j) / 2 + 1, j, by go_num, rfl, by omega, by omega, by omega, FB, ⟨fun h h1 h2 => srA_t hO H2.out (by omega) hlv h1 (by omega), HI.out.2⟩⟩
          case measure => simp [intOf]; omega
        | false =>
          rw [ho, hlv] at hl
          clear ho
          have HQ := Box.mk hl
          clear hl
          go_wp2_with (go_at_fn g; refine HQ.out.mono ?_; rintro e w' ⟨rfl, hB⟩; have FB := Box.mk (HW.out.below hB); clear hB)
          go_roundw
          case rel => exact ⟨i, (i + j) / 2, rfl, by go_num, by omega, by omega, by omega, FB, ⟨HI.out.1, fun h h1 h2 => srA_f hO H2.out (by omega) hlv h1 h2⟩⟩
          case measure => simp [intOf]; omega
      · obtain rfl : i = j := by omega
        go_wp2
        go_loopw [11] (fun v11 wz => ∃ (c : Nat) (dk : Array α), v11 = .int .i64 c ∧ a ≤ c ∧ c + 1 ≤ i ∧ dk.size = d.size ∧ Box (Fam enc k blk off (boxW w0 g lb sf sb) dk wz) ∧ Box (PermIn a b d dk ∧ ∀ q, dk[q]! = d[rotIx a (a + 1) (c + 1) q]!)) (fun v11 _ => i - (intOf v11).toNat)
        case atStart => exact ⟨a, d, rfl, by omega, by omega, rfl, HW, ⟨permIn_refl d _ _, fun q => by rw [rotIx_one]⟩⟩
        case round =>
          obtain ⟨c, dk, rfl, hac, hci, hsk, HK, HD⟩ := hrel
          have c1' := (boxW_cell hb g lb sf sb HK.out).2
          clear c0 c1
          by_cases hend : c + 1 < i
          · have hs := HS.out wr dk (HK.out.holds hb1 HH.out hsk) hsk c (c + 1) (by omega) (by omega) (by omega)
            rw [show ((c + 1 : Nat) : Int) = (c : Int) + 1 by omega] at hs
            have hend1 : (c : Int) < (i : Int) - 1 := by omega
            go_wp2
            go_roundw
            case rel =>
              exact ⟨c + 1, swp dk c (c + 1), by go_num, by omega, by omega, by rw [Sort.size_swp]; exact hsk, ⟨HK.out.swap hk hb1 _ _ (by omega) (by omega)⟩,
                ⟨permIn_trans d dk _ _ _ HD.out.1 (swp_permIn dk a b c (c + 1) (by omega) (by omega) (by omega) (by omega) (by omega)), up_step hac (by omega) hsk HD.out.2⟩⟩
            case measure => simp [intOf]; omega
          · obtain rfl : i = c + 1 := by omega
            have hend1 : ¬ (c : Int) < ((c + 1 : Nat) : Int) - 1 := by omega
            go_wp2
            (try simp only [Exit.inBlock, Exit.then]); refine bodyPost_ret (results_none rfl _ _ _) rfl ?_
            obtain rfl := HM.out
            exact ⟨rfl, dk, HF.out.trans hb HK.out hsk, hsk, HD.out.1, merge_one_left hO H2.out (by omega) (by omega) (fun h h1 h2 => HI.out.1 h h1 h2) (fun h h1 h2 => HI.out.2 h h1 h2) HD.out.2⟩
  · by_cases hlast : b = m + 1
    · have hone1 : (b : Int) - m = 1 := by omega
      have hone0 : ¬ (m : Int) - a = 1 := by omega
      have hma1 : b ≤ m + 1 := by omega
      have hma2 : a + 2 ≤ m := by omega
      have HM := Box.mk hlast
      clear hlast hone
      go_enter Try.func103, Try.ntmps103
      go_wp2
      clear hone1 hone0
      have hx : ((m : Int) - a == 1) = false := beq_false_of_ne (by omega)
      try simp only [hx]
      clear hx
      go_loopw [12, 13] (fun v8 v9 wr => ∃ (i j : Nat), v8 = .int .i64 i ∧ v9 = .int .i64 j ∧ a ≤ i ∧ i ≤ j ∧ j ≤ m ∧ Box (Fam enc k blk off (boxW w0 g lb sf sb) d wr) ∧ Box ((∀ h, a ≤ h → h < i → lt d[m]! d[h]! = false) ∧ (∀ h, j ≤ h → h < m → lt d[m]! d[h]! = true))) (fun v8 v9 _ => (intOf v9).toNat - (intOf v8).toNat)
      case atStart => exact ⟨a, m, rfl, rfl, by omega, by omega, by omega, ⟨Fam.start HH.out⟩, ⟨fun h h1 h2 => by omega, fun h h1 h2 => by omega⟩⟩
      case round =>
        obtain ⟨i, j, rfl, rfl, hai, hij, hjb, HW, HI⟩ := hrel
        have c := boxW_cell hb g lb sf sb HW.out
        have c0 := c.1
        have c1 := c.2
        clear c
        by_cases hlt : i < j
        · have hl := HL.out wr d HW.out rfl m ((i + j) / 2) (by omega) (by omega)
          have ho := HO.out ((i + j) / 2) m (by omega) (by omega) (by omega) (by omega)
          cases hlv : lt d[m]! d[(i + j) / 2]! with
          | false =>
            rw [ho, hlv] at hl
            clear ho
            have HQ := Box.mk hl
            clear hl
            go_wp2_with (go_at_fn g; refine HQ.out.mono ?_; rintro e w' ⟨rfl, hB⟩; have FB := Box.mk (HW.out.below hB); clear hB)
            go_roundw
            case rel => exact ⟨(i + j) / 2 + 1, j, by go_num, rfl, by omega, by omega, by omega, FB, ⟨fun h h1 h2 => srB_f hO H1.out (by omega) hlv h1 (by omega), HI.out.2⟩⟩
            case measure => simp [intOf]; omega
          | true =>
            rw [ho, hlv] at hl
            clear ho
            have HQ := Box.mk hl
            clear hl
            go_wp2_with (go_at_fn g; refine HQ.out.mono ?_; rintro e w' ⟨rfl, hB⟩; have FB := Box.mk (HW.out.below hB); clear hB)
            go_roundw
            case rel => exact ⟨i, (i + j) / 2, rfl, by go_num, by omega, by omega, by omega, FB, ⟨HI.out.1, fun h h1 h2 => srB_t hO H1.out (by omega) hlv h1 h2⟩⟩
            case measure => simp [intOf]; omega
        · obtain rfl : i = j := by omega
          go_wp2
          go_loopw [15] (fun v11 wz => ∃ (c : Nat) (dk : Array α), v11 = .int .i64 c ∧ i ≤ c ∧ c ≤ m ∧ dk.size = d.size ∧ Box (Fam enc k blk off (boxW w0 g lb sf sb) dk wz) ∧ Box (PermIn a b d dk ∧ ∀ q, dk[q]! = d[rotIx c m (m + 1) q]!)) (fun v11 _ => (intOf v11).toNat - i)
          case atStart => exact ⟨m, d, rfl, by omega, by omega, rfl, HW, ⟨permIn_refl d _ _, fun q => by rw [rotIx_end]⟩⟩
          case round =>
            obtain ⟨c, dk, rfl, hac, hci, hsk, HK, HD⟩ := hrel
            have c1' := (boxW_cell hb g lb sf sb HK.out).2
            clear c0 c1
            by_cases hend : i < c
            · have hs := HS.out wr dk (HK.out.holds hb1 HH.out hsk) hsk c (c - 1) (by omega) (by omega) (by omega)
              rw [show ((c - 1 : Nat) : Int) = (c : Int) - 1 by omega] at hs
              go_wp2
              go_roundw
              case rel =>
                have hd := down_step (d := d) (dk := dk) (c := c - 1) (m := m) (by omega) (by omega) hsk
                rw [show c - 1 + 1 = c by omega] at hd
                exact ⟨c - 1, swp dk c (c - 1), by go_num, by omega, by omega, by rw [Sort.size_swp]; exact hsk, ⟨HK.out.swap hk hb1 _ _ (by omega) (by omega)⟩,
                  ⟨permIn_trans d dk _ _ _ HD.out.1 (swp_permIn dk a b c (c - 1) (by omega) (by omega) (by omega) (by omega) (by omega)), hd HD.out.2⟩⟩
              case measure => simp [intOf]; omega
            · obtain rfl : i = c := by omega
              go_wp2
              (try simp only [Exit.inBlock, Exit.then]); refine bodyPost_ret (results_none rfl _ _ _) rfl ?_
              obtain rfl := HM.out
              exact ⟨rfl, dk, HF.out.trans hb HK.out hsk, hsk, HD.out.1, merge_one_right hO H1.out (by omega) (by omega) (fun h h1 h2 => HI.out.1 h h1 h2) (fun h h1 h2 => HI.out.2 h h1 h2) HD.out.2⟩
    · have hone1 : ¬ (b : Int) - m = 1 := by omega
      have hone0 : ¬ (m : Int) - a = 1 := by omega
      clear hlast hone
      have hmid1 : 2 * ((a + b) / 2) ≤ a + b := by omega
      have hmid2 : a + b ≤ 2 * ((a + b) / 2) + 1 := by omega
      go_enter Try.func103, Try.ntmps103
      go_upto_if 106 with fail
      go_cut [18, 19] (fun s18 s19 wx => wx = boxW w0 g lb sf sb ∧ ∃ s0 r0 : Nat, s18 = .int .i64 s0 ∧ s19 = .int .i64 r0 ∧ a ≤ s0 ∧ (a + b) / 2 + m ≤ b + s0 ∧ (s0 = a ∨ s0 + b = (a + b) / 2 + m) ∧ r0 ≤ m ∧ r0 ≤ (a + b) / 2 ∧ (r0 = m ∨ r0 = (a + b) / 2) ∧ s0 ≤ r0)
      case first =>
        by_cases hm : (a + b) / 2 < m
        · go_wp2
          go_meet
          case rel => exact ⟨rfl, (a + b) / 2 + m - b, (a + b) / 2, by go_num, by go_num, by omega, by omega, by omega, by omega, by omega, by omega, by omega⟩
        · go_wp2
          go_meet
          case rel => exact ⟨rfl, a, m, by go_num, by go_num, by omega, by omega, by omega, by omega, by omega, by omega, by omega⟩
      case rest =>
        obtain ⟨rfl, s0, r0, rfl, rfl, g1, g2, g3, g4, g5, g6, g7⟩ := hcut
        go_wp2
        clear hone0 hone1
        go_loopw [18, 19] (fun v8 v9 wr => ∃ (i j : Nat), v8 = .int .i64 i ∧ v9 = .int .i64 j ∧ s0 ≤ i ∧ i ≤ j ∧ j ≤ r0 ∧ Box (Fam enc k blk off (boxW w0 g lb sf sb) d wr) ∧ Box ((∀ c, a ≤ c → (a + b) / 2 + m ≤ b + c → c < i → lt d[(a + b) / 2 + m - 1 - c]! d[c]! = false) ∧ (∀ c, j ≤ c → c < m → c < (a + b) / 2 → lt d[(a + b) / 2 + m - 1 - c]! d[c]! = true))) (fun v8 v9 _ => (intOf v9).toNat - (intOf v8).toNat)
        case atStart => exact ⟨s0, r0, rfl, rfl, by omega, by omega, by omega, ⟨Fam.start HH.out⟩, ⟨fun h h1 h2 h3 => by omega, fun h h1 h2 h3 => by omega⟩⟩
        case round =>
          obtain ⟨i, j, rfl, rfl, hai, hij, hjb, HW, HI⟩ := hrel
          by_cases hlt : i < j
          · have c := boxW_cell hb g lb sf sb HW.out
            have c0 := c.1
            have c1 := c.2
            clear c
            have hl := HL.out wr d HW.out rfl ((a + b) / 2 + m - 1 - (i + j) / 2) ((i + j) / 2) (by omega) (by omega)
            have ho := HO.out ((i + j) / 2) ((a + b) / 2 + m - 1 - (i + j) / 2) (by omega) (by omega) (by omega) (by omega)
            cases hlv : lt d[(a + b) / 2 + m - 1 - (i + j) / 2]! d[(i + j) / 2]! with
            | false =>
              rw [ho, hlv, show (((a + b) / 2 + m - 1 - (i + j) / 2 : Nat) : Int) = ((a : Int) + b) / 2 + m - 1 - ((i : Int) + j) / 2 by omega] at hl
              clear ho
              have HQ := Box.mk hl
              clear hl
              go_wp2_with (go_at_fn g; refine HQ.out.mono ?_; rintro e w' ⟨rfl, hB⟩; have FB := Box.mk (HW.out.below hB); clear hB)
              go_roundw
              case rel => exact ⟨(i + j) / 2 + 1, j, by go_num, rfl, by omega, by omega, by omega, FB, ⟨fun c h1 h2 h3 => srC_f hO H1.out H2.out (by omega) (by omega) hlv h1 (by omega) (by omega), HI.out.2⟩⟩
              case measure => simp [intOf]; omega
            | true =>
              rw [ho, hlv, show (((a + b) / 2 + m - 1 - (i + j) / 2 : Nat) : Int) = ((a : Int) + b) / 2 + m - 1 - ((i : Int) + j) / 2 by omega] at hl
              clear ho
              have HQ := Box.mk hl
              clear hl
              go_wp2_with (go_at_fn g; refine HQ.out.mono ?_; rintro e w' ⟨rfl, hB⟩; have FB := Box.mk (HW.out.below hB); clear hB)
              go_roundw
              case rel => exact ⟨i, (i + j) / 2, rfl, by go_num, by omega, by omega, by omega, FB, ⟨HI.out.1, fun c h1 h2 h3 => srC_t hO H1.out H2.out (by omega) (by omega) hlv h1 h2 (by omega)⟩⟩
              case measure => simp [intOf]; omega
          · obtain rfl : i = j := by omega
            have HC := Box.mk (Cut.mk (lt := lt) (a := a) (m := m) (b := b) (start := i) (d := d) (by omega) (by omega) (by omega) (by omega) HI.out.1 HI.out.2)
            have he : (((a + b) / 2 + m - i : Nat) : Int) = ((a : Int) + b) / 2 + m - i := by omega
            have HE := Box.mk he
            clear he
            go_upto_region 40 with fail
            go_cut [145] (fun s wx => wx = wr ∧ s = .bool (decide (i < m ∧ m < (a + b) / 2 + m - i)))
            case first =>
              by_cases h1 : i < m
              · by_cases h2 : m < (a + b) / 2 + m - i
                · go_wp2
                  go_meet
                  case rel => exact ⟨rfl, (congrArg Value.bool (by first | exact (decide_eq_true (by omega)).symm | exact (decide_eq_false (by omega)).symm | exact decide_eq_decide.mpr (by omega)))⟩
                · go_wp2
                  go_meet
                  case rel => exact ⟨rfl, (congrArg Value.bool (by first | exact (decide_eq_true (by omega)).symm | exact (decide_eq_false (by omega)).symm | exact decide_eq_decide.mpr (by omega)))⟩
              · go_wp2
                go_meet
                case rel => exact ⟨rfl, (congrArg Value.bool (by first | exact (decide_eq_true (by omega)).symm | exact (decide_eq_false (by omega)).symm | exact decide_eq_decide.mpr (by omega)))⟩
            case rest =>
              obtain ⟨rfl, rfl⟩ := hcut
              go_upto_if 145 with fail
              go_cut [] (fun wx => ∃ dA, Box (Fam enc k blk off (boxW w0 g lb sf sb) dA wx) ∧ Box (dA.size = d.size) ∧ Box (PermIn a b d dA ∧ ∀ q, dA[q]! = d[rotIx i m ((a + b) / 2 + m - i) q]!))
              case first =>
                by_cases h12 : i < m ∧ m < (a + b) / 2 + m - i
                · have hc := rotate_walk hk g lb sf sb wc d HS.out (HW.out.holds hb1 HH.out rfl) (by have := HW.out.size; omega) i m ((a + b) / 2 + m - i) h12.1 h12.2 (by omega) hsz
                  rw [HE.out] at hc
                  have HQ := Box.mk hc
                  have c := boxW_cell hb g lb sf sb HW.out
                  have c0 := c.1
                  have c1 := c.2
                  clear c
                  have h12b : decide (i < m ∧ m < (a + b) / 2 + m - i) = true := decide_eq_true h12
                  clear hc
                  go_wp2_with (go_at_call 122; refine HQ.out.mono ?_; rintro e w1 ⟨rfl, dA, f1, f2, f3, f4⟩; have FA := Box.mk (HW.out.trans hb1 f1 f2); have SA := Box.mk f2; have PA := Box.mk f3; have RA := Box.mk f4; clear f1 f2 f3 f4)
                  go_meet
                  case rel => exact ⟨dA, FA, SA, ⟨perm_mono (by omega) (by omega) (by omega) PA.out, RA.out⟩⟩
                · have h12b : decide (i < m ∧ m < (a + b) / 2 + m - i) = false := decide_eq_false h12
                  go_wp2_with fail
                  go_meet
                  case rel => exact ⟨d, HW, ⟨rfl⟩, ⟨permIn_refl d _ _, fun q => by rw [rotIx_id (by omega) (by omega) (by omega)]⟩⟩
              case rest =>
                obtain ⟨dA, FA, SA, PA⟩ := hcut
                have HP := Box.mk (cut_parts hO H1.out H2.out ham hmb HC.out PA.out.2)
                have HR := Box.mk (ord_cut ham hmb HC.out PA.out.2 HO.out)
                clear HW
                go_upto_region 42 with fail
                go_cut [158] (fun s wx => wx = wc ∧ s = .bool (decide (a < i ∧ i < (a + b) / 2)))
                case first =>
                  by_cases h1 : a < i
                  · by_cases h2 : i < (a + b) / 2
                    · go_wp2
                      go_meet
                      case rel => exact ⟨rfl, (congrArg Value.bool (by first | exact (decide_eq_true (by omega)).symm | exact (decide_eq_false (by omega)).symm | exact decide_eq_decide.mpr (by omega)))⟩
                    · go_wp2
                      go_meet
                      case rel => exact ⟨rfl, (congrArg Value.bool (by first | exact (decide_eq_true (by omega)).symm | exact (decide_eq_false (by omega)).symm | exact decide_eq_decide.mpr (by omega)))⟩
                  · go_wp2
                    go_meet
                    case rel => exact ⟨rfl, (congrArg Value.bool (by first | exact (decide_eq_true (by omega)).symm | exact (decide_eq_false (by omega)).symm | exact decide_eq_decide.mpr (by omega)))⟩
                case rest =>
                  obtain ⟨rfl, rfl⟩ := hcut
                  go_upto_if 158 with fail
                  go_cut [] (fun wx => ∃ dB, Box (Fam enc k blk off (boxW w0 g lb sf sb) dB wx) ∧ Box (dB.size = d.size) ∧ Box (PermIn a ((a + b) / 2) dA dB ∧ SortedIn lt a ((a + b) / 2) dB))
                  case first =>
                    by_cases h12 : a < i ∧ i < (a + b) / 2
                    · have hc := IH.out wc dA (by rw [SA.out]; exact HL.out.on hb1 FA.out SA.out) (by rw [SA.out]; exact HS.out) (FA.out.holds hb1 HH.out SA.out) (by have := FA.out.size; omega) a i ((a + b) / 2) h12.1 h12.2 (by rw [SA.out]; omega) (by rw [SA.out]; exact hsz) (by omega) HR.out.1 HP.out.1 HP.out.2.1
                      rw [show ((((a + b) / 2 : Nat)) : Int) = ((a : Int) + b) / 2 by omega] at hc
                      have HQ := Box.mk hc
                      have c := boxW_cell hb g lb sf sb FA.out
                      have c0 := c.1
                      have c1 := c.2
                      clear c
                      have h12b : decide (a < i ∧ i < (a + b) / 2) = true := decide_eq_true h12
                      clear hc
                      go_wp2_with (go_at_call 103; refine HQ.out.mono ?_; rintro e w1 ⟨rfl, dB, f1, f2, f3, f4⟩; have FB := Box.mk (FA.out.trans hb1 f1 f2); have SB := Box.mk (f2.trans SA.out); have PB := Box.mk f3; have RB := Box.mk f4; clear f1 f2 f3 f4)
                      go_meet
                      case rel => exact ⟨dB, FB, SB, ⟨PB.out, RB.out⟩⟩
                    · have h12b : decide (a < i ∧ i < (a + b) / 2) = false := decide_eq_false h12
                      go_wp2_with fail
                      go_meet
                      case rel =>
                        refine ⟨dA, FA, SA, ⟨permIn_refl dA _ _, ?_⟩⟩
                        have q1 := HC.out.hi2
                        have q2 := HC.out.lo
                        rcases Nat.lt_or_ge a i with q3 | q3
                        · have q4 : i = (a + b) / 2 := by omega
                          have q5 := HP.out.1
                          rw [q4] at q5
                          exact q5
                        · have q4 : i = a := by omega
                          have q5 := HP.out.2.1
                          rw [q4] at q5
                          exact q5
                  case rest =>
                    obtain ⟨dB, FB, SB, PB⟩ := hcut
                    go_upto_region 44 with fail
                    go_cut [171] (fun s wx => wx = wc ∧ s = .bool (decide ((a + b) / 2 < (a + b) / 2 + m - i ∧ (a + b) / 2 + m - i < b)))
                    case first =>
                      by_cases h1 : (a + b) / 2 < (a + b) / 2 + m - i
                      · by_cases h2 : (a + b) / 2 + m - i < b
                        · go_wp2
                          go_meet
                          case rel => exact ⟨rfl, (congrArg Value.bool (by first | exact (decide_eq_true (by omega)).symm | exact (decide_eq_false (by omega)).symm | exact decide_eq_decide.mpr (by omega)))⟩
                        · go_wp2
                          go_meet
                          case rel => exact ⟨rfl, (congrArg Value.bool (by first | exact (decide_eq_true (by omega)).symm | exact (decide_eq_false (by omega)).symm | exact decide_eq_decide.mpr (by omega)))⟩
                      · go_wp2
                        go_meet
                        case rel => exact ⟨rfl, (congrArg Value.bool (by first | exact (decide_eq_true (by omega)).symm | exact (decide_eq_false (by omega)).symm | exact decide_eq_decide.mpr (by omega)))⟩
                    case rest =>
                      obtain ⟨rfl, rfl⟩ := hcut
                      have PA1 := PA.out.1
                      have HX := Box.mk (fun dC h1 h2 => sym_end (lt := lt) (mid := (a + b) / 2) (dC := dC) (by omega) (by omega) hbn PA1 HP.out.2.2.2.2 PB.out.1 PB.out.2 h1 h2)
                      clear PA1
                      by_cases h12 : (a + b) / 2 < (a + b) / 2 + m - i ∧ (a + b) / 2 + m - i < b
                      · have hc := IH.out wc dB (by rw [SB.out]; exact HL.out.on hb1 FB.out SB.out) (by rw [SB.out]; exact HS.out) (FB.out.holds hb1 HH.out SB.out) (by have := FB.out.size; omega) ((a + b) / 2) ((a + b) / 2 + m - i) b h12.1 h12.2 (by rw [SB.out]; omega) (by rw [SB.out]; exact hsz) (by omega) (ord_keep PB.out.1 HR.out.2) (sorted_keep PB.out.1 (Nat.le_refl _) HP.out.2.2.1) (sorted_keep PB.out.1 (by omega) HP.out.2.2.2.1)
                        rw [HE.out, show ((((a + b) / 2 : Nat)) : Int) = ((a : Int) + b) / 2 by omega] at hc
                        have HQ := Box.mk hc
                        have c := boxW_cell hb g lb sf sb FB.out
                        have c0 := c.1
                        have c1 := c.2
                        clear c
                        have h12b : decide ((a + b) / 2 < (a + b) / 2 + m - i ∧ (a + b) / 2 + m - i < b) = true := decide_eq_true h12
                        clear hc
                        go_wp2_with (go_at_call 103; refine HQ.out.mono ?_; rintro e w1 ⟨rfl, dC, f1, f2, f3, f4⟩; have FC := Box.mk (FB.out.trans hb1 f1 f2); have SC := Box.mk (f2.trans SB.out); have PC := Box.mk f3; have RC := Box.mk f4; clear f1 f2 f3 f4)
                        go_end0
                        exact ⟨rfl, dC, HF.out.trans hb FC.out SC.out, SC.out, HX.out dC PC.out RC.out⟩
                      · have h12b : decide ((a + b) / 2 < (a + b) / 2 + m - i ∧ (a + b) / 2 + m - i < b) = false := decide_eq_false h12
                        go_wp2_with fail
                        go_end0
                        refine ⟨rfl, dB, HF.out.trans hb FB.out SB.out, SB.out, HX.out dB (permIn_refl dB _ _) ?_⟩
                        have q1 := HC.out.hi
                        have q2 := HC.out.lo2
                        have q6 := HC.out.hi2
                        rcases Nat.lt_or_ge ((a + b) / 2) ((a + b) / 2 + m - i) with q3 | q3
                        · have q4 : (a + b) / 2 + m - i = b := by omega
                          have q5 := sorted_keep PB.out.1 (Nat.le_refl _) HP.out.2.2.1
                          rw [q4] at q5
                          exact q5
                        · have q4 : (a + b) / 2 + m - i = (a + b) / 2 := by omega
                          have q5 := sorted_keep PB.out.1 (by omega) HP.out.2.2.2.1
                          rw [q4] at q5
                          exact q5
end
end Go.Proofs.Ytjngmlkaijpbgaa
namespace Go.Proofs.Ytjngmlkaijpbgaa
open Go.E
set_option maxRecDepth 100000
set_option maxHeartbeats 4000000
open Go Go.Sort Go.RowKit Go.Lib Go.Shelf Go.Proofs
section
variable {α : Type} [Inhabited α] {enc : α → List Value} {k blk off : Nat}
section
variable {lt0 lt : α → α → Bool} {d d' dk : Array α} {a b c n B : Nat}
/-- The two orders agree on what lies behind c and what lies ahead of it. -/
def OB (lt0 lt : α → α → Bool) (n c : Nat) (d : Array α) : Prop := ∀ p q, p < c → c ≤ q → q < n → lt0 d[q]! d[p]! = lt d[q]! d[p]!
theorem OB.keep (h : PermIn a b d d') (hb : b ≤ d.size) (hc : c ≤ a ∨ b ≤ c) (ho : OB lt0 lt n c d) (hbn : b ≤ n) : OB lt0 lt n c d' := by
  intro p q h1 h2 h3
  rcases hc with hc | hc
  · rw [h.2.1 p (by omega)]
    by_cases hq : a ≤ q ∧ q < b
    · exact permIn_all d d' a b (fun x => lt0 x d[p]! = lt x d[p]!) hb h (fun i hi him => ho p i h1 (by omega) (by omega)) q hq.1 hq.2
    · rw [h.2.1 q (by omega)]; exact ho p q h1 h2 h3
  · rw [h.2.1 q (by omega)]
    by_cases hp : a ≤ p ∧ p < b
    · exact permIn_all d d' a b (fun x => lt0 d[q]! x = lt d[q]! x) hb h (fun i hi him => ho i q (by omega) h2 h3) p hp.1 hp.2
    · rw [h.2.1 p (by omega)]; exact ho p q h1 h2 h3
theorem dvd_le (h1 : B ∣ c) (h2 : B ∣ a) (h : c < a) : c + B ≤ a := by
  obtain ⟨x, rfl⟩ := h1
  obtain ⟨y, rfl⟩ := h2
  have hxy : x < y := by
    rcases Nat.lt_or_ge x y with h' | h'
    · exact h'
    · exact absurd h (Nat.not_lt.mpr (Nat.mul_le_mul_left B h'))
  calc B * x + B = B * (x + 1) := by rw [Nat.mul_add, Nat.mul_one]
    _ ≤ B * y := Nat.mul_le_mul_left B hxy
theorem dvd_two (h : 2 * B ∣ c) : B ∣ c := Nat.dvd_trans ⟨2, Nat.mul_comm 2 B⟩ h
/-- Every block of B places is sorted. -/
structure Blocks (lt0 lt : α → α → Bool) (B n : Nat) (d : Array α) : Prop where
  hi : ∀ c, B ∣ c → SortedIn lt c (min (c + B) n) d
  o : ∀ c, B ∣ c → OB lt0 lt n c d
/-- Within a pass: below a the blocks of 2 B are sorted, from a on those of B. -/
structure Pass (lt0 lt : α → α → Bool) (B n a : Nat) (d : Array α) : Prop where
  al : 2 * B ∣ a
  lo : ∀ c, 2 * B ∣ c → c < a → SortedIn lt c (c + 2 * B) d
  hi : ∀ c, B ∣ c → a ≤ c → SortedIn lt c (min (c + B) n) d
  o1 : ∀ c, 2 * B ∣ c → OB lt0 lt n c d
  o2 : ∀ c, B ∣ c → a ≤ c → OB lt0 lt n c d
theorem Blocks.start (h : Blocks lt0 lt B n d) : Pass lt0 lt B n 0 d := ⟨Nat.dvd_zero _, fun c _ h1 => absurd h1 (Nat.not_lt_zero c), fun c h1 _ => h.hi c h1, fun c h1 => h.o c (dvd_two h1), fun c h1 _ => h.o c h1⟩
theorem Pass.args (h : Pass lt0 lt B n a d) (hb : b ≤ n) (h1 : a + B < b) (h2 : b = a + 2 * B ∨ (b = n ∧ b ≤ a + 2 * B)) :
    (∀ p q, a ≤ p → p < a + B → a + B ≤ q → q < b → lt0 d[q]! d[p]! = lt d[q]! d[p]!) ∧ SortedIn lt a (a + B) d ∧ SortedIn lt (a + B) b d := by
  have hB : B ∣ a := dvd_two h.al
  have hB2 : B ∣ a + B := Nat.dvd_add hB (Nat.dvd_refl B)
  refine ⟨fun p q _ k2 k3 k4 => h.o2 (a + B) hB2 (by omega) p q k2 k3 (by omega), ?_, ?_⟩
  · have := h.hi a hB (Nat.le_refl _); rw [show min (a + B) n = a + B by omega] at this; exact this
  · have := h.hi (a + B) hB2 (by omega); rw [show min (a + B + B) n = b by omega] at this; exact this
theorem Pass.step (h : Pass lt0 lt B n a d) (hB : 0 < B) (hn : n = d.size) (hb : a + 2 * B ≤ n) (hp : PermIn a (a + 2 * B) d d') (hs : SortedIn lt a (a + 2 * B) d') : Pass lt0 lt B n (a + 2 * B) d' := by
  refine ⟨Nat.dvd_add h.al (Nat.dvd_refl _), fun c h1 h2 => ?_, fun c h1 h2 => ?_, fun c h1 => ?_, fun c h1 h2 => ?_⟩
  · rcases Nat.lt_or_ge c a with h3 | h3
    · have := dvd_le h1 h.al h3
      exact sorted_same (h.lo c h1 h3) fun i k1 k2 => hp.2.1 i (by omega)
    · have h4 : c = a := by
        rcases Nat.lt_or_ge a c with h5 | h5
        · have := dvd_le h.al h1 h5; omega
        · omega
      rw [h4]; exact hs
  · exact sorted_same (h.hi c h1 (by omega)) fun i k1 k2 => hp.2.1 i (by omega)
  · refine OB.keep hp (by omega) ?_ (h.o1 c h1) hb
    rcases Nat.lt_or_ge a c with h5 | h5
    · exact Or.inr (dvd_le h.al h1 h5)
    · exact Or.inl h5
  · exact OB.keep hp (by omega) (Or.inr h2) (h.o2 c h1 (by omega)) hb
theorem Pass.last (h : Pass lt0 lt B n a d) (hB : 0 < B) (hn : n = d.size) (ha : a ≤ n) (hb : n < a + 2 * B) (hp : PermIn a n d d') (hs : SortedIn lt a n d') : Blocks lt0 lt (2 * B) n d' := by
  refine ⟨fun c h1 => ?_, fun c h1 => ?_⟩
  · rcases Nat.lt_or_ge c a with h3 | h3
    · have := dvd_le h1 h.al h3
      rw [show min (c + 2 * B) n = c + 2 * B by omega]
      exact sorted_same (h.lo c h1 h3) fun i k1 k2 => hp.2.1 i (by omega)
    · rcases Nat.lt_or_ge a c with h5 | h5
      · have := dvd_le h.al h1 h5
        intro i j k1 k2 k3; omega
      · have h4 : c = a := by omega
        rw [h4, show min (a + 2 * B) n = n by omega]; exact hs
  · rcases Nat.lt_or_ge a c with h5 | h5
    · intro p q k1 k2 k3
      have := dvd_le h.al h1 h5
      omega
    · exact OB.keep hp (by omega) (Or.inl h5) (h.o1 c h1) (Nat.le_refl _)
theorem Pass.skip (h : Pass lt0 lt B n a d) (hb : n ≤ a + B) : SortedIn lt a n d := by
  have := h.hi a (dvd_two h.al) (Nat.le_refl _); rw [show min (a + B) n = n by omega] at this; exact this
theorem Blocks.all (h : Blocks lt0 lt B n d) (hb : n ≤ B) : SortedIn lt 0 n d := by
  have := h.hi 0 (Nat.dvd_zero _); rw [show min (0 + B) n = n by omega] at this; exact this
theorem insInner_perm (a i : Nat) : ∀ (j : Nat) (d : Array α), a ≤ j → j ≤ i → i < d.size → PermIn a (i + 1) d (insInner lt a j d)
  | 0, d, _, _, _ => permIn_refl d _ _
  | j + 1, d, h1, h2, h3 => by
    unfold insInner
    split
    · rename_i hc
      simp only [Bool.and_eq_true, decide_eq_true_eq] at hc
      exact permIn_trans _ _ _ a (i + 1) (swp_permIn d a (i + 1) (j + 1) j (by omega) (by omega) (by omega) (by omega) (by omega)) (insInner_perm a i j (swp d (j + 1) j) (by omega) (by omega) (by rw [Sort.size_swp]; exact h3))
    · exact permIn_refl d _ _
theorem insInner_agree (a : Nat) : ∀ (j : Nat) (d : Array α), j < d.size → (∀ p, a ≤ p → p < j → lt0 d[j]! d[p]! = lt d[j]! d[p]!) → insInner lt0 a j d = insInner lt a j d
  | 0, d, _, _ => rfl
  | j + 1, d, hj, h => by
    unfold insInner
    by_cases hc : a < j + 1
    · rw [h j (by omega) (by omega)]
      split
      · refine insInner_agree a j (swp d (j + 1) j) (by rw [Sort.size_swp]; omega) fun p h1 h2 => ?_
        rw [swp_get d (by omega) (by omega), swp_get d (by omega) (by omega)]
        rw [if_pos rfl, if_neg (by omega), if_neg (by omega)]
        exact h p h1 (by omega)
      · rfl
    · rw [if_neg (by simp; omega), if_neg (by simp; omega)]
theorem insOuter_agree (a b : Nat) : ∀ (m i : Nat) (d : Array α), b - i = m → a < i → b ≤ d.size → (∀ p q, a ≤ p → p < q → i ≤ q → q < b → lt0 d[q]! d[p]! = lt d[q]! d[p]!) → insOuter lt0 a b i d = insOuter lt a b i d
  | 0, i, d, hm, _, _, _ => by rw [insOuter_stop lt0 a b i d (by omega), insOuter_stop lt a b i d (by omega)]
  | m + 1, i, d, hm, hai, hb, h => by
    rw [insOuter_go lt0 a b i d (by omega), insOuter_go lt a b i d (by omega), insInner_agree a i d (by omega) (fun p h1 h2 => h p i h1 h2 (Nat.le_refl _) (by omega))]
    have hp : PermIn a (i + 1) d (insInner lt a i d) := insInner_perm a i i d (by omega) (Nat.le_refl _) (by omega)
    refine insOuter_agree a b m (i + 1) _ (by omega) (by omega) (by rw [hp.1]; exact hb) fun p q h1 h2 h3 h4 => ?_
    rw [hp.2.1 q (by omega)]
    by_cases hpi : p < i + 1
    · exact permIn_all d _ a (i + 1) (fun x => lt0 d[q]! x = lt d[q]! x) (by omega) hp (fun r k1 k2 => h r q k1 (by omega) (by omega) h4) p h1 hpi
    · rw [hp.2.1 p (by omega)]; exact h p q h1 h2 (by omega) h4
theorem insertion_agree (hb : b ≤ d.size) (h : ∀ p q, a ≤ p → p < q → q < b → lt0 d[q]! d[p]! = lt d[q]! d[p]!) : Sort.insertionSort lt0 d a b = Sort.insertionSort lt d a b :=
  insOuter_agree a b _ (a + 1) d rfl (by omega) hb fun p q h1 h2 _ h4 => h p q h1 h2 h4
/-- Within the first pass: below a the blocks are sorted, from a on nothing has been turned. -/
structure First (lt0 lt : α → α → Bool) (B a : Nat) (d dk : Array α) : Prop where
  sz : dk.size = d.size
  p : PermIn 0 d.size d dk
  al : B ∣ a
  lo : ∀ c, B ∣ c → c < a → SortedIn lt c (c + B) dk
  o : ∀ c, B ∣ c → OB lt0 lt d.size c dk
  same : ∀ q, a ≤ q → dk[q]! = d[q]!
theorem First.start (hord : ∀ p q, p < q → q < d.size → lt0 d[q]! d[p]! = lt d[q]! d[p]!) : First lt0 lt B 0 d d :=
  ⟨rfl, permIn_refl d _ _, Nat.dvd_zero _, fun c _ h => absurd h (Nat.not_lt_zero c), fun c _ p q h1 h2 h3 => hord p q (by omega) h3, fun _ _ => rfl⟩
theorem First.agree (h : First lt0 lt B a d dk) (hord : ∀ p q, p < q → q < d.size → lt0 d[q]! d[p]! = lt d[q]! d[p]!) (hb : b ≤ d.size) : Sort.insertionSort lt0 dk a b = Sort.insertionSort lt dk a b :=
  insertion_agree (by rw [h.sz]; exact hb) fun p q h1 h2 h3 => by rw [h.same p h1, h.same q (by omega)]; exact hord p q h2 (by omega)
theorem First.step (h : First lt0 lt B a d dk) (hO : SWO lt) (hB : 0 < B) (hb : a + B ≤ d.size) : First lt0 lt B (a + B) d (Sort.insertionSort lt dk a (a + B)) := by
  obtain ⟨hp, hs⟩ := insertionSort_holds hO dk a (a + B) (by omega) (by rw [h.sz]; exact hb)
  refine ⟨hp.1.trans h.sz, permIn_trans _ _ _ _ _ h.p (perm_mono (Nat.zero_le _) hb (by rw [h.sz]; exact Nat.le_refl _) hp), Nat.dvd_add h.al (Nat.dvd_refl _), fun c h1 h2 => ?_, fun c h1 => ?_, fun q hq => ?_⟩
  · rcases Nat.lt_or_ge c a with h3 | h3
    · have := dvd_le h1 h.al h3
      exact sorted_same (h.lo c h1 h3) fun i k1 k2 => hp.2.1 i (by omega)
    · have h4 : c = a := by
        rcases Nat.lt_or_ge a c with h5 | h5
        · have := dvd_le h.al h1 h5; omega
        · omega
      rw [h4]; exact hs
  · refine OB.keep hp (by rw [h.sz]; exact hb) ?_ (h.o c h1) hb
    rcases Nat.lt_or_ge a c with h5 | h5
    · exact Or.inr (dvd_le h.al h1 h5)
    · exact Or.inl h5
  · rw [hp.2.1 q (by omega)]; exact h.same q (by omega)
theorem First.last (h : First lt0 lt B a d dk) (hO : SWO lt) (hB : 0 < B) (ha : a ≤ d.size) (hb : d.size < a + B) : Blocks lt0 lt B d.size (Sort.insertionSort lt dk a d.size) ∧ PermIn 0 d.size d (Sort.insertionSort lt dk a d.size) := by
  obtain ⟨hp, hs⟩ := insertionSort_holds hO dk a d.size ha (by rw [h.sz]; exact Nat.le_refl _)
  refine ⟨⟨fun c h1 => ?_, fun c h1 => ?_⟩, permIn_trans _ _ _ _ _ h.p (perm_mono (Nat.zero_le _) (Nat.le_refl _) (by rw [h.sz]; exact Nat.le_refl _) hp)⟩
  · rcases Nat.lt_or_ge c a with h3 | h3
    · have := dvd_le h1 h.al h3
      rw [show min (c + B) d.size = c + B by omega]
      exact sorted_same (h.lo c h1 h3) fun i k1 k2 => hp.2.1 i (by omega)
    · rcases Nat.lt_or_ge a c with h5 | h5
      · have := dvd_le h.al h1 h5
        intro i j k1 k2 k3; omega
      · have h4 : c = a := by omega
        rw [h4, show min (a + B) d.size = d.size by omega]; exact hs
  · rcases Nat.lt_or_ge a c with h5 | h5
    · intro p q k1 k2 k3
      have := dvd_le h.al h1 h5
      omega
    · exact OB.keep hp (by rw [h.sz]; exact Nat.le_refl _) (Or.inl h5) (h.o c h1) (Nat.le_refl _)
end
set_option maxHeartbeats 8000000 in
theorem stable_walk (hk : ∀ x, (enc x).length = k) (lt0 lt : α → α → Bool) (hO : SWO lt) (g : Nat) (lb : Array Value) (sf : Nat) (sb : Array Value) (hg : Callable Try.prog g) (w0 : World) (d : Array α) (hless : LessAt g lb enc k lt0 blk off d.size w0) (hswap : SwapAt sf sb enc k blk off d.size) (hH : HoldsK enc k w0 blk off d) (hb : blk < w0.heap.size)
    (hsz : d.size < 1152921504606846976) (hord : ∀ p q, p < q → q < d.size → lt0 d[q]! d[p]! = lt d[q]! d[p]!) :
    Calls Try.prog 74 #[.agg #[.func (.func g) #[] lb, .func (.func sf) #[] sb], .int .i64 d.size] w0 fun e w' =>
      e = .returned (.tuple #[]) ∧ ∃ d', Fam enc k blk off w0 d' w' ∧ d'.size = d.size ∧ PermIn 0 d.size d d' ∧ SortedIn lt 0 d.size d' := by
  have HF := Box.mk (boxW_fam hH g lb sf sb)
  have hb1 : blk < (boxW w0 g lb sf sb).heap.size := by rw [boxW_size]; omega
  have HH := Box.mk (HF.out.holds hb hH rfl)
  have HS := Box.mk hswap
  have HL := Box.mk (hless.on hb HF.out rfl)
  have HO := Box.mk hord
  clear hswap hless hord
  generalize hn : d.size = n at hsz
  have HN := Box.mk hn
  clear hn
  go_enter Try.func74, Try.ntmps74
  go_wp2
  go_loopw [5, 6] (fun v5 v6 wr => ∃ (a : Nat) (dk : Array α), v5 = .int .i64 a ∧ v6 = .int .i64 ((a : Int) + 20) ∧ a ≤ n ∧ Box (Fam enc k blk off (boxW w0 g lb sf sb) dk wr) ∧ Box (First lt0 lt 20 a d dk)) (fun v5 _ _ => n - (intOf v5).toNat)
  case atStart => exact ⟨0, d, rfl, rfl, by omega, ⟨Fam.start HH.out⟩, ⟨First.start HO.out⟩⟩
  case round =>
    obtain ⟨a, dk, rfl, rfl, han, HW, HI⟩ := hrel
    have c := boxW_cell hb g lb sf sb HW.out
    have c0 := c.1
    have c1 := c.2
    clear c
    by_cases hfit : a + 20 ≤ n
    · have hc := insertion_walk hk lt0 g lb sf sb wr dk hg (by rw [HI.out.sz]; exact HL.out.on hb1 HW.out HI.out.sz) (by rw [HI.out.sz]; exact HS.out) (HW.out.holds hb1 HH.out HI.out.sz) (by have := HW.out.size; omega) a (a + 20) (by omega) (by rw [HI.out.sz, HN.out]; exact hfit) (by rw [HI.out.sz, HN.out]; omega)
      rw [show ((a + 20 : Nat) : Int) = (a : Int) + 20 by omega, HI.out.agree HO.out (by rw [HN.out]; exact hfit)] at hc
      have HQ := Box.mk hc
      have HI2 := Box.mk (HI.out.step hO (by omega) (by rw [HN.out]; exact hfit))
      clear hc
      go_wp2_with (go_at_call 102; refine HQ.out.mono ?_; rintro e w1 ⟨rfl, f1⟩; have FA := Box.mk (HW.out.trans hb1 f1 (HI2.out.sz.trans HI.out.sz.symm)); clear f1)
      go_roundw
      case rel => exact ⟨a + 20, _, by go_num, by go_num, hfit, FA, HI2⟩
      case measure => simp [intOf]; omega
    · have hc := insertion_walk hk lt0 g lb sf sb wr dk hg (by rw [HI.out.sz]; exact HL.out.on hb1 HW.out HI.out.sz) (by rw [HI.out.sz]; exact HS.out) (HW.out.holds hb1 HH.out HI.out.sz) (by have := HW.out.size; omega) a n han (by rw [HI.out.sz, HN.out]; exact Nat.le_refl _) (by rw [HI.out.sz, HN.out]; omega)
      rw [HI.out.agree HO.out (by rw [HN.out]; exact Nat.le_refl _)] at hc
      have HQ := Box.mk hc
      have HI2 := HI.out.last hO (by omega) (by rw [HN.out]; exact han) (by rw [HN.out]; omega)
      rw [HN.out] at HI2
      have HI3 := Box.mk HI2
      clear hc HI2
      go_wp2_with (go_at_call 102; refine HQ.out.mono ?_; rintro e w1 ⟨rfl, f1⟩; have FA := Box.mk (HW.out.trans hb1 f1 (by rw [HI3.out.2.1, HI.out.sz])); clear f1)
      go_loopw [4] (fun v4 wr => ∃ (B : Nat) (dj : Array α), v4 = .int .i64 B ∧ 0 < B ∧ (B ≤ 20 ∨ B < 2 * n) ∧ Box (Fam enc k blk off (boxW w0 g lb sf sb) dj wr) ∧ Box (dj.size = d.size) ∧ Box (Blocks lt0 lt B n dj ∧ PermIn 0 n d dj)) (fun v4 _ => n - (intOf v4).toNat)
      case atStart => exact ⟨20, _, rfl, by omega, by omega, FA, ⟨HI3.out.2.1⟩, HI3⟩
      case round =>
        obtain ⟨B, dj, rfl, hB0, hBn, FJ, SJ, HJ⟩ := hrel
        clear c0 c1
        by_cases hbn : B < n
        · go_wp2
          go_loopw [5, 6] (fun v5 v6 wr => ∃ (a : Nat) (dl : Array α), v5 = .int .i64 a ∧ v6 = .int .i64 ((a : Int) + 2 * B) ∧ a ≤ n ∧ Box (Fam enc k blk off (boxW w0 g lb sf sb) dl wr) ∧ Box (dl.size = d.size) ∧ Box (Pass lt0 lt B n a dl ∧ PermIn 0 n d dl)) (fun v5 _ _ => n - (intOf v5).toNat)
          case atStart => exact ⟨0, dj, rfl, by go_num, by omega, FJ, SJ, ⟨HJ.out.1.start, HJ.out.2⟩⟩
          case round =>
            obtain ⟨a, dl, rfl, rfl, han, FL, SL, HP⟩ := hrel
            have c := boxW_cell hb g lb sf sb FL.out
            have c0 := c.1
            have c1 := c.2
            clear c
            by_cases hfit : a + 2 * B ≤ n
            · have PG := HP.out.1.args (b := a + 2 * B) hfit (by omega) (Or.inl rfl)
              have hc := symMerge_walk hk lt0 lt hO g lb sf sb hg (2 * B) wr dl (by rw [SL.out]; exact HL.out.on hb1 FL.out SL.out) (by rw [SL.out]; exact HS.out) (FL.out.holds hb1 HH.out SL.out) (by have := FL.out.size; omega) a (a + B) (a + 2 * B) (by omega) (by omega) (by rw [SL.out, HN.out]; omega) (by rw [SL.out, HN.out]; omega) (by omega) PG.1 PG.2.1 PG.2.2
              rw [show ((a + B : Nat) : Int) = (a : Int) + B by omega, show ((a + 2 * B : Nat) : Int) = (a : Int) + 2 * B by omega] at hc
              have HQ := Box.mk hc
              clear hc PG
              go_wp2_with (go_at_call 103; refine HQ.out.mono ?_; rintro e w1 ⟨rfl, dM, f1, f2, f3, f4⟩; have FA := Box.mk (FL.out.trans hb1 f1 f2); have SA := Box.mk (f2.trans SL.out); have PA := Box.mk f3; have RA := Box.mk f4; clear f1 f2 f3 f4)
              go_roundw
              case rel =>
                exact ⟨a + 2 * B, dM, by go_num, by go_num, hfit, FA, SA, ⟨HP.out.1.step hB0 (by rw [SL.out, HN.out]) hfit PA.out RA.out, permIn_trans d dl dM _ _ HP.out.2 (perm_mono (by omega) hfit (by rw [SL.out, HN.out]; exact Nat.le_refl _) PA.out)⟩⟩
              case measure => simp [intOf]; omega
            · by_cases hmn : a + B < n
              · have PG := HP.out.1.args (b := n) (Nat.le_refl _) hmn (Or.inr ⟨rfl, by omega⟩)
                have hc := symMerge_walk hk lt0 lt hO g lb sf sb hg n wr dl (by rw [SL.out]; exact HL.out.on hb1 FL.out SL.out) (by rw [SL.out]; exact HS.out) (FL.out.holds hb1 HH.out SL.out) (by have := FL.out.size; omega) a (a + B) n (by omega) (by omega) (by rw [SL.out, HN.out]; omega) (by rw [SL.out, HN.out]; omega) (by omega) PG.1 PG.2.1 PG.2.2
                rw [show ((a + B : Nat) : Int) = (a : Int) + B by omega] at hc
                have HQ := Box.mk hc
                clear hc PG
                go_wp2_with (go_at_call 103; refine HQ.out.mono ?_; rintro e w1 ⟨rfl, dM, f1, f2, f3, f4⟩; have FA := Box.mk (FL.out.trans hb1 f1 f2); have SA := Box.mk (f2.trans SL.out); have PA := Box.mk f3; have RA := Box.mk f4; clear f1 f2 f3 f4)
                go_roundw
                case rel =>
                  exact ⟨2 * B, dM, by go_num, by omega, by omega, FA, SA, ⟨HP.out.1.last hB0 (by rw [SL.out, HN.out]) han (by omega) PA.out RA.out, permIn_trans d dl dM _ _ HP.out.2 (perm_mono (by omega) (Nat.le_refl _) (by rw [SL.out, HN.out]; exact Nat.le_refl _) PA.out)⟩⟩
                case measure => simp [intOf]; omega
              · go_wp2
                go_roundw
                case rel =>
                  exact ⟨2 * B, dl, by go_num, by omega, by omega, FL, SL, ⟨HP.out.1.last hB0 (by rw [SL.out, HN.out]) han (by omega) (permIn_refl dl _ _) (HP.out.1.skip (by omega)), HP.out.2⟩⟩
                case measure => simp [intOf]; omega
        · go_wp2
          go_end0
          exact ⟨rfl, dj, HF.out.trans hb FJ.out SJ.out, SJ.out.trans HN.out, HJ.out.2, HJ.out.1.all (by omega)⟩
end
end Go.Proofs.Ytjngmlkaijpbgaa
namespace Go.Proofs.Ytjngmlkaijpbgaa
open Go.E
set_option maxRecDepth 100000
set_option maxHeartbeats 4000000
open Go Go.Sort Go.RowKit Go.Lib Go.Shelf Go.Proofs
section
variable {α : Type} [Inhabited α] {enc : α → List Value} {k blk off : Nat}
/-- The stable order. -/
def stS (lt : α → α → Bool) (d : Array α) : Array α := (d.toList.mergeSort (fun x y => !lt y x)).toArray
theorem stS_size (lt : α → α → Bool) (d : Array α) : (stS lt d).size = d.size := by simp [stS]
/-- Elements with their places: equals are told apart by their place. -/
def ltT (lt : α → α → Bool) (x y : α × Nat) : Bool := lt x.1 y.1 || (!lt y.1 x.1 && decide (x.2 < y.2))
theorem ltT_true {lt : α → α → Bool} {x y : α × Nat} : ltT lt x y = true ↔ lt x.1 y.1 = true ∨ (lt y.1 x.1 = false ∧ x.2 < y.2) := by simp [ltT]
theorem ltT_false {lt : α → α → Bool} {x y : α × Nat} : ltT lt x y = false ↔ lt x.1 y.1 = false ∧ (lt y.1 x.1 = true ∨ y.2 ≤ x.2) := by
  simp only [ltT, Bool.or_eq_false_iff, Bool.and_eq_false_iff, Bool.not_eq_false', decide_eq_false_iff_not, Nat.not_lt]
theorem ntrans_t {lt : α → α → Bool} (hO : SWO lt) {x y z : α} (h1 : lt x y = true) (h2 : lt z y = false) : lt x z = true := by
  cases h : lt x z with
  | true => rfl
  | false => rw [hO.ntrans _ _ _ h h2] at h1; cases h1
theorem ntrans_t' {lt : α → α → Bool} (hO : SWO lt) {x y z : α} (h1 : lt y x = false) (h2 : lt y z = true) : lt x z = true := by
  cases h : lt x z with
  | true => rfl
  | false => rw [hO.ntrans _ _ _ h1 h] at h2; cases h2
theorem swo_ltT {lt : α → α → Bool} (hO : SWO lt) : SWO (ltT lt) := by
  refine ⟨fun x => ltT_false.2 ⟨hO.irrefl _, Or.inr (Nat.le_refl _)⟩, fun x y z h1 h2 => ?_, fun x y z h1 h2 => ?_⟩
  · rw [ltT_true] at h1 h2 ⊢
    rcases h1 with h1 | ⟨h1, t1⟩ <;> rcases h2 with h2 | ⟨h2, t2⟩
    · exact Or.inl (hO.trans _ _ _ h1 h2)
    · exact Or.inl (ntrans_t hO h1 h2)
    · exact Or.inl (ntrans_t' hO h1 h2)
    · exact Or.inr ⟨hO.ntrans _ _ _ h2 h1, by omega⟩
  · rw [ltT_false] at h1 h2 ⊢
    obtain ⟨h1, g1⟩ := h1
    obtain ⟨h2, g2⟩ := h2
    refine ⟨hO.ntrans _ _ _ h1 h2, ?_⟩
    rcases g1 with g1 | g1
    · exact Or.inl (ntrans_t' hO h2 g1)
    · rcases g2 with g2 | g2
      · exact Or.inl (ntrans_t hO g2 h1)
      · exact Or.inr (by omega)
theorem ltT_le {lt : α → α → Bool} (hO : SWO lt) : (fun x y => !ltT lt y x) = List.zipIdxLE (fun x y => !lt y x) := by
  funext x y
  simp only [List.zipIdxLE, ltT]
  by_cases h1 : lt y.1 x.1 = true <;> by_cases h2 : lt x.1 y.1 = true <;> simp [h1, h2]
  rw [Bool.eq_iff_iff]; simp
def tagged (d : Array α) : Array (α × Nat) := d.toList.zipIdx.toArray
theorem tagged_size (d : Array α) : (tagged d).size = d.size := by simp [tagged]
theorem tagged_get (d : Array α) {i : Nat} (h : i < d.size) : (tagged d)[i]! = (d[i]!, i) := by
  rw [getElem!_pos (tagged d) i (by rw [tagged_size]; exact h), getElem!_pos d i h]
  simp [tagged]
theorem tagged_agree (lt : α → α → Bool) (d : Array α) : ∀ p q, p < q → q < (tagged d).size → (fun x y : α × Nat => lt x.1 y.1) (tagged d)[q]! (tagged d)[p]! = ltT lt (tagged d)[q]! (tagged d)[p]! := by
  intro p q h1 h2
  rw [tagged_size] at h2
  rw [tagged_get d h2, tagged_get d (show p < d.size by omega)]
  simp only [ltT]
  rw [decide_eq_false (by omega)]; simp
theorem fsts_get (d : Array (α × Nat)) (i : Nat) : (d.map (·.1))[i]! = d[i]!.1 := by
  by_cases h : i < d.size
  · rw [getElem!_pos (d.map (·.1)) i (by simpa using h), getElem!_pos d i h]; simp
  · rw [getElem!_neg (d.map (·.1)) i (by simpa using h), getElem!_neg d i h]; rfl
theorem fsts_tagged (d : Array α) : (tagged d).map (·.1) = d := by
  simp [tagged]
theorem flatK_fst (d : Array (α × Nat)) : flatK (fun x => enc x.1) k d = flatK enc k (d.map (·.1)) := by
  unfold flatK
  rw [Array.size_map]
  congr 1
  funext t
  rw [fsts_get]
theorem sorted_tags (lt : α → α → Bool) (hO : SWO lt) (d : Array α) (d' : Array (α × Nat)) (hp : PermIn 0 (tagged d).size (tagged d) d') (hs : SortedIn (ltT lt) 0 (tagged d).size d') : d'.map (·.1) = stS lt d := by
  have hperm : d'.toList.Perm (tagged d).toList := by
    obtain ⟨hsz, _, hperm⟩ := hp
    have e1 : d'.extract 0 (tagged d).size = d' := by rw [← hsz]; exact Array.extract_size
    rw [e1, Array.extract_size] at hperm
    exact hperm
  have hT := swo_ltT hO
  have e : d'.toList = (d.toList.zipIdx).mergeSort (List.zipIdxLE (fun x y => !lt y x)) := by
    rw [← ltT_le hO]
    refine List.Perm.eq_of_pairwise (le := fun x y => (!ltT lt y x) = true) ?_ ?_ ?_ (hperm.trans (by simpa [tagged] using (List.mergeSort_perm d.toList.zipIdx _).symm))
    · rintro ⟨a, i⟩ ⟨b, j⟩ ha hb h1 h2
      have ha' : (a, i) ∈ d.toList.zipIdx := by have := hperm.subset ha; simpa [tagged] using this
      have hb' : (b, j) ∈ d.toList.zipIdx := List.mem_mergeSort.1 hb
      simp only [Bool.not_eq_true'] at h1 h2
      rw [ltT_false] at h1 h2
      simp only at h1 h2
      have hij : i = j := by
        obtain ⟨k1, k2⟩ := h1
        obtain ⟨k3, k4⟩ := h2
        rw [k3] at k2
        rw [k1] at k4
        simp at k2 k4
        omega
      subst hij
      have m1 := List.mem_zipIdx ha'
      have m2 := List.mem_zipIdx hb'
      simp_all
    · rw [List.pairwise_iff_getElem]
      intro i j hi hj hij
      have hi' : i < d'.size := by simpa using hi
      have hj' : j < d'.size := by simpa using hj
      have := hs i j (Nat.zero_le _) hij (by rw [← hp.1]; exact hj')
      rw [getElem!_pos d' j hj', getElem!_pos d' i hi'] at this
      simpa using this
    · refine List.pairwise_mergeSort ?_ ?_ _
      · intro a b c h1 h2
        simp only [Bool.not_eq_true'] at h1 h2 ⊢
        exact hT.ntrans _ _ _ h2 h1
      · intro a b
        cases h : ltT lt b a with
        | false => rfl
        | true => simp [hT.asymmA h]
  unfold stS
  rw [← List.mergeSort_zipIdx, ← e]
  exact (Array.toList_inj).1 (by simp)
/-- stable_func: it puts the row into the stable order. -/
theorem stable_tags (hk : ∀ x, (enc x).length = k) (lt : α → α → Bool) (hO : SWO lt) (g : Nat) (lb : Array Value) (sf : Nat) (sb : Array Value) (hg : Callable Try.prog g) (w0 : World) (d : Array α) (hless : LessAt g lb enc k lt blk off d.size w0) (hswap : SwapAt sf sb enc k blk off d.size) (hH : HoldsK enc k w0 blk off d) (hb : blk < w0.heap.size)
    (hsz : d.size < 1152921504606846976) :
    Calls Try.prog 74 #[.agg #[.func (.func g) #[] lb, .func (.func sf) #[] sb], .int .i64 d.size] w0 fun e w' =>
      e = .returned (.tuple #[]) ∧ Fam enc k blk off w0 (stS lt d) w' := by
  have fam : ∀ dk W, Fam (fun x : α × Nat => enc x.1) k blk off w0 dk W → Fam enc k blk off w0 (dk.map (·.1)) W := by
    rintro dk W ⟨q, os, rfl⟩
    exact ⟨q, os, by unfold putRowK; rw [flatK_fst]⟩
  have hold : ∀ dk W, HoldsK (fun x : α × Nat => enc x.1) k W blk off dk → HoldsK enc k W blk off (dk.map (·.1)) := by
    intro dk W h
    unfold HoldsK at h ⊢
    rw [← flatK_fst]; exact h
  have h := stable_walk (enc := fun x : α × Nat => enc x.1) (fun x => hk x.1) (fun x y => lt x.1 y.1) (ltT lt) (swo_ltT hO) g lb sf sb hg w0 (tagged d) (blk := blk) (off := off)
    (fun W dk hF hs i j hi hj => by
      rw [tagged_size] at hs hi hj
      have := hless W _ (fam dk W hF) (by simpa using hs) i j hi hj
      rw [fsts_get, fsts_get] at this
      exact this)
    (fun W dk hF hs i j hi hj hij => by
      rw [tagged_size] at hs hi hj
      have := hswap W _ (hold dk W hF) (by simpa using hs) i j hi hj hij
      rw [fsts_get, fsts_get] at this
      exact this)
    (by unfold HoldsK at hH ⊢; rw [flatK_fst, fsts_tagged]; exact hH) hb (by rw [tagged_size]; exact hsz) (tagged_agree lt d)
  rw [tagged_size] at h
  refine h.mono ?_
  rintro e w' ⟨rfl, d', f1, f2, f3, f4⟩
  refine ⟨rfl, ?_⟩
  rw [← sorted_tags lt hO d d' (by rw [tagged_size]; exact f3) (by rw [tagged_size]; exact f4)]
  exact fam d' w' f1
end
end Go.Proofs.Ytjngmlkaijpbgaa
namespace Go.Proofs.Ytjngmlkaijpbgaa
open Go.E
set_option maxRecDepth 100000
set_option maxHeartbeats 4000000
open Go Go.Sort Go.RowKit Go.Lib Go.Shelf Go.Proofs
section
variable {α : Type} [Inhabited α] {enc : α → List Value} {k blk off : Nat}
noncomputable def boundS (e : TypeId) (ie : TypeInfo) (ke : Nat) (p : Option Addr) (n c : Nat) : Array Value :=
  if swapperK n ie ke ≤ 2 then #[] else #[.slice p n c, typeHandle Try.prog e]
noncomputable def worldS (t : TypeId) (p : Option Addr) (n c : Nat) (w : World) : World :=
  (w.alloc (.cells #[.slice p n c] t)).alloc (.cells #[.pointer (some ⟨Try.prog.globals.size, t, none⟩), .pointer (some ⟨w.heap.size, 0, none⟩), .int .u64 151] 90)
set_option maxHeartbeats 4000000 in
theorem sliceStable_of (t e : TypeId) (i ie : TypeInfo) (hi : Try.prog.info? t = some i) (hd : i.desc = .slice e) (hpk : Try.prog.packed t = false) (hie : Try.prog.info? e = some ie) (ke : Nat) (hke : ∀ w, (Extern.Rtype.kind e).run Try.prog w = .ok ke w)
    (p : Option Addr) (n c : Nat) (hn : n < 1152921504606846976) (f : Nat) (hf : Try.prog.funcs.findIdx? (·.name == "internal/reflectlite" ++ ".Swapper$" ++ toString (swapperK n ie ke)) = some f) (lf : Fn) (la lb : Array Value) (w : World) (R : World → Prop)
    (hp : Calls Try.prog 74 #[.agg #[.func lf la lb, .func (.func f) #[] (boundS e ie ke p n c)], .int .i64 n] (worldS t p n c w) fun e w' => e = .returned (.tuple #[]) ∧ R w') :
    Calls Try.prog 55 #[.iface t (.slice p n c), .func lf la lb] w fun e w' => e = .returned (.tuple #[]) ∧ R w' := by
  have hv := run_valueOf_slice (P := Try.prog) t e i hi hd p n c w
  have hs := fun w => run_swapper_slice (P := Try.prog) t e i ie hi hd hie ke hke p n c f hf w
  have hl := fun a w ha => run_valueLen_slice (P := Try.prog) t e i hi hd hpk a p n c w ha
  unfold boundS worldS at hp
  generalize (if swapperK n ie ke ≤ 2 then (#[] : Array Value) else #[.slice p n c, typeHandle Try.prog e]) = B at hs hp
  have hz : Try.prog.globals.size = 0 := by kernel_rfl
  simp only [typeHandle, hz] at hv hl hp
  have HP := Box.mk hp
  have HV := Box.mk hv
  have HS := Box.mk hs
  have HL := Box.mk hl
  clear hp hv hs hl
  go_enter Try.func55, Try.ntmps55
  go_wp2
  rw [run_callFunc_extern Try.func72 (by kernel_rfl) (by kernel_rfl) (by kernel_rfl) (e := fun args => Extern.ReflectliteValue.unpack (args.getD 0 (.tuple #[]))) (by kernel_rfl),
    show Sem.run Try.prog ((fun args : Array Value => Extern.ReflectliteValue.unpack (args.getD 0 (.tuple #[]))) #[.iface t (.slice p n c)]) w = _ from HV.out]
  simp only [Result.andThen]
  rw [Oper.upon_value]
  go_wp2
  rw [run_callFunc_extern Try.func73 (by kernel_rfl) (by kernel_rfl) (by kernel_rfl) (e := Extern.ReflectliteSwapper.swapper "internal/reflectlite" (Extern.ReflectliteValue.valueError "Swapper")) (by kernel_rfl), HS.out]
  simp only [Result.andThen]
  rw [Oper.upon_value]
  go_wp2
  rw [run_callFunc_extern Try.func75 (by kernel_rfl) (by kernel_rfl) (by kernel_rfl) (e := Extern.ReflectliteValue.method (Extern.ReflectliteValue.valueError "reflectlite.Value.Len" 0) Extern.ReflectliteValue.len) (by kernel_rfl),
    HL.out _ _ (by simp)]
  simp only [Result.andThen]
  rw [Oper.upon_value]
  go_wp2_with (go_at_call 74; refine HP.out.mono ?_; rintro e w' ⟨rfl, hR⟩; have HR := Box.mk hR; clear hR)
  go_end0
  exact ⟨rfl, HR.out⟩
theorem swapAt_literal (gS : Bool) (sf : Nat) (hx : ∀ args W, (callFunc sf args).run Try.prog W = ((Extern.ReflectliteSwapper.swap gS args).run Try.prog W).andThen fun v w' => .ok (.value v) w')
    (e : TypeId) (ie : TypeInfo) (hie : Try.prog.info? e = some ie) (hk : ∀ x, (enc x).length = k) (hs : ie.size = k) (hagg : ∀ w, (isAgg e).run Try.prog w = .ok true w) (h1 : ∀ x, ∀ v ∈ enc x, v.oneCell' = true) (n c : Nat) :
    SwapAt sf #[.slice (some ⟨blk, off, none⟩) n c, typeHandle Try.prog e] enc k blk off n := by
  intro W dk hH hsz i j hi hj _
  subst hs
  have cc : ∀ x, x < dk.size → ∀ u v, (enc dk[x]!)[u]? = some v → W.cell? ⟨blk, off + x * ie.size + u, none⟩ = some v := fun x hx u v h => by
    have hu : u < ie.size := by rw [← hk dk[x]!]; exact (List.getElem?_eq_some_iff.mp h).1
    rw [(hH.cell hx hu).1]; simp [h]
  have := run_swap_cells (P := Try.prog) gS e ie hie hagg blk off n c i j hi hj (enc dk[i]!) (enc dk[j]!) (hk _) (hk _) (h1 _) (h1 _) W (cc i (by omega)) (cc j (by omega))
    (fun u hu => (hH.cell (by omega) hu).2) (fun u hu => (hH.cell (by omega) hu).2)
  rw [hx, show (#[Value.int .i64 (i : Int), Value.int .i64 (j : Int)] ++ #[Value.slice (some ⟨blk, off, none⟩) n c, typeHandle Try.prog e]) = #[.int .i64 i, .int .i64 j, .slice (some ⟨blk, off, none⟩) n c, typeHandle Try.prog e] from rfl, this]
  rfl
end
open Go Go.Sort Go.RowKit Go.Lib Go.Shelf Go.Proofs
section
variable {α : Type} [Inhabited α] {enc : α → List Value} {k blk off : Nat}
theorem swK_gt (n : Nat) (ie : TypeInfo) (ke : Nat) (h2 : 2 ≤ n) : ¬ swapperK n ie ke ≤ 2 := by
  have c : (n == 0) = false := by simp; omega
  have d : (n == 1) = false := by simp; omega
  unfold swapperK
  simp only [c, d, Bool.false_eq_true, if_false]
  repeat' split
  all_goals omega
/-- What is asked of the types and of the program, for a slice of type t with elements of type e in k cells. -/
structure SortTy (t e k : Nat) (fN : Nat → Nat) : Prop where
  ex : ∃ i ie ke gS, Try.prog.info? t = some i ∧ i.desc = .slice e ∧ Try.prog.packed t = false ∧ Try.prog.info? e = some ie ∧ (∀ w, (Extern.Rtype.kind e).run Try.prog w = .ok ke w) ∧
    (∀ n, Try.prog.funcs.findIdx? (·.name == "internal/reflectlite" ++ ".Swapper$" ++ toString (swapperK n ie ke)) = some (fN n)) ∧ ie.size = k ∧ (∀ w, (isAgg e).run Try.prog w = .ok true w) ∧
    (∀ n, 2 ≤ n → ∀ args W, (callFunc (fN n) args).run Try.prog W = ((Extern.ReflectliteSwapper.swap gS args).run Try.prog W).andThen fun v w' => .ok (.value v) w')
theorem sliceStable_walk {t e : Nat} {fN : Nat → Nat} (hT : SortTy t e k fN) (hk : ∀ x, (enc x).length = k) (h1 : ∀ x, ∀ v ∈ enc x, v.oneCell' = true) (lt : α → α → Bool) (hO : SWO lt) (g : Nat) (lb : Array Value) (hg : Callable Try.prog g) (c : Nat) (d : Array α)
    (hsz : d.size < 1152921504606846976) (w : World) (hless : LessAt g lb enc k lt blk off d.size w) (hH : HoldsK enc k w blk off d) (hb : blk < w.heap.size) :
    Calls Try.prog 55 #[.iface t (.slice (some ⟨blk, off, none⟩) d.size c), .func (.func g) #[] lb] w fun e w' => e = .returned (.tuple #[]) ∧ Fam enc k blk off w (stS lt d) w' := by
  obtain ⟨i, ie, ke, gS, a1, a2, a3, a4, a5, a6, a7, a8, a9⟩ := hT.ex
  refine sliceStable_of t e i ie a1 a2 a3 a4 ke a5 _ d.size c hsz (fN d.size) (a6 _) (.func g) #[] lb w _ ?_
  have F0 : Fam enc k blk off w d (worldS t (some ⟨blk, off, none⟩) d.size c w) := ((Fam.start hH).alloc _).alloc _
  have hb0 : blk < (worldS t (some ⟨blk, off, none⟩) d.size c w).heap.size := Nat.lt_of_lt_of_le hb F0.size
  refine (stable_tags hk lt hO g lb (fN d.size) _ hg _ d (hless.on hb F0 rfl) ?_ (F0.holds hb hH rfl) hb0 hsz).mono ?_
  · by_cases h2 : 2 ≤ d.size
    · unfold boundS
      rw [if_neg (swK_gt _ _ _ h2)]
      exact swapAt_literal gS (fN d.size) (a9 _ h2) e ie a4 hk a7 a8 h1 d.size c
    · intro W dk _ _ i j hi hj hij
      omega
  · rintro e' w' ⟨rfl, hF⟩
    exact ⟨rfl, F0.trans hb hF (stS_size lt d)⟩
theorem sliceStable_nil {t e : Nat} {fN : Nat → Nat} (hT : SortTy t e k fN) (lt : α → α → Bool) (hO : SWO lt) (hk : ∀ x, (enc x).length = k) (g : Nat) (lb : Array Value) (hg : Callable Try.prog g) (w : World) :
    Calls Try.prog 55 #[.iface t (.slice none 0 0), .func (.func g) #[] lb] w fun e w' => e = .returned (.tuple #[]) ∧ Below w.heap.size w w' := by
  obtain ⟨i, ie, ke, gS, a1, a2, a3, a4, a5, a6, a7, a8, a9⟩ := hT.ex
  refine sliceStable_of t e i ie a1 a2 a3 a4 ke a5 none 0 0 (by omega) (fN 0) (a6 _) (.func g) #[] lb w _ ?_
  have hsize : (worldS t none 0 0 w).heap.size = w.heap.size + 2 := by simp [worldS]
  have hB0 : Below w.heap.size w (worldS t none 0 0 w) := by
    unfold worldS
    exact ((Below.refl _ w).alloc (Nat.le_refl _) _).alloc (by simp) _
  refine (stable_tags (blk := w.heap.size) (off := 0) (enc := enc) hk lt hO g lb (fN 0) _ hg (worldS t none 0 0 w) (#[] : Array α) (fun W dk _ _ i j hi hj => by simp at hi) (fun W dk _ _ i j hi hj => by simp at hi) (fun j hj => by simp at hj) (by rw [hsize]; omega) (by simp)).mono ?_
  rintro e' w' ⟨rfl, hF⟩
  have f := hF.facts
  refine ⟨rfl, hB0.trans ⟨f.1, f.2.1, f.2.2.1, hF.size, fun j hj => f.2.2.2 j (by rw [hsize]; omega) (by omega)⟩⟩
end
end Go.Proofs.Ytjngmlkaijpbgaa
namespace Go.Proofs.Ytjngmlkaijpbgaa
open Go.E
set_option maxRecDepth 100000
set_option maxHeartbeats 4000000
open Go Go.Sort Go.RowKit Go.Lib Go.Shelf Go.Proofs
section
variable {α : Type} [Inhabited α] {encA : α → List AV} {k blk : Nat}
def encV (encA : α → List AV) (x : α) : List Value := (encA x).map valA
theorem encV_flat (d : List α) : (d.map (encV encA)).flatten = ((d.map encA).flatten).map valA := by
  induction d with
  | nil => rfl
  | cons x d ih => simp only [List.map_cons, List.flatten_cons, List.map_append, ih, encV]
/-- 'less', bound to the variable that holds the row, by its contract. -/
theorem lessAt_con (hk : ∀ x, (encA x).length = k) (hp : ∀ x, ∀ a ∈ encA x, plainA a = true) (lt : α → α → Bool) (g : Nat)
    (hcon : ∀ (d : List α) (i j : Nat), i < d.length → j < d.length → Con Try.prog g [.i .i64 i, .i .i64 j, .eptr [.sl (d.map encA)]] (.b (lt d[i]! d[j]!)))
    {w : World} {gv n cap : Nat} (hgv : gv < w.heap.size) (hne : gv ≠ blk) (hb : blk < w.heap.size) (hc : w.cell? ⟨gv, 0, none⟩ = some (.slice (some ⟨blk, 0, none⟩) n cap)) (hn : n ≤ cap) (hm : n ≤ maxLen) (d0 : Array α) (hs0 : d0.size = n) (hH : HoldsK (encV encA) k w blk 0 d0) :
    LessAt g #[.pointer (some ⟨gv, 0, none⟩)] (encV encA) k lt blk 0 n w := by
  intro W dk hF hs i j hi hj
  have hkV : ∀ x, (encV encA x).length = k := fun x => by simp [encV, hk]
  have hHW : HoldsK (encV encA) k W blk 0 dk := hF.holds hb hH (by omega)
  have hsize := hF.size
  have hcW : W.cell? ⟨gv, 0, none⟩ = some (.slice (some ⟨blk, 0, none⟩) n cap) := by rw [hF.cell hgv hne]; exact hc
  have hlen : dk.toList.length = n := by simpa using hs
  have hrel : RelV0 (fun b => b < W.heap.size) W (.sl (dk.toList.map encA)) (.slice (some ⟨blk, 0, none⟩) n cap) := by
    have hl : (dk.toList.map encA).length = n := by simpa using hs
    have hel : ∀ j q, j < n → q < k → ∃ a, (encA dk[j]!)[q]? = some a ∧ plainA a = true ∧ (encV encA dk[j]!)[q]! = valA a := by
      intro j q hj hq
      have hq' : q < (encA dk[j]!).length := by rw [hk]; exact hq
      refine ⟨(encA dk[j]!)[q], List.getElem?_eq_getElem hq', hp _ _ (List.getElem_mem hq'), ?_⟩
      rw [getElem!_pos _ q (by rw [hkV]; exact hq)]
      simp [encV]
    have := RelV0.sl (S := fun b => b < W.heap.size) (w := W) (dk.toList.map encA) (some ⟨blk, 0, none⟩) cap k (fun j q => if j < n ∧ q < k then (encV encA dk[j]!)[q]! else .bool false) (by omega) (by omega) (fun h => by cases h)
      (fun r hr => by obtain ⟨x, _, rfl⟩ := List.mem_map.1 hr; exact hk x)
      (fun _ => ⟨⟨blk, 0, none⟩, rfl, by show blk < W.heap.size; omega, fun j q hj hq => by
        have := (hHW.cell (i := j) (c := q) (by omega) hq).1
        rw [if_pos ⟨by omega, hq⟩, ← this]
        congr 1
        simp [Addr.add]
        try (intros; omega)⟩)
      (fun j q => by
        split
        · rename_i h
          obtain ⟨a, _, h2, h3⟩ := hel j q h.1 h.2
          rw [h3]
          exact plain_one h2
        · rfl)
      (fun j q r a hr ha => by
        have hj : j < n := by have := lt_of_getElem? hr; omega
        rw [List.getElem?_map] at hr
        have e1 : dk.toList[j]? = some dk[j]! := by rw [Array.getElem?_toList, getElem?_pos dk j (by omega), getElem!_pos dk j (by omega)]
        rw [e1, Option.map_some, Option.some.injEq] at hr
        subst hr
        have hq : q < k := by have := lt_of_getElem? ha; rw [hk] at this; exact this
        rw [if_pos ⟨hj, hq⟩]
        obtain ⟨a', h1, h2, h3⟩ := hel j q hj hq
        rw [ha, Option.some.injEq] at h1
        subst h1
        rw [h3]
        exact plain_rel h2)
    rw [hl] at this
    exact this
  have hC := (hcon dk.toList i j (by omega) (by omega)).2 W (fun b => b < W.heap.size) [.int .i64 i, .int .i64 j, .pointer (some ⟨gv, 0, none⟩)] (fun _ h => h) rfl (fun q a u ha hu => by
    match q with
    | 0 => simp only [List.getElem?_cons_zero, Option.some.injEq] at ha hu; subst ha; subst hu; exact .i _ _
    | 1 => simp only [List.getElem?_cons_succ, List.getElem?_cons_zero, Option.some.injEq] at ha hu; subst ha; subst hu; exact .i _ _
    | 2 =>
      simp only [List.getElem?_cons_succ, List.getElem?_cons_zero, Option.some.injEq] at ha hu
      subst ha; subst hu
      refine .eptr _ ⟨gv, 0, none⟩ (fun _ => .slice (some ⟨blk, 0, none⟩) n cap) (by show gv < W.heap.size; omega) (fun q hq => ?_) (fun _ => rfl) (fun q a ha => ?_)
      · have : q = 0 := by simpa using hq
        subst this
        exact hcW
      · have : q = 0 := by have := lt_of_getElem? ha; simpa using this
        subst this
        simp only [List.getElem?_cons_zero, Option.some.injEq] at ha
        subst ha
        exact hrel
    | q + 3 => simp at ha)
  refine hC.mono ?_
  rintro e w' ⟨v, rfl, hr, hB⟩
  cases hr
  refine ⟨?_, hB⟩
  rw [← Array.getElem!_toList, ← Array.getElem!_toList]
theorem ioStable {t e : Nat} {fN : Nat → Nat} (hT : SortTy t e k fN) (hk : ∀ x, (encA x).length = k) (hp : ∀ x, ∀ a ∈ encA x, plainA a = true) (lt : α → α → Bool) (hO : SWO lt) (g : Nat) (hg : Callable Try.prog g) (hS : Callable Try.prog 55)
    (hcon : ∀ (d : List α) (i j : Nat), i < d.length → j < d.length → Con Try.prog g [.i .i64 i, .i .i64 j, .eptr [.sl (d.map encA)]] (.b (lt d[i]! d[j]!))) (d : List α) (hlen : d.length < 1152921504606846976) :
    IOCon Try.prog 55 g t true e k (d.map encA) ((d.mergeSort (fun x y => !lt y x)).map encA) := by
  have hkV : ∀ x, (encV encA x).length = k := fun x => by simp [encV, hk]
  have hone : ∀ x, ∀ v ∈ encV encA x, v.oneCell' = true := by
    intro x v hv
    obtain ⟨a, ha, rfl⟩ := List.mem_map.1 hv
    exact plain_one (hp x a ha)
  have hpl : ∀ l : List α, ∀ a ∈ (l.map encA).flatten, plainA a = true := by
    intro l a ha
    obtain ⟨r, hr, har⟩ := List.mem_flatten.1 ha
    obtain ⟨x, _, rfl⟩ := List.mem_map.1 hr
    exact hp x a har
  refine ⟨hS, by simp, fun r hr => ?_, hpl _, hpl _, fun w base v cv ho hcap => ?_⟩
  · obtain ⟨x, _, rfl⟩ := List.mem_map.1 hr; exact hk x
  · obtain ⟨gv, rfl, q1, q2, q3⟩ := hcap rfl
    simp only [if_true]
    rw [List.length_map] at ho ⊢
    rcases ho.2 with ⟨rfl, h0⟩ | ⟨b, cap, cur, rfl, hb, hh, h1, h2, h3, h4⟩
    · have : d = [] := List.eq_nil_of_length_eq_zero h0
      subst this
      refine (sliceStable_nil (enc := encV encA) hT lt hO hkV g #[.pointer (some ⟨gv, 0, none⟩)] hg w).mono ?_
      rintro e' w' ⟨rfl, hB⟩
      refine ⟨rfl, ⟨by simp, .inl ⟨rfl, rfl⟩⟩, fun j hj _ => hB.block j hj, hB.os, hB.tape, hB.output, hB.size⟩
    · have hbl : b < w.heap.size := (Array.getElem?_eq_some_iff.1 hh).1
      have hne : gv ≠ b := fun e => q3 (by rw [e]; rfl)
      have hHd : HoldsK (encV encA) k w b 0 d.toArray := holds_of_owns hkV ho (by simp) (by rw [← encV_flat])
      have hl := lessAt_con (blk := b) hk hp lt g hcon q1 hne hbl q2 h1 (by omega) d.toArray (by simp) hHd
      have hw := sliceStable_walk (blk := b) (off := 0) (enc := encV encA) hT hkV hone lt hO g #[.pointer (some ⟨gv, 0, none⟩)] hg cap d.toArray (by simp; omega) w (by simpa using hl) hHd hbl
      rw [show d.toArray.size = d.length by simp] at hw
      refine hw.mono ?_
      rintro e' w' ⟨rfl, hF⟩
      have f := hF.facts
      have ow := hF.owns hkV (stS_size lt d.toArray) (by rw [← encV_flat]) (by simp) ho
      refine ⟨rfl, ?_, fun j hj hjb => f.2.2.2 j hj (fun e => hjb (by rw [e]; rfl)), f.1, f.2.1, f.2.2.1, hF.size⟩
      rw [← encV_flat]
      exact ow
end
end Go.Proofs.Ytjngmlkaijpbgaa
namespace Go.E
open Go Go.Proofs Go.Shelf Go.RowKit Go.Lib
variable {P : Program} {ρ : Ren}
set_option maxHeartbeats 2000000 in
set_option maxRecDepth 100000 in
theorem clone_some (L : SlLaysE0.n41 P ρ) (i0 : TypeInfo) (z : Value) (size bytes : Nat) (hi : P.info? (ρ.t 23) = some i0) (hz0 : i0.zero = some z) (hz1 : i0.size = size) (hz2 : i0.bytes = bytes) (hzs : z.cells.size = size) (hsz : 0 < size) (z23 : ∀ w, (Go.sizeOf (ρ.t 23)).run P w = .ok size w)
    (ad : Addr) (n c : Nat) (news : List Value) (w : World) (hl : news.length = n * size) (hn : n ≤ maxLen) (hbig : n * bytes ≤ 140737488355328)
    (hc : ∀ j u, news[j]? = some u → w.cell? (ad.add j) = some u) (h1 : ∀ u ∈ news, u.oneCell' = true) :
    Calls P (ρ.f 41) #[.slice (some ad) n c] w fun e w' => ∃ v', e = .returned v' ∧ w'.ownsRow w.heap.size (ρ.t 23) size v' n news ∧ Below w.heap.size w w' := by
  have mixed := L.mixed; have t4 := L.t4; have a4 := L.a4; have z4 := L.z4; have v4 := L.v4; have t22 := L.t22; have a22 := L.a22; have z22 := L.z22; have v22 := L.v22
  have q22 : ∀ (w : World) (a : Option Addr) (n c n' c' : Nat), (binOp .eql (ρ.t 22) (.slice a n c) (.slice none n' c')).run P w = .ok (.bool a.isNone) w := fun w a n c n' c' => Lib.run_eql_slice_nil w _ _ a n c n' c' L.t22
  have u22 : ∀ w, Sem.run P (underlying (ρ.t 22)) w = .ok (TypeDesc.slice (ρ.t 23)) w := run_underlying t22
  have A : Aside (∀ j u, news[j]? = some u → w.cell? (ad.add j) = some u) := hc
  clear hc
  obtain ⟨_, _, FG⟩ := L.f41
  go_enter FG, SlBodyN.n41_ntmps ρ
  go_wp2_with (at_builtin; refine wpList_append_own _ rfl _ _ (ρ.t 22) rfl w.heap.size (ρ.t 23) i0 z size bytes t22 hi hz0 hz1 hz2 hzs hsz _ _ _ rfl (World.ownsRow_made w #[] 0 (Nat.le_refl _) (Nat.zero_le _) (by simp)) ad n c news rfl ?qc1 ?qc2 ?qc3 ?qc4 ?qc5 ?qc6 ?_)
  case qc1 => exact hl
  case qc2 =>
    intro j u hj
    exact Lib.cell?_alloc_some _ (A.out j u hj)
  case qc3 => exact h1
  case qc4 => rw [Nat.zero_add]; exact hn
  case qc5 => rw [Nat.zero_add]; exact hbig
  case qc6 => simp
  intro v' w1 hown hgrow hnil
  go_wp2
  go_ret
  refine ⟨v', rfl, by simpa using hown, ?_⟩
  exact ((Below.refl _ w).alloc (Nat.le_refl _) _).grown hgrow (by simp) (by intro k hk; simp [Value.ownBlock] at hk; omega)
set_option maxHeartbeats 1000000 in
theorem clone_none (L : SlLaysE0.n41 P ρ) (n c : Nat) (w : World) :
    Calls P (ρ.f 41) #[.slice none n c] w fun e w' => e = .returned (.slice none 0 0) ∧ w' = w := by
  have mixed := L.mixed; have t4 := L.t4; have a4 := L.a4; have z4 := L.z4; have v4 := L.v4; have t22 := L.t22; have a22 := L.a22; have z22 := L.z22; have v22 := L.v22
  have q22 : ∀ (w : World) (a : Option Addr) (n c n' c' : Nat), (binOp .eql (ρ.t 22) (.slice a n c) (.slice none n' c')).run P w = .ok (.bool a.isNone) w := fun w a n c n' c' => Lib.run_eql_slice_nil w _ _ a n c n' c' L.t22
  obtain ⟨_, _, FG⟩ := L.f41
  go_enter FG, SlBodyN.n41_ntmps ρ
  go_wp2
  go_ret
  exact ⟨rfl, rfl⟩
/-- slices.Clone: a row of the caller's own, of the same elements. -/
theorem conB_clone (L : SlLaysE0.n41 P ρ) {T : Tab} (hT : TabOk P T) {te : TI} (hte : look T (ρ.t 23) = some te) (hcl : Callable P (ρ.f 41)) (hz : te.zero.length = te.size) (h0 : 0 < te.size) {rows : List (List AV)} (hsz : ∀ r ∈ rows, r.length = te.size)
    (hbig : rows.length * te.bytes ≤ 140737488355328) : ConB P (ρ.f 41) [.sl rows] (ρ.t 23) (.row te.size rows) := by
  refine ⟨hcl, fun w S0 vs hS hl hv => ?_⟩
  obtain ⟨v, rfl⟩ : ∃ v, vs = [v] := by
    match vs, hl with
    | [v], _ => exact ⟨v, rfl⟩
  have hr := hv 0 _ v rfl rfl
  have hm : rows.length ≤ maxLen := by cases hr with | sl _ A cap sz u hc hm => exact hm
  obtain ⟨i, zv, i1, i2, i3, i4, i5⟩ := inf hT hte
  rcases (shows_sl hr).flat hsz with ⟨rfl, rfl⟩ | ⟨ad, cap, xs, rfl, x1, x2, x3, x4⟩
  · refine (clone_none L 0 0 w).mono ?_
    rintro e w' ⟨rfl, rfl⟩
    exact ⟨_, rfl, ⟨fun r hr => by simp at hr, [], World.ownsRow_nil _ _ _ _, fun u hu => by simp at hu, fun j b u hb => by simp at hb⟩, Below.refl _ _⟩
  · have hzl : zv.cells.size = te.size := by
      have := congrArg List.length i5
      simpa [hz] using this
    refine (clone_some L i zv te.size te.bytes i1 i4 i2 i3 hzl h0 (szOf hT hte) ad rows.length cap xs w x1 hm hbig x2 x3).mono ?_
    rintro e w' ⟨v', rfl, ho, hb⟩
    refine ⟨v', rfl, ⟨hsz, xs, ho, x3, fun j b u hb' hu => (x4 j b u hb' hu).mono (fun k hk => ⟨.inl hk, fun e => ?_⟩) (fun k hk => hb.block k (hS k hk))⟩, hb⟩
    have := hS k hk
    rcases ho.2 with ⟨rfl, _⟩ | ⟨g, cap', cur, rfl, g1, _⟩
    · simp [blkOf] at e
    · simp [blkOf] at e; omega
end Go.E
namespace Go.E
variable {α : Type} {le : α → α → Bool}
def mgP (le : α → α → Bool) (w : Nat) (l : List α) : Nat → List α
  | 0 => []
  | k + 1 => mgP le w l k ++ List.merge ((l.drop (k * (2 * w))).take w) ((l.drop (k * (2 * w) + w)).take w) le
theorem chunkP_split (w : Nat) (l : List α) (n : Nat) : (l.drop n).take (2 * w) = (l.drop n).take w ++ (l.drop (n + w)).take w := by
  rw [Nat.two_mul, List.take_add, List.drop_drop]
theorem mgP_perm (le : α → α → Bool) (w : Nat) (l : List α) : ∀ k, (mgP le w l k).Perm (l.take (k * (2 * w)))
  | 0 => by simp [mgP]
  | k + 1 => by
    rw [mgP, show (k + 1) * (2 * w) = k * (2 * w) + 2 * w from Nat.succ_mul _ _, List.take_add, chunkP_split]
    exact (mgP_perm le w l k).append (List.merge_perm_append _)
theorem mgP_len (le : α → α → Bool) (w : Nat) (l : List α) (k : Nat) : (mgP le w l k).length = min (k * (2 * w)) l.length := by
  rw [(mgP_perm le w l k).length_eq, List.length_take]
theorem mgP_end (le : α → α → Bool) (w : Nat) (l : List α) (k : Nat) (h : l.length ≤ k * (2 * w)) : ∀ j, mgP le w l (k + j) = mgP le w l k
  | 0 => rfl
  | j + 1 => by
    have e : k * (2 * w) ≤ (k + j) * (2 * w) := Nat.mul_le_mul_right _ (by omega)
    rw [← Nat.add_assoc, mgP, mgP_end le w l k h j, List.drop_of_length_le (by omega), List.drop_of_length_le (by omega)]
    simp
def mgA (le : α → α → Bool) (w : Nat) (l : List α) : List α := mgP le w l l.length
theorem mgA_of (le : α → α → Bool) {w : Nat} (hw : 0 < w) {l : List α} {k : Nat} (h : l.length ≤ k * (2 * w)) : mgP le w l k = mgA le w l := by
  have h2 : l.length ≤ l.length * (2 * w) := Nat.le_mul_of_pos_right _ (by omega)
  unfold mgA
  by_cases e : k ≤ l.length
  · obtain ⟨j, hj⟩ : ∃ j, l.length = k + j := ⟨l.length - k, by omega⟩
    have := mgP_end le w l k h j
    rw [← hj] at this
    exact this.symm
  · obtain ⟨j, hj⟩ : ∃ j, k = l.length + j := ⟨k - l.length, by omega⟩
    rw [hj]
    exact mgP_end le w l l.length h2 j
theorem mgA_len (le : α → α → Bool) {w : Nat} (hw : 0 < w) (l : List α) : (mgA le w l).length = l.length := by
  have h2 : l.length ≤ l.length * (2 * w) := Nat.le_mul_of_pos_right _ (by omega)
  unfold mgA
  rw [mgP_len]; omega
/-- Pieces of the length w are merged by pairs, then of twice that length, and so on. -/
def botS (le : α → α → Bool) (w : Nat) (l : List α) : List α := if h : 0 < w ∧ w < l.length then botS le (2 * w) (mgA le w l) else l
termination_by l.length - w
decreasing_by rw [mgA_len le h.1]; omega
theorem botS_step (le : α → α → Bool) {w : Nat} {l : List α} (h0 : 0 < w) (h : w < l.length) : botS le w l = botS le (2 * w) (mgA le w l) := by
  rw [botS, dif_pos ⟨h0, h⟩]
theorem botS_done (le : α → α → Bool) {w : Nat} {l : List α} (h : ¬ w < l.length) : botS le w l = l := by
  rw [botS, dif_neg (fun k => h k.2)]
def chunkyP (le : α → α → Bool) (w : Nat) (l : List α) : Prop := ∀ k, ((l.drop (k * w)).take w).Pairwise (fun x y => le x y = true)
theorem mgP_chunk (ht : ∀ a b c, le a b = true → le b c = true → le a c = true) (hto : ∀ a b, (le a b || le b a) = true) (w : Nat) (l : List α) (h : chunkyP le w l) : ∀ k j, (((mgP le w l k).drop (j * (2 * w))).take (2 * w)).Pairwise (fun x y => le x y = true)
  | 0, j => by simp [mgP]
  | k + 1, j => by
    rw [mgP]
    have hl := mgP_len le w l k
    have hc : (List.merge ((l.drop (k * (2 * w))).take w) ((l.drop (k * (2 * w) + w)).take w) le).Pairwise (fun x y => le x y = true) := by
      refine List.pairwise_merge ht hto _ _ ?_ ?_
      · have := h (2 * k)
        rwa [show 2 * k * w = k * (2 * w) by rw [Nat.mul_comm 2 k, Nat.mul_assoc]] at this
      · have := h (2 * k + 1)
        rwa [show (2 * k + 1) * w = k * (2 * w) + w by rw [Nat.succ_mul, Nat.mul_comm 2 k, Nat.mul_assoc]] at this
    by_cases hfull : (mgP le w l k).length = k * (2 * w)
    · by_cases hj : j < k
      · have : j * (2 * w) + 2 * w ≤ k * (2 * w) := by rw [← Nat.succ_mul]; exact Nat.mul_le_mul_right _ hj
        rw [List.drop_append_of_le_length (by omega), List.take_append_of_le_length (by rw [List.length_drop]; omega)]
        exact mgP_chunk ht hto w l h k j
      · by_cases ej : j = k
        · subst ej
          rw [List.drop_left' hfull]
          exact hc.sublist (List.take_sublist _ _)
        · have : k * (2 * w) + 2 * w ≤ j * (2 * w) := by rw [← Nat.succ_mul]; exact Nat.mul_le_mul_right _ (by omega)
          rw [List.drop_of_length_le (by simp only [List.length_append, List.length_merge, List.length_take, List.length_drop]; omega)]
          simp
    · rw [List.drop_of_length_le (l := l) (i := k * (2 * w)) (by omega), List.drop_of_length_le (l := l) (i := k * (2 * w) + w) (by omega)]
      simp only [List.take_nil, List.merge, List.append_nil]
      exact mgP_chunk ht hto w l h k j
theorem chunkyP_one (l : List α) : chunkyP le 1 l := fun k => by
  cases e : l.drop (k * 1) with
  | nil => simp
  | cons x t => simp
theorem botS_perm (le : α → α → Bool) : ∀ (n w : Nat) (l : List α), l.length - w ≤ n → (botS le w l).Perm l
  | 0, w, l, h => by rw [botS_done le (by omega)]
  | n + 1, w, l, h => by
    by_cases h0 : 0 < w ∧ w < l.length
    · rw [botS_step le h0.1 h0.2]
      refine (botS_perm le n _ _ (by rw [mgA_len le h0.1]; omega)).trans ?_
      have h2 : l.length ≤ l.length * (2 * w) := Nat.le_mul_of_pos_right _ (by omega)
      have := mgP_perm le w l l.length
      rwa [List.take_of_length_le h2] at this
    · rw [botS, dif_neg h0]
theorem botS_rises (ht : ∀ a b c, le a b = true → le b c = true → le a c = true) (hto : ∀ a b, (le a b || le b a) = true) : ∀ (n w : Nat) (l : List α), l.length - w ≤ n → 0 < w → chunkyP le w l → (botS le w l).Pairwise (fun x y => le x y = true)
  | 0, w, l, h, hw, hc => by
    rw [botS_done le (by omega)]
    have := hc 0
    rwa [Nat.zero_mul, List.drop_zero, List.take_of_length_le (by omega)] at this
  | n + 1, w, l, h, hw, hc => by
    by_cases h0 : w < l.length
    · rw [botS_step le hw h0]
      exact botS_rises ht hto n _ _ (by rw [mgA_len le hw]; omega) (by omega) (fun j => mgP_chunk ht hto w l hc _ j)
    · rw [botS_done le h0]
      have := hc 0
      rwa [Nat.zero_mul, List.drop_zero, List.take_of_length_le (by omega)] at this
/-! the three loops -/
variable [Inhabited α]
def subP (l : List α) (i j : Int) : List α := (l.take j.toNat).drop i.toNat
theorem subP_nil {l : List α} {i j : Int} (h : j ≤ i) : subP l i j = [] := List.drop_of_length_le (by rw [List.length_take]; omega)
theorem subP_cons {l : List α} {i j : Int} (h0 : 0 ≤ i) (h1 : i < j) (h2 : j ≤ l.length) : subP l i j = l[i.toNat]! :: subP l (i + 1) j := by
  have e : (i + 1).toNat = i.toNat + 1 := by omega
  have hl : i.toNat < (l.take j.toNat).length := by rw [List.length_take]; omega
  unfold subP
  rw [e, List.drop_eq_getElem_cons hl, List.getElem_take, getElem!_pos l i.toNat (by omega)]
theorem subP_first {l : List α} {f w : Int} (h0 : 0 ≤ f) (hw : 0 ≤ w) : subP l f (min (f + w) l.length) = (l.drop f.toNat).take w.toNat := by
  unfold subP
  rw [List.drop_take]
  by_cases h : f + w ≤ l.length
  · congr 1; omega
  · rw [List.take_of_length_le (by rw [List.length_drop]; omega), List.take_of_length_le (by rw [List.length_drop]; omega)]
theorem subP_second {l : List α} {f w : Int} (h0 : 0 ≤ f) (hw : 0 ≤ w) : subP l (min (f + w) l.length) (min (min (f + w) l.length + w) l.length) = (l.drop (f.toNat + w.toNat)).take w.toNat := by
  by_cases h : f + w ≤ l.length
  · have e : min (f + w) (l.length : Int) = f + w := by omega
    rw [e, subP_first (by omega) hw, show (f + w).toNat = f.toNat + w.toNat by omega]
  · rw [subP_nil (by omega), List.drop_of_length_le (by omega), List.take_nil]
def invB1 (le : α → α → Bool) (es : List α) (n w : Int) (l : List α) : Prop := 1 ≤ w ∧ w ≤ 2 * n + 1 ∧ (l.length : Int) = n ∧ botS le w.toNat l = botS le 1 es
def decB1 (n w : Int) (l : List α) : Nat := (n - w).toNat
def invB2 (le : α → α → Bool) (l : List α) (n w f : Int) (l' m : List α) : Prop := l' = l ∧ 0 ≤ f ∧ f < n + 2 * w ∧ ∃ k : Nat, f.toNat = k * (2 * w.toNat) ∧ m = mgP le w.toNat l k
def decB2 (n f : Int) (l' m : List α) : Nat := (n - f).toNat
def invB3 (le : α → α → Bool) (l : List α) (f mid e : Int) (m0 : List α) (i j : Int) (l' m : List α) : Prop :=
  l' = l ∧ f ≤ i ∧ i ≤ mid ∧ mid ≤ j ∧ j ≤ e ∧ (m.length : Int) = i + (j - mid) ∧ m ++ List.merge (subP l i mid) (subP l j e) le = m0 ++ List.merge (subP l f mid) (subP l mid e) le
def decB3 (mid e i j : Int) (l' m : List α) : Nat := ((mid - i) + (e - j)).toNat
theorem invB3_left {l : List α} {f mid e i j : Int} {m0 l' m : List α} (hf : 0 ≤ f) (hm : mid ≤ l.length) (he : e ≤ l.length) (h0 : l' = l) (h1 : f ≤ i) (h2 : i ≤ mid) (h3 : mid ≤ j) (h4 : j ≤ e) (h5 : (m.length : Int) = i + (j - mid))
    (h6 : m ++ List.merge (subP l i mid) (subP l j e) le = m0 ++ List.merge (subP l f mid) (subP l mid e) le) (hi : i < mid) (hle : e ≤ j ∨ le l'[i.toNat]! l'[j.toNat]! = true) : invB3 le l f mid e m0 (i + 1) j l' (m ++ [l'[i.toNat]!]) := by
  subst h0
  refine ⟨rfl, by omega, by omega, h3, h4, by simp; omega, ?_⟩
  rw [← h6, subP_cons (by omega) hi hm, List.append_assoc]
  congr 1
  by_cases hj : j < e
  · rw [subP_cons (i := j) (by omega) hj he, List.cons_merge_cons, if_pos (by rcases hle with h | h; omega; exact h)]
    rfl
  · rw [subP_nil (i := j) (by omega), List.merge_right, List.merge_right]
    rfl
theorem invB3_right {l : List α} {f mid e i j : Int} {m0 l' m : List α} (hf : 0 ≤ f) (hm : mid ≤ l.length) (he : e ≤ l.length) (h0 : l' = l) (h1 : f ≤ i) (h2 : i ≤ mid) (h3 : mid ≤ j) (h4 : j ≤ e) (h5 : (m.length : Int) = i + (j - mid))
    (h6 : m ++ List.merge (subP l i mid) (subP l j e) le = m0 ++ List.merge (subP l f mid) (subP l mid e) le) (hj : j < e) (hle : ¬ (i < mid ∧ le l'[i.toNat]! l'[j.toNat]! = true)) : invB3 le l f mid e m0 i (j + 1) l' (m ++ [l'[j.toNat]!]) := by
  subst h0
  refine ⟨rfl, h1, h2, by omega, by omega, by simp; omega, ?_⟩
  rw [← h6, subP_cons (i := j) (by omega) hj he, List.append_assoc]
  congr 1
  by_cases hi : i < mid
  · rw [subP_cons (i := i) (by omega) hi hm, List.cons_merge_cons, if_neg (fun k => hle ⟨hi, k⟩)]
    rfl
  · rw [subP_nil (i := i) (by omega), List.nil_merge, List.nil_merge]
    rfl
theorem invB3_done {l : List α} {n w f i j : Int} {l' m0 m : List α} (hk : ∃ k : Nat, f.toNat = k * (2 * w.toNat) ∧ m0 = mgP le w.toNat l k) (hn : n = l.length) (hw : 1 ≤ w) (hf : 0 ≤ f) (hfn : f < n) (h0 : l' = l)
    (h2 : i ≤ min (f + w) n) (h3 : min (f + w) n ≤ j) (h4 : j ≤ min (min (f + w) n + w) n)
    (h6 : m ++ List.merge (subP l i (min (f + w) n)) (subP l j (min (min (f + w) n + w) n)) le = m0 ++ List.merge (subP l f (min (f + w) n)) (subP l (min (f + w) n) (min (min (f + w) n + w) n)) le) (hi : ¬ i < min (f + w) n) (hj : ¬ j < min (min (f + w) n + w) n) :
    invB2 le l n w (f + 2 * w) l' m := by
  subst hn
  obtain ⟨k, k1, k2⟩ := hk
  refine ⟨h0, by omega, by omega, k + 1, ?_, ?_⟩
  · rw [Nat.succ_mul, ← k1]; omega
  · rw [subP_nil (i := i) (by omega), subP_nil (i := j) (by omega), List.nil_merge, List.append_nil, subP_first hf (by omega), subP_second hf (by omega)] at h6
    rw [h6, mgP, k2, k1]
theorem invB1_next {es l m : List α} {n w f : Int} (hk : ∃ k : Nat, f.toNat = k * (2 * w.toNat) ∧ m = mgP le w.toNat l k) (hb : botS le w.toNat l = botS le 1 es) (hn : n = l.length) (hw : 1 ≤ w) (hwn : w < n) (hf : 0 ≤ f) (hfn : ¬ f < n) :
    invB1 le es n (2 * w) m := by
  subst hn
  obtain ⟨k, k1, k2⟩ := hk
  have e : (2 * w).toNat = 2 * w.toNat := by omega
  have hm : m = mgA le w.toNat l := by rw [k2]; exact mgA_of le (by omega) (by omega)
  refine ⟨by omega, by omega, ?_, ?_⟩
  · rw [hm, mgA_len le (by omega)]
  · rw [e, hm, ← botS_step le (by omega) (by omega), hb]
theorem mgP_flen {l m : List α} {w f : Int} (hf : 0 ≤ f) (hfn : f < l.length) (hk : ∃ k : Nat, f.toNat = k * (2 * w.toNat) ∧ m = mgP le w.toNat l k) : (m.length : Int) = f := by
  obtain ⟨k, k1, k2⟩ := hk
  rw [k2, mgP_len, ← k1]
  omega
theorem invB3_init {l m : List α} {w f mid e j : Int} (hk : ∃ k : Nat, f.toNat = k * (2 * w.toNat) ∧ m = mgP le w.toNat l k) (hf : 0 ≤ f) (hfn : f < l.length) (h1 : f ≤ mid) (h2 : mid ≤ e) (hj : j = mid) : invB3 le l f mid e m f j l m := by
  subst hj
  exact ⟨rfl, Int.le_refl _, h1, Int.le_refl _, h2, by rw [mgP_flen hf hfn hk]; omega, rfl⟩
theorem invB2_init {l : List α} {n w : Int} (hn : 0 ≤ n) (hw : 1 ≤ w) : invB2 le l n w 0 l [] := ⟨rfl, Int.le_refl _, by omega, 0, by simp, rfl⟩
theorem invB1_init {es : List α} {n : Int} (hn : (es.length : Int) = n) : invB1 le es n 1 es := ⟨Int.le_refl _, by omega, hn, rfl⟩
end Go.E
namespace Go.Proofs.Ytjngmlkaijpbgaa
open Go.E
set_option maxRecDepth 100000
set_option maxHeartbeats 4000000
open Go Go.Sort Go.RowKit Go.Lib Go.Shelf Go.Proofs
def renClE : Go.Shelf.Ren := ⟨fun | 41 => 54 | n => n, fun | 4 => 4 | 22 => 22 | 23 => 28 | n => n, fun n => n⟩
theorem laysClE : Go.Proofs.SlLaysE0.n41 Try.prog renClE := { mixed := by kernel_rfl, f41 := ⟨Try.f54.name, by decide, Try.func54.trans (congrArg some (by kernel_rfl))⟩, t4 := Try.underlying4, a4 := Try.isAgg4, z4 := Try.sizeOf4, v4 := Try.zeroValue4, t22 := Try.underlying22, a22 := Try.isAgg22, z22 := Try.sizeOf22, v22 := Try.zeroValue22 }
theorem con54 (es : List Entry) (hl : es.length * 40 ≤ 140737488355328) : ConB Try.prog 54 [.sl (es.map c28)] 28 (.row 4 (es.map c28)) :=
  conB_clone (T := tab) laysClE tab_ok (te := _) rfl ⟨_, Try.func54, by kernel_rfl, by kernel_rfl⟩ (by kernel_rfl) (by decide +kernel) (fun r hr => by obtain ⟨x, _, rfl⟩ := List.mem_map.1 hr; kernel_rfl) (by rw [List.length_map]; exact hl)
noncomputable def tiRowE : TypeInfo := (Try.prog.info? 22).get!
noncomputable def tiE : TypeInfo := (Try.prog.info? 28).get!
def swE (n : Nat) : Nat := if n = 0 then 93 else if n = 1 then 94 else 101
theorem swKE (n : Nat) (h2 : 2 ≤ n) : swapperK n tiE 25 = 9 := by
  have b : tiE.bytes = 40 := by kernel_rfl
  have c : (n == 0) = false := by simp; omega
  have d : (n == 1) = false := by simp; omega
  simp [swapperK, b, c, d]
theorem sortTyE : SortTy 22 28 4 swE := by
  refine ⟨tiRowE, tiE, 25, false, by kernel_rfl, by kernel_rfl, by kernel_rfl, by kernel_rfl, fun _ => by kernel_rfl, fun n => ?_, by kernel_rfl, fun _ => by kernel_rfl, fun n h2 => ?_⟩
  · match n with
    | 0 => show _ = some 93; kernel_rfl
    | 1 => show _ = some 94; kernel_rfl
    | n + 2 =>
      rw [swKE _ (by omega)]
      simp only [swE]
      rw [if_neg (by omega), if_neg (by omega)]
      show _ = some 101
      kernel_rfl
  · have e : swE n = 101 := by simp only [swE]; rw [if_neg (by omega), if_neg (by omega)]
    rw [e]
    exact fun args W => run_callFunc_extern Try.func101 (by kernel_rfl) (by kernel_rfl) (by kernel_rfl) (e := Extern.ReflectliteSwapper.swap false) (by kernel_rfl) args W
def ltE (a b : Entry) : Bool := dLt a.dot b.dot
theorem swo_ltE : SWO ltE := by
  refine ⟨fun x => ?_, fun x y z h1 h2 => ?_, fun x y z h1 h2 => ?_⟩ <;> simp only [ltE, dLt, decide_eq_true_eq, decide_eq_false_iff_not] at * <;> omega
theorem con56 (d : List Entry) (i j : Int) (hi0 : 0 ≤ i) (hj0 : 0 ≤ j) (hi : i < d.length) (hj : j < d.length) : Con Try.prog 56 [.i .i64 i, .i .i64 j, .eptr [.sl (d.map c28)]] (.b (ltE d[i.toNat]! d[j.toNat]!)) :=
  by
  refine st_con tab_ok (by kernel_rfl) [.tmp 5] 17 Go.Proofs.Try.func56 (by kernel_rfl) (by kernel_rfl) ?_
  intro e0 cx
  refine sq ?_
  refine rg (A := True) cx [] [0, 1, 2] [] trivial ?_
  refine sn ?_
  refine sq ?_
  refine ra (A := ((0 : Int) ≤ i) ∧ ((List.map c28 d)[i.toNat]? = some (c28 d[i.toNat]!)) ∧ ((c28 d[i.toNat]!).length = (4 : Nat)) ∧ ((2 : Nat) ≤ [AV.i IntKind.i64 d[i.toNat]!.dot.rep, AV.i IntKind.i64 d[i.toNat]!.dot.num, AV.s d[i.toNat]!.sku, AV.i IntKind.i64 d[i.toNat]!.qty].length) ∧ ((0 : Int) ≤ j) ∧ ((List.map c28 d)[j.toNat]? = some (c28 d[j.toNat]!)) ∧ ((c28 d[j.toNat]!).length = (4 : Nat)) ∧ ((2 : Nat) ≤ [AV.i IntKind.i64 d[j.toNat]!.dot.rep, AV.i IntKind.i64 d[j.toNat]!.dot.num, AV.s d[j.toNat]!.sku, AV.i IntKind.i64 d[j.toNat]!.qty].length) ∧ _) cx [(2, { row := (c28 d[i.toNat]!) }), (7, { row := (c28 d[j.toNat]!) }), (10, { val := some (.b (dLt d[i.toNat]!.dot d[j.toNat]!.dot)) })] [5] [] ⟨(by (with_reducible assumption)), (by (with_reducible refine get_map ?_; omega)), (by kernel_rfl), (by (simp only [List.length_append, List.length_cons, List.length_nil]; omega)), (by (with_reducible assumption)), (by (with_reducible refine get_map ?_; omega)), (by kernel_rfl), (by (simp only [List.length_append, List.length_cons, List.length_nil]; omega)), (con48 (d[i.toNat]!.dot) (d[j.toNat]!.dot))⟩ ?_
  refine sn ?_
  refine st_ret (by kernel_rfl) ?_
  refine q_ret (r := .b (dLt d[i.toNat]!.dot d[j.toNat]!.dot)) (obl := []) (by kernel_rfl) trivial (AVle.eq (show AV.b (dLt d[i.toNat]!.dot d[j.toNat]!.dot) = AV.b (ltE d[i.toNat]! d[j.toNat]!) from ?g0)); rotate_left 1
  case g0 => exact rfl
theorem io55 (d : List Entry) (hlen : d.length < 1152921504606846976) :
    IOConG Try.prog 55 56 (some 22) true 28 4 (d.map c28) ((d.mergeSort (fun x y => !ltE y x)).map c28) := by
  refine IOCon.toG (fun r hr => by obtain ⟨x, _, rfl⟩ := List.mem_map.1 hr; rfl) ?_
  exact ioStable (α := Entry) (encA := c28) (k := 4) sortTyE (fun x => rfl)
    (fun x a ha => by
      simp only [c28, List.mem_cons, List.not_mem_nil, or_false] at ha
      rcases ha with rfl | rfl | rfl | rfl <;> rfl)
    ltE swo_ltE 56 ⟨_, Try.func56, by kernel_rfl, by kernel_rfl⟩ ⟨_, Try.func55, by kernel_rfl, by kernel_rfl⟩
    (fun d i j hi hj => by
      have := con56 d (i : Int) (j : Int) (by omega) (by omega) (by omega) (by omega)
      rw [Int.toNat_natCast, Int.toNat_natCast] at this
      exact this) d hlen
def srtE (es : List Entry) : List Entry := es.mergeSort (fun x y => !ltE y x)
theorem srtE_length (es : List Entry) : (srtE es).length = es.length := by simp [srtE]
def errL (es : List Entry) : Int := match es.find? (fun e => decide (entE e ≠ 0)) with | some e => entE e | none => 0
def onceN (s : List Entry) : Nat → Option (List Entry)
  | 0 => some []
  | n + 1 => match onceN s n with
    | none => none
    | some l => if n = 0 ∨ s[n - 1]!.dot ≠ s[n]!.dot then some (l ++ [s[n]!]) else if s[n - 1]! = s[n]! then some l else none
def onceR (s : List Entry) : List Entry × Int := match onceN s s.length with | some l => (l, 0) | none => ([], 10)
def sortR (es : List Entry) : List Entry × Int := if errL es = 0 then onceR (srtE es) else ([], errL es)
theorem errL_ok {es : List Entry} (h : ∀ j : Nat, j < es.length → entE es[j]! = 0) : errL es = 0 := by
  unfold errL
  have : es.find? (fun e => decide (entE e ≠ 0)) = none := by
    rw [List.find?_eq_none]
    intro x hx
    obtain ⟨j, hj, rfl⟩ := List.mem_iff_getElem.1 hx
    have := h j hj
    rw [getElem!_pos es j hj] at this
    simp [this]
  rw [this]
theorem errL_bad {es : List Entry} : ∀ {i : Nat}, i < es.length → ¬ entE es[i]! = 0 → (∀ j : Nat, j < i → entE es[j]! = 0) → errL es = entE es[i]! := by
  induction es with
  | nil => intro i hi; simp at hi
  | cons e es ih =>
    intro i hi hb hok
    cases i with
    | zero =>
      have hb' : ¬ entE e = 0 := by simpa using hb
      unfold errL
      simp [List.find?_cons, hb']
    | succ i =>
      have h0 : entE e = 0 := by simpa using hok 0 (by omega)
      have := ih (i := i) (by simpa using hi) (by simpa using hb) (fun j hj => by simpa using hok (j + 1) (by omega))
      unfold errL at this ⊢
      simpa [List.find?_cons, h0] using this
theorem onceN_none {s : List Entry} {n : Nat} (h : onceN s n = none) : ∀ m, onceN s (n + m) = none
  | 0 => h
  | m + 1 => by rw [← Nat.add_assoc, onceN, onceN_none h m]
theorem onceN_adj {s : List Entry} : ∀ {n : Nat} {l : List Entry}, onceN s n = some l → ∀ m, m < n → m = 0 ∨ s[m - 1]!.dot ≠ s[m]!.dot ∨ s[m - 1]! = s[m]!
  | 0, l, h, m, hm => by omega
  | n + 1, l, h, m, hm => by
    rw [onceN] at h
    split at h
    · cases h
    · rename_i l0 h0
      by_cases e : m = n
      · subst e
        split at h
        · rename_i hc
          exact hc.imp id .inl
        · split at h
          · rename_i hc; exact .inr (.inr hc)
          · cases h
      · exact onceN_adj h0 m (by omega)
def risesE (s : List Entry) : Prop := s.Pairwise (fun x y => (!ltE y x) = true)
theorem clash_once {s : List Entry} (hs : risesE s) {l : List Entry} (h : onceN s s.length = some l) : ∀ i j : Nat, i ≤ j → j < s.length → s[i]!.dot = s[j]!.dot → s[i]! = s[j]! := by
  intro i j hij
  induction j with
  | zero => intro hj he; have : i = 0 := by omega
            rw [this]
  | succ j ih =>
    intro hj he
    by_cases e : i = j + 1
    · rw [e]
    · have hp := List.pairwise_iff_getElem.1 hs
      have h1 : i = j ∨ (!ltE s[j]! s[i]!) = true := by
        by_cases e2 : i = j
        · exact .inl e2
        · right
          have := hp i j (by omega) (by omega) (by omega)
          rwa [← getElem!_pos s i (by omega), ← getElem!_pos s j (by omega)] at this
      have h2 := hp j (j + 1) (by omega) hj (by omega)
      rw [← getElem!_pos s j (by omega), ← getElem!_pos s (j + 1) hj] at h2
      have hd : s[i]!.dot = s[j]!.dot := by
        rcases h1 with h1 | h1
        · rw [h1]
        · have e3 : s[j]!.dot.rep = s[i]!.dot.rep ∧ s[j]!.dot.num = s[i]!.dot.num := by
            simp only [ltE, dLt, Bool.not_eq_true', decide_eq_false_iff_not] at h1 h2
            rw [← he] at h2
            omega
          cases hx : s[i]!.dot; cases hy : s[j]!.dot
          rw [hx, hy] at e3
          simp only at e3
          rw [e3.1, e3.2]
      have h3 := onceN_adj h (j + 1) hj
      rcases h3 with h3 | h3 | h3
      · omega
      · simp only [Nat.add_sub_cancel] at h3
        exact absurd (by rw [← hd, he]) h3
      · simp only [Nat.add_sub_cancel] at h3
        rw [← h3]
        exact ih (by omega) (by omega) (by rw [he, h3])
/-- Lists that rise, with the same members as often, come to the same. -/
theorem onceR_perm {s t : List Entry} (hp : s.Perm t) (hs : risesE s) (ht : risesE t) : onceR s = onceR t := by
  have key : ∀ {a b : List Entry}, a.Perm b → risesE a → risesE b → ∀ {l}, onceN a a.length = some l → a = b := by
    intro a b hp ha hb l h
    refine List.Perm.eq_of_pairwise (le := fun x y => (!ltE y x) = true) ?_ ha hb hp
    intro x y hx hy h1 h2
    have hy' := hp.symm.subset hy
    obtain ⟨i, hi, rfl⟩ := List.mem_iff_getElem.1 hx
    obtain ⟨j, hj, rfl⟩ := List.mem_iff_getElem.1 hy'
    have hd : a[i].dot = a[j].dot := by
      simp only [ltE, dLt, Bool.not_eq_true', decide_eq_false_iff_not] at h1 h2
      have e3 : a[i].dot.rep = a[j].dot.rep ∧ a[i].dot.num = a[j].dot.num := by omega
      cases hx : a[i].dot; cases hy : a[j].dot
      rw [hx, hy] at e3
      simp only at e3
      rw [e3.1, e3.2]
    by_cases hij : i ≤ j
    · have := clash_once ha h i j hij hj (by rw [getElem!_pos a i hi, getElem!_pos a j hj]; exact hd)
      rwa [getElem!_pos a i hi, getElem!_pos a j hj] at this
    · have := clash_once ha h j i (by omega) hi (by rw [getElem!_pos a i hi, getElem!_pos a j hj]; exact hd.symm)
      rw [getElem!_pos a i hi, getElem!_pos a j hj] at this
      exact this.symm
  cases h1 : onceN s s.length with
  | some l => rw [key hp hs ht h1]
  | none =>
    cases h2 : onceN t t.length with
    | some l => rw [key hp.symm ht hs h2]
    | none => simp [onceR, h1, h2]
theorem srtE_rises (es : List Entry) : risesE (srtE es) := by
  refine List.pairwise_mergeSort (le := fun x y => !ltE y x) ?_ ?_ es
  · intro a b c h1 h2
    simp only [Bool.not_eq_true'] at *
    exact swo_ltE.ntrans _ _ _ h2 h1
  · intro a b
    cases h : ltE b a with
    | false => rfl
    | true => simp [swo_ltE.asymmA h]
theorem rng_onceR (s : List Entry) : (onceR s).1.length ≤ s.length := by
  have : ∀ n l, onceN s n = some l → l.length ≤ n := by
    intro n
    induction n with
    | zero => intro l h; simp [onceN] at h; simp [← h]
    | succ n ih =>
      intro l h
      rw [onceN] at h
      split at h
      · cases h
      · rename_i l0 h0
        have := ih l0 h0
        split at h
        · simp only [Option.some.injEq] at h; rw [← h]; simp; omega
        · split at h
          · simp only [Option.some.injEq] at h; rw [← h]; omega
          · cases h
  unfold onceR
  split
  · rename_i l h; exact this _ _ h
  · simp
theorem rng_sortR (es : List Entry) : (sortR es).1.length ≤ es.length := by
  unfold sortR
  split
  · have := rng_onceR (srtE es)
    rwa [srtE_length] at this
  · simp
def inv25a (es : List Entry) (i : Int) : Prop := 0 ≤ i ∧ i ≤ es.length ∧ ∀ j : Nat, (j : Int) < i → entE es[j]! = 0
def inv25b (s : List Entry) (i : Int) (l : List Entry) : Prop := 0 ≤ i ∧ i ≤ s.length ∧ onceN s i.toNat = some l ∧ (l.length : Int) ≤ i
def dec25b (s : List Entry) (i : Int) (l : List Entry) : Nat := (s.length - i).toNat
end Go.Proofs.Ytjngmlkaijpbgaa
