/- Lj: LinesAdds. Conditions: sizes. Lg: lines: the law of Sort and Find. Conditions: sizes. Lh: lines: Union, and the library's Grow and Concat at entries. Conditions: sizes. Lp: entries in form, in plain words. Conditions: none. Lz: LinesFolds. Conditions: sizes. EN: from a law's contract to its row: 'for every input it answers true, and the input reads as it did'. Conditions: none named, none written. Wx: what is handed in, by its types. Conditions: none. R12: LinesFolds answers true for every input, and the input reads as it did. Conditions: none. -/
import Derived.Lib.AppendZeros
import Derived.WalkKit
import Derived.Deep.LoopGhost
import Derived.Lib.Walk
import Derived.Lib.SliceRun
import Derived.ProofKit
import Derived.SizedLaws
import Derived.JoinedCond
import Derived.Deep.CondSized
import Derived.Test.YtjngmlkaijpbgaaRows
import Derived.Test.YtjngmlkaijpbgaaH5
set_option linter.unusedVariables false
set_option linter.unusedSimpArgs false
namespace Go.Proofs.Ytjngmlkaijpbgaa
open Go.E
set_option maxRecDepth 100000
set_option maxHeartbeats 4000000
def sumF (f : Line → Int) : List Line → Int
  | [] => 0
  | x :: l => f x + sumF f l
def qtyL (l : List Line) : Int := sumF (fun x => x.qty) l
def partL (l : List Line) : Int := sumF (fun x => x.parts) l
theorem sumF_app (f : Line → Int) (a b : List Line) : sumF f (a ++ b) = sumF f a + sumF f b := by
  induction a with
  | nil => simp [sumF]
  | cons e a ih => simp only [List.cons_append, sumF, ih]; omega
theorem sumF_perm (f : Line → Int) {a b : List Line} (h : a.Perm b) : sumF f a = sumF f b := by
  induction h with
  | nil => rfl
  | cons x _ ih => simp only [sumF, ih]
  | swap x y l => simp only [sumF]; omega
  | trans _ _ h1 h2 => rw [h1, h2]
theorem sumF_nn (f : Line → Int) : ∀ {l : List Line}, (∀ x ∈ l, 0 ≤ f x) → 0 ≤ sumF f l
  | [], _ => by simp [sumF]
  | x :: l, h => by
    have h1 := h x (by simp)
    have h2 := sumF_nn f (l := l) fun y hy => h y (by simp [hy])
    simp only [sumF]
    omega
theorem sumF_take (f : Line → Int) {l : List Line} (h : ∀ x ∈ l, 0 ≤ f x) (i : Nat) : 0 ≤ sumF f (l.take i) ∧ sumF f (l.take i) ≤ sumF f l := by
  have h1 := sumF_nn f (l := l.take i) fun x hx => h x (List.mem_of_mem_take hx)
  have h2 := sumF_nn f (l := l.drop i) fun x hx => h x (List.mem_of_mem_drop hx)
  have h3 := congrArg (sumF f) (List.take_append_drop i l)
  rw [sumF_app] at h3
  omega
theorem sumF_step (f : Line → Int) {l : List Line} {i : Int} (h0 : 0 ≤ i) (h : i < l.length) : sumF f (l.take (i + 1).toNat) = sumF f (l.take i.toNat) + f l[i.toNat]! := by
  rw [← take_step h0 h, sumF_app]
  simp [sumF]
theorem sumF_mset (f : Line → Int) (hf : f default = 0) (k : ByteArray) (v : Line) : ∀ m : List (ByteArray × Line), sumF f ((mset k v m).map (fun p => p.2)) = sumF f (m.map (fun p => p.2)) - f (lkp k m) + f v
  | [] => by
    have : lkp k ([] : List (ByteArray × Line)) = default := rfl
    rw [this, hf]
    simp [mset, sumF]
  | p :: m => by
    have ih := sumF_mset f hf k v m
    rw [mset]
    by_cases h : p.1 = k
    · have : lkp k (p :: m) = p.2 := by simp [lkp, h]
      rw [if_pos h, this, List.map_cons, List.map_cons]
      simp only [sumF]
      omega
    · have : lkp k (p :: m) = lkp k m := by simp [lkp, h]
      rw [if_neg h, this, List.map_cons, List.map_cons]
      simp only [sumF]
      omega
theorem fill_sums (es : List Entry) : sumF (fun x => x.parts) ((fillL es).map (fun p => p.2)) = es.length ∧ sumF (fun x => x.qty) ((fillL es).map (fun p => p.2)) = sumE es := by
  have h : ∀ n, n ≤ es.length → sumF (fun x => x.parts) ((fillL (es.take n)).map (fun p => p.2)) = n ∧ sumF (fun x => x.qty) ((fillL (es.take n)).map (fun p => p.2)) = sumE (es.take n) := by
    intro n
    induction n with
    | zero => intro _; simp [fillL, sumF, sumE]
    | succ n ih =>
      intro hn
      obtain ⟨h1, h2⟩ := ih (by omega)
      rw [List.take_succ_eq_append_getElem (by omega), fillL_app, sumF_mset _ rfl, sumF_mset _ rfl, h1, h2, sumE_app]
      simp only [addV, sumE]
      omega
  have := h es.length (Nat.le_refl _)
  rwa [List.take_length] at this
theorem lines_sums (es : List Entry) : partL (linesU es) = es.length ∧ qtyL (linesU es) = sumE es := by
  unfold partL qtyL linesU
  rw [sumF_perm _ (pdqL_perm _), sumF_perm _ (pdqL_perm _)]
  exact fill_sums es
theorem ent_good {e : Entry} (h : entE e = 0) : good e.sku = true := by
  unfold entE at h
  split at h
  · cases h
  · split at h
    · cases h
    · split at h
      · cases h
      · rename_i hg
        simpa using hg
theorem line_at {es : List Entry} (h : lstE es = 0) {e : Entry} (he : e ∈ es) : lineR es e.sku = (lineOf es e.sku, 0) := by
  unfold lineR
  rw [if_pos h, if_pos (ent_good (okL_mem h e he)), if_neg]
  intro k
  unfold ofSku at k
  rw [List.filter_eq_nil_iff] at k
  exact k e he (by simp)
theorem sumE_mem {l : List Entry} (h : ∀ e ∈ l, entE e = 0) {e : Entry} (he : e ∈ l) : e.qty ≤ sumE l := by
  obtain ⟨B, C, rfl⟩ := List.append_of_mem he
  have h1 := sumE_bound (l := B) fun x hx => h x (by simp [hx])
  have h2 := sumE_bound (l := C) fun x hx => h x (by simp [hx])
  rw [sumE_app]
  simp only [sumE]
  omega
theorem lineU_at {es : List Entry} (h : lstE es = 0) {i : Int} (h0 : 0 ≤ i) (hi : i < (linesU es).length) :
    lineR es (linesU es)[i.toNat]!.sku = ((linesU es)[i.toNat]!, 0) ∧ 1 ≤ (linesU es)[i.toNat]!.parts := by
  have hm : (linesU es)[i.toNat]! ∈ linesU es := bang_mem (by omega)
  obtain ⟨⟨e, he, k⟩, k2⟩ := ((linesU_is es).mem _).1 hm
  have h1 := line_at h he
  rw [k, ← k2] at h1
  refine ⟨h1, ?_⟩
  rw [k2]
  unfold lineOf
  have : e ∈ ofSku es (linesU es)[i.toNat]!.sku := List.mem_filter.2 ⟨he, by simpa using k⟩
  have := List.length_pos_of_mem this
  simp only
  omega
theorem lineU_nn {es : List Entry} (h : lstE es = 0) : ∀ x ∈ linesU es, 0 ≤ x.qty ∧ 0 ≤ x.parts := fun x hx => by
  have h1 := ((linesU_is es).mem x).1 hx
  have h2 := line_bound h (l := es) (fun e he => he) x.sku
  rw [← h1.2] at h2
  exact ⟨h2.1, h2.2.2.1⟩
theorem lineU_bound {es : List Entry} (h : lstE es = 0) {i : Int} (h0 : 0 ≤ i) (hi : i < (linesU es).length) :
    0 ≤ partL ((linesU es).take i.toNat) + (linesU es)[i.toNat]!.parts ∧ partL ((linesU es).take i.toNat) + (linesU es)[i.toNat]!.parts ≤ es.length ∧
    0 ≤ qtyL ((linesU es).take i.toNat) + (linesU es)[i.toNat]!.qty ∧ qtyL ((linesU es).take i.toNat) + (linesU es)[i.toNat]!.qty ≤ 1000000 * es.length := by
  have h1 := sumF_take (fun x => x.parts) (l := linesU es) (fun x hx => (lineU_nn h x hx).2) (i + 1).toNat
  have h2 := sumF_take (fun x => x.qty) (l := linesU es) (fun x hx => (lineU_nn h x hx).1) (i + 1).toNat
  rw [sumF_step _ h0 hi] at h1 h2
  obtain ⟨h3, h4⟩ := lines_sums es
  have h5 := sumE_bound (l := es) (okL_mem h)
  unfold partL qtyL at *
  omega
theorem lineU_up {es : List Entry} {i : Int} (h0 : 0 < i) (hi : i < (linesU es).length) : sLt (linesU es)[(i - 1).toNat]!.sku (linesU es)[i.toNat]!.sku = true := by
  have := List.pairwise_iff_getElem.1 (linesU_is es).up (i - 1).toNat i.toNat (by omega) (by omega) (by omega)
  rwa [getElem!_pos _ _ (by omega), getElem!_pos _ _ (by omega)]
def invA (es : List Entry) (l : List Line) (parts sum i : Int) : Prop := 0 ≤ i ∧ i ≤ l.length ∧ parts = partL (l.take i.toNat) ∧ sum = qtyL (l.take i.toNat)
def decA (l : List Line) (parts sum i : Int) : Nat := (l.length - i).toNat
def invB (es : List Entry) (i : Int) : Prop := 0 ≤ i ∧ i ≤ es.length
def decB (es : List Entry) (i : Int) : Nat := (es.length - i).toNat
theorem con9 (es : List Entry) (hs : es.length * 40 ≤ 140737488351232) : Con Try.prog 9 [.sl (es.map c28)] (.b true) :=
  by
  refine con_lens 0 (c28) (es) (by kernel_rfl) Go.Proofs.Try.func9 (by kernel_rfl) fun hl_0 => ?_
  refine st_con tab_ok (by kernel_rfl) [.tmp 2] 131 Go.Proofs.Try.func9 (by kernel_rfl) (by kernel_rfl) ?_
  intro e0 cx
  refine sq ?_
  refine rg (A := True) cx [] [0] [] trivial ?_
  refine sn ?_
  refine sq ?_
  refine sq ?_
  refine rg (A := _) cx [(0, { val := some (.b (true)) })] [0, 17] [] (con31 ) ?_
  refine sn ?_
  refine st_false (by kernel_rfl) (by kernel_rfl) ?_
  refine st_skip (by kernel_rfl) ?_
  refine sn ?_
  refine sq ?_
  refine rg (A := _) cx [(1, { val := some (.tup [.sl (List.map c55 (linesV es).fst), .i .i64 ((linesV es).snd)]) })] [0, 3, 4] [] (con35 (es) (by (with_reducible assumption))) ?_
  refine sn ?_
  refine sq ?_
  refine sq ?_
  refine rg (A := _ ∧ (AV.b (lstE es != (0 : Int)) = AV.b (decide ¬lstE es = (0 : Int)))) cx [(1, { val := some (.i .i64 (lstE es)) }), (2, { tell := some (.b (decide ¬lstE es = (0 : Int))) })] [0, 3, 4, 25] [] ⟨(con16 (es)), (told_neq)⟩ ?_
  refine sn ?_
  refine st_dec (¬lstE es = (0 : Int)) (by kernel_rfl) (by kernel_rfl) (fun h_0 => ?_) (fun h_0 => ?_)
  refine sq ?_
  refine st_join (σ' := ⟨[(2, .b (decide ((linesV es).snd = (1 : Int) ∧ (↑(linesV es).fst.length : Int) = (0 : Int))))], []⟩) ?_ ?_
  refine st_split ((linesV es).snd = (1 : Int)) (fun h_2 => ?_) (fun h_2 => ?_)
  refine rg (A := _ ∧ _ ∧ (AV.b ((↑(linesV es).fst.length : Int) == (0 : Int)) = AV.b (decide ((↑(linesV es).fst.length : Int) = (0 : Int)))) ∧ (AV.b (decide ((↑(linesV es).fst.length : Int) = (0 : Int))) = AV.b (decide ((linesV es).snd = (1 : Int) ∧ (↑(linesV es).fst.length : Int) = (0 : Int))))) cx [(1, { tell := some (.b (true)) }), (4, { tell := some (.i .i64 ((↑(linesV es).fst.length : Int))) }), (5, { tell := some (.b (decide ((↑(linesV es).fst.length : Int) = (0 : Int)))) }), (7, { tell := some (.b (decide ((linesV es).snd = (1 : Int) ∧ (↑(linesV es).fst.length : Int) = (0 : Int)))) })] [2] [] ⟨(told_true h_2), (told_len c55 (linesV es).fst), (by kernel_rfl), (by simp only [eq_true h_2, told_simp1, told_simp2, and_true, true_and, and_false, false_and, or_true, true_or, or_false, false_or, not_true_eq_false, not_false_eq_true, decide_true, decide_false, Bool.decide_eq_true])⟩ ?_
  exact ⟨rfl, by kernel_rfl⟩
  refine rg (A := _ ∧ (AV.b false = AV.b (decide ((linesV es).snd = (1 : Int) ∧ (↑(linesV es).fst.length : Int) = (0 : Int))))) cx [(1, { tell := some (.b (false)) }), (7, { tell := some (.b (decide ((linesV es).snd = (1 : Int) ∧ (↑(linesV es).fst.length : Int) = (0 : Int)))) })] [2] [] ⟨(told_false h_2), (by simp only [eq_false h_2, told_simp1, told_simp2, and_true, true_and, and_false, false_and, or_true, true_or, or_false, false_or, not_true_eq_false, not_false_eq_true, decide_true, decide_false, Bool.decide_eq_true])⟩ ?_
  exact ⟨rfl, by kernel_rfl⟩
  refine sn ?_
  refine st_ret (by kernel_rfl) ?_
  refine q_seq_ret ?_
  refine q_ret (r := .b (decide ((linesV es).snd = (1 : Int) ∧ (↑(linesV es).fst.length : Int) = (0 : Int)))) (obl := []) (by kernel_rfl) trivial (AVle.eq (show AV.b (decide ((linesV es).snd = (1 : Int) ∧ (↑(linesV es).fst.length : Int) = (0 : Int))) = AV.b true from ?g0)); rotate_left 1
  refine st_skip (by kernel_rfl) ?_
  refine sn ?_
  refine sq ?_
  refine sq ?_
  refine rg (A := (AV.b ((linesV es).snd != (0 : Int)) = AV.b (decide ¬(linesV es).snd = (0 : Int)))) cx [(1, { tell := some (.b (decide ¬(linesV es).snd = (0 : Int))) })] [0, 3, 34] [] (told_neq) ?_
  refine sn ?_
  refine st_dec (¬(linesV es).snd = (0 : Int)) (by kernel_rfl) (by kernel_rfl) (fun h_3 => ?_) (fun h_3 => ?_)
  refine sq ?_
  refine rg (A := True) cx [] [2] [] trivial ?_
  refine sn ?_
  refine st_ret (by kernel_rfl) ?_
  refine q_seq_ret ?_
  refine q_ret (r := .b (false)) (obl := []) (by kernel_rfl) trivial (AVle.eq (show AV.b false = AV.b true from ?g1)); rotate_left 1
  refine st_skip (by kernel_rfl) ?_
  refine sn ?_
  refine sq ?_
  refine rg (A := True) cx [] [0, 3, 5] [] trivial ?_
  refine sn ?_
  refine sq ?_
  refine rg (A := True) cx [] [0, 3, 5, 6] [] trivial ?_
  refine sn ?_
  refine sq ?_
  refine sq ?_
  refine rg (A := _) cx [(1, { tell := some (.i .i64 ((↑(linesV es).fst.length : Int))) })] [0, 3, 5, 6, 35, 36, 37] [] (told_len c55 (linesV es).fst) ?_
  refine sn ?_
  refine st_block 0 (by kernel_rfl) ?_
  refine st_loop (X := Int × Int × Int) (fun x => ⟨[(0, .sl (List.map c28 es)), (3, .sl (List.map c55 (linesV es).fst)), (5, .i .i64 (x.fst)), (6, .i .i64 (x.snd.fst)), (35, .sl (List.map c55 (linesV es).fst)), (36, .i .i64 ((↑(linesV es).fst.length : Int))), (37, .i .i64 (x.snd.snd))], []⟩) (fun x ↦ decA (linesU es) x.fst x.snd.fst x.snd.snd) (fun x ↦ invA es (linesU es) x.fst x.snd.fst x.snd.snd) [0, 3, 5, 6, 35, 36, 37] [] (((0 : Int), (0 : Int), (0 : Int))) (by kernel_rfl) (by kernel_rfl) (show invA es (linesU es) (0 : Int) (0 : Int) (0 : Int) from ?g2) ?_; rotate_left 1
  rintro ⟨parts_4, sum_5, i_6⟩ h_7
  obtain ⟨h_8, h_9, h_10, h_11⟩ : (0 : Int) ≤ i_6 ∧ i_6 ≤ (↑(linesU es).length : Int) ∧ parts_4 = partL (List.take i_6.toNat (linesU es)) ∧ sum_5 = qtyL (List.take i_6.toNat (linesU es)) := h_7
  refine sq ?_
  refine rg (A := (AV.b (decide (i_6 < (↑(linesV es).fst.length : Int))) = AV.b (decide (i_6 < (↑(linesV es).fst.length : Int))))) cx [(0, { tell := some (.b (decide (i_6 < (↑(linesV es).fst.length : Int)))) })] [0, 3, 5, 6, 35, 36, 37, 38] [] (by kernel_rfl) ?_
  refine sn ?_
  refine sq ?_
  refine st_dec (i_6 < (↑(linesV es).fst.length : Int)) (by kernel_rfl) (by kernel_rfl) (fun h_12 => ?_) (fun h_12 => ?_)
  refine st_skip (by kernel_rfl) ?_
  refine sn ?_
  refine sq ?_
  refine st_block 1 (by kernel_rfl) ?_
  refine sq ?_
  refine rg (A := ((0 : Int) ≤ i_6) ∧ ((List.map c55 (linesV es).fst)[i_6.toNat]? = some (c55 (linesV es).fst[i_6.toNat]!)) ∧ ((c55 (linesV es).fst[i_6.toNat]!).length = (3 : Nat)) ∧ ((3 : Nat) ≤ [AV.s (linesV es).fst[i_6.toNat]!.sku, AV.i IntKind.i64 (linesV es).fst[i_6.toNat]!.qty, AV.i IntKind.i64 (linesV es).fst[i_6.toNat]!.parts].length)) cx [(1, { row := (c55 (linesV es).fst[i_6.toNat]!) })] [0, 3, 5, 6, 35, 36, 37, 8, 7] [8] ⟨(by (with_reducible assumption)), (by (with_reducible refine get_map ?_; omega)), (by kernel_rfl), (by (simp only [List.length_append, List.length_cons, List.length_nil]; omega))⟩ ?_
  refine sn ?_
  refine sq ?_
  refine sq ?_
  refine st_join (σ' := ⟨[(0, .sl (List.map c28 es)), (3, .sl (List.map c55 (linesV es).fst)), (5, .i .i64 (parts_4)), (6, .i .i64 (sum_5)), (35, .sl (List.map c55 (linesV es).fst)), (36, .i .i64 ((↑(linesV es).fst.length : Int))), (37, .i .i64 (i_6)), (8, .ptr (8) (0) (0) (0)), (54, .b (decide ((0 : Int) < i_6 ∧ ¬sLt (linesV es).fst[(i_6 - (1 : Int)).toNat]!.sku (linesV es).fst[i_6.toNat]!.sku = true)))], [(8, ⟨0, 55, .var [.s ((linesV es).fst[i_6.toNat]!.sku), .i .i64 ((linesV es).fst[i_6.toNat]!.qty), .i .i64 ((linesV es).fst[i_6.toNat]!.parts)]⟩)]⟩) ?_ ?_
  refine st_split ((0 : Int) < i_6) (fun h_14 => ?_) (fun h_14 => ?_)
  refine ra (A := _ ∧ (AV.i IntKind.i64 (IntKind.i64.wrap (i_6 - (1 : Int))) = AV.i IntKind.i64 (i_6 - (1 : Int))) ∧ ((0 : Int) ≤ i_6 - (1 : Int)) ∧ ((List.map c55 (linesV es).fst)[(i_6 - (1 : Int)).toNat]? = some (c55 (linesV es).fst[(i_6 - (1 : Int)).toNat]!)) ∧ ((c55 (linesV es).fst[(i_6 - (1 : Int)).toNat]!).length = (3 : Nat)) ∧ ((AV.b !Op.bytesLess (linesV es).fst[(i_6 - (1 : Int)).toNat]!.sku.toList (linesV es).fst[i_6.toNat]!.sku.toList) = AV.b (decide ¬sLt (linesV es).fst[(i_6 - (1 : Int)).toNat]!.sku (linesV es).fst[i_6.toNat]!.sku = true)) ∧ (AV.b (decide ¬sLt (linesV es).fst[(i_6 - (1 : Int)).toNat]!.sku (linesV es).fst[i_6.toNat]!.sku = true) = AV.b (decide ((0 : Int) < i_6 ∧ ¬sLt (linesV es).fst[(i_6 - (1 : Int)).toNat]!.sku (linesV es).fst[i_6.toNat]!.sku = true)))) cx [(1, { tell := some (.b (true)) }), (5, { tell := some (.i .i64 (i_6 - (1 : Int))) }), (6, { row := (c55 (linesV es).fst[(i_6 - (1 : Int)).toNat]!) }), (11, { tell := some (.b (decide ¬sLt (linesV es).fst[(i_6 - (1 : Int)).toNat]!.sku (linesV es).fst[i_6.toNat]!.sku = true)) }), (12, { tell := some (.b (decide ((0 : Int) < i_6 ∧ ¬sLt (linesV es).fst[(i_6 - (1 : Int)).toNat]!.sku (linesV es).fst[i_6.toNat]!.sku = true))) })] [0, 3, 5, 6, 35, 36, 37, 8, 54] [8] ⟨(told_true h_14), (told_i64 (by omega) ?g3), (by omega), (by (with_reducible refine get_map ?_; omega)), (by kernel_rfl), (told_sge), (by simp only [eq_true h_14, told_simp1, told_simp2, and_true, true_and, and_false, false_and, or_true, true_or, or_false, false_or, not_true_eq_false, not_false_eq_true, decide_true, decide_false, Bool.decide_eq_true])⟩ ?_; rotate_left 1
  exact ⟨rfl, by kernel_rfl⟩
  refine ra (A := _ ∧ (AV.b false = AV.b (decide ((0 : Int) < i_6 ∧ ¬sLt (linesV es).fst[(i_6 - (1 : Int)).toNat]!.sku (linesV es).fst[i_6.toNat]!.sku = true)))) cx [(1, { tell := some (.b (false)) }), (12, { tell := some (.b (decide ((0 : Int) < i_6 ∧ ¬sLt (linesV es).fst[(i_6 - (1 : Int)).toNat]!.sku (linesV es).fst[i_6.toNat]!.sku = true))) })] [0, 3, 5, 6, 35, 36, 37, 8, 54] [8] ⟨(told_false h_14), (by simp only [eq_false h_14, told_simp1, told_simp2, and_true, true_and, and_false, false_and, or_true, true_or, or_false, false_or, not_true_eq_false, not_false_eq_true, decide_true, decide_false, Bool.decide_eq_true])⟩ ?_
  exact ⟨rfl, by kernel_rfl⟩
  refine sn ?_
  refine st_dec ((0 : Int) < i_6 ∧ ¬sLt (linesV es).fst[(i_6 - (1 : Int)).toNat]!.sku (linesV es).fst[i_6.toNat]!.sku = true) (by kernel_rfl) (by kernel_rfl) (fun h_15 => ?_) (fun h_15 => ?_)
  refine sq ?_
  refine rg (A := True) cx [] [2] [] trivial ?_
  refine sn ?_
  refine st_ret (by kernel_rfl) ?_
  refine q_seq_ret ?_
  refine q_blk_ret ?_
  refine q_seq_ret ?_
  refine q_seq_ret ?_
  refine q_blk_ret ?_
  refine q_seq_ret ?_
  refine q_ret (r := .b (false)) (obl := []) (by kernel_rfl) trivial (AVle.eq (show AV.b false = AV.b true from ?g4)); rotate_left 1
  refine st_skip (by kernel_rfl) ?_
  refine sn ?_
  refine sq ?_
  refine rg (A := _) cx [(3, { val := some (.tup [.agg [.s ((lineR es (linesV es).fst[i_6.toNat]!.sku).fst.sku), .i .i64 ((lineR es (linesV es).fst[i_6.toNat]!.sku).fst.qty), .i .i64 ((lineR es (linesV es).fst[i_6.toNat]!.sku).fst.parts)], .i .i64 ((lineR es (linesV es).fst[i_6.toNat]!.sku).snd)]) })] [0, 3, 5, 6, 35, 36, 37, 8, 9, 10] [8, 9] (con37 (es) ((linesV es).fst[i_6.toNat]!.sku) (by (with_reducible assumption))) ?_
  refine sn ?_
  refine sq ?_
  refine sq ?_
  refine st_join (σ' := ⟨[(0, .sl (List.map c28 es)), (3, .sl (List.map c55 (linesV es).fst)), (5, .i .i64 (parts_4)), (6, .i .i64 (sum_5)), (35, .sl (List.map c55 (linesV es).fst)), (36, .i .i64 ((↑(linesV es).fst.length : Int))), (37, .i .i64 (i_6)), (8, .ptr (8) (0) (0) (0)), (73, .b (decide (¬(lineR es (linesV es).fst[i_6.toNat]!.sku).snd = (0 : Int) ∨ ¬(linesV es).fst[i_6.toNat]! = (lineR es (linesV es).fst[i_6.toNat]!.sku).fst ∨ (linesV es).fst[i_6.toNat]!.parts < (1 : Int))))], [(8, ⟨0, 55, .var [.s ((linesV es).fst[i_6.toNat]!.sku), .i .i64 ((linesV es).fst[i_6.toNat]!.qty), .i .i64 ((linesV es).fst[i_6.toNat]!.parts)]⟩)]⟩) ?_ ?_
  refine st_split (¬(lineR es (linesV es).fst[i_6.toNat]!.sku).snd = (0 : Int)) (fun h_17 => ?_) (fun h_17 => ?_)
  refine rg (A := (AV.b ((lineR es (linesV es).fst[i_6.toNat]!.sku).snd != (0 : Int)) = AV.b true) ∧ (AV.b true = AV.b (decide (¬(lineR es (linesV es).fst[i_6.toNat]!.sku).snd = (0 : Int) ∨ ¬(linesV es).fst[i_6.toNat]! = (lineR es (linesV es).fst[i_6.toNat]!.sku).fst ∨ (linesV es).fst[i_6.toNat]!.parts < (1 : Int))))) cx [(1, { tell := some (.b (true)) }), (11, { tell := some (.b (decide (¬(lineR es (linesV es).fst[i_6.toNat]!.sku).snd = (0 : Int) ∨ ¬(linesV es).fst[i_6.toNat]! = (lineR es (linesV es).fst[i_6.toNat]!.sku).fst ∨ (linesV es).fst[i_6.toNat]!.parts < (1 : Int)))) })] [0, 3, 5, 6, 35, 36, 37, 8, 73] [8] ⟨(told_neqt h_17), (by simp only [eq_false h_17, told_simp1, told_simp2, and_true, true_and, and_false, false_and, or_true, true_or, or_false, false_or, not_true_eq_false, not_false_eq_true, decide_true, decide_false, Bool.decide_eq_true])⟩ ?_
  exact ⟨rfl, by kernel_rfl⟩
  refine st_split (¬(linesV es).fst[i_6.toNat]! = (lineR es (linesV es).fst[i_6.toNat]!.sku).fst) (fun h_18 => ?_) (fun h_18 => ?_)
  refine rg (A := (AV.b ((lineR es (linesV es).fst[i_6.toNat]!.sku).snd != (0 : Int)) = AV.b (decide ¬(lineR es (linesV es).fst[i_6.toNat]!.sku).snd = (0 : Int))) ∧ _ ∧ (AggEq Try.prog (55 : Nat) [AV.s (linesV es).fst[i_6.toNat]!.sku, AV.i IntKind.i64 (linesV es).fst[i_6.toNat]!.qty, AV.i IntKind.i64 (linesV es).fst[i_6.toNat]!.parts] [AV.s (lineR es (linesV es).fst[i_6.toNat]!.sku).fst.sku, AV.i IntKind.i64 (lineR es (linesV es).fst[i_6.toNat]!.sku).fst.qty, AV.i IntKind.i64 (lineR es (linesV es).fst[i_6.toNat]!.sku).fst.parts] !true) ∧ (AV.b true = AV.b (decide (¬(lineR es (linesV es).fst[i_6.toNat]!.sku).snd = (0 : Int) ∨ ¬(linesV es).fst[i_6.toNat]! = (lineR es (linesV es).fst[i_6.toNat]!.sku).fst ∨ (linesV es).fst[i_6.toNat]!.parts < (1 : Int))))) cx [(1, { tell := some (.b (decide ¬(lineR es (linesV es).fst[i_6.toNat]!.sku).snd = (0 : Int))) }), (2, { tell := some (.b (false)) }), (5, { val := some (.b (true)) }), (11, { tell := some (.b (decide (¬(lineR es (linesV es).fst[i_6.toNat]!.sku).snd = (0 : Int) ∨ ¬(linesV es).fst[i_6.toNat]! = (lineR es (linesV es).fst[i_6.toNat]!.sku).fst ∨ (linesV es).fst[i_6.toNat]!.parts < (1 : Int)))) })] [0, 3, 5, 6, 35, 36, 37, 8, 73] [8] ⟨(told_neq), (told_false h_17), (aggEq_false (eq55 (linesV es).fst[i_6.toNat]! (lineR es (linesV es).fst[i_6.toNat]!.sku).fst) h_18), (by simp only [eq_false h_17, eq_false h_18, told_simp1, told_simp2, and_true, true_and, and_false, false_and, or_true, true_or, or_false, false_or, not_true_eq_false, not_false_eq_true, decide_true, decide_false, Bool.decide_eq_true])⟩ ?_
  exact ⟨rfl, by kernel_rfl⟩
  refine rg (A := (AV.b ((lineR es (linesV es).fst[i_6.toNat]!.sku).snd != (0 : Int)) = AV.b (decide ¬(lineR es (linesV es).fst[i_6.toNat]!.sku).snd = (0 : Int))) ∧ _ ∧ (AggEq Try.prog (55 : Nat) [AV.s (linesV es).fst[i_6.toNat]!.sku, AV.i IntKind.i64 (linesV es).fst[i_6.toNat]!.qty, AV.i IntKind.i64 (linesV es).fst[i_6.toNat]!.parts] [AV.s (lineR es (linesV es).fst[i_6.toNat]!.sku).fst.sku, AV.i IntKind.i64 (lineR es (linesV es).fst[i_6.toNat]!.sku).fst.qty, AV.i IntKind.i64 (lineR es (linesV es).fst[i_6.toNat]!.sku).fst.parts] !decide ¬(linesV es).fst[i_6.toNat]! = (lineR es (linesV es).fst[i_6.toNat]!.sku).fst) ∧ _ ∧ (AV.b (decide ((linesV es).fst[i_6.toNat]!.parts < (1 : Int))) = AV.b (decide ((linesV es).fst[i_6.toNat]!.parts < (1 : Int)))) ∧ (AV.b (decide ((linesV es).fst[i_6.toNat]!.parts < (1 : Int))) = AV.b (decide (¬(lineR es (linesV es).fst[i_6.toNat]!.sku).snd = (0 : Int) ∨ ¬(linesV es).fst[i_6.toNat]! = (lineR es (linesV es).fst[i_6.toNat]!.sku).fst ∨ (linesV es).fst[i_6.toNat]!.parts < (1 : Int))))) cx [(1, { tell := some (.b (decide ¬(lineR es (linesV es).fst[i_6.toNat]!.sku).snd = (0 : Int))) }), (2, { tell := some (.b (false)) }), (5, { val := some (.b (decide ¬(linesV es).fst[i_6.toNat]! = (lineR es (linesV es).fst[i_6.toNat]!.sku).fst)) }), (6, { tell := some (.b (false)) }), (10, { tell := some (.b (decide ((linesV es).fst[i_6.toNat]!.parts < (1 : Int)))) }), (11, { tell := some (.b (decide (¬(lineR es (linesV es).fst[i_6.toNat]!.sku).snd = (0 : Int) ∨ ¬(linesV es).fst[i_6.toNat]! = (lineR es (linesV es).fst[i_6.toNat]!.sku).fst ∨ (linesV es).fst[i_6.toNat]!.parts < (1 : Int)))) })] [0, 3, 5, 6, 35, 36, 37, 8, 73] [8] ⟨(told_neq), (told_false h_17), (aggNe_dec (eq55 (linesV es).fst[i_6.toNat]! (lineR es (linesV es).fst[i_6.toNat]!.sku).fst)), (told_false h_18), (by kernel_rfl), (by simp only [eq_false h_17, eq_false h_18, told_simp1, told_simp2, and_true, true_and, and_false, false_and, or_true, true_or, or_false, false_or, not_true_eq_false, not_false_eq_true, decide_true, decide_false, Bool.decide_eq_true])⟩ ?_
  exact ⟨rfl, by kernel_rfl⟩
  refine sn ?_
  refine st_dec (¬(lineR es (linesV es).fst[i_6.toNat]!.sku).snd = (0 : Int) ∨ ¬(linesV es).fst[i_6.toNat]! = (lineR es (linesV es).fst[i_6.toNat]!.sku).fst ∨ (linesV es).fst[i_6.toNat]!.parts < (1 : Int)) (by kernel_rfl) (by kernel_rfl) (fun h_19 => ?_) (fun h_19 => ?_)
  refine sq ?_
  refine rg (A := True) cx [] [2] [] trivial ?_
  refine sn ?_
  refine st_ret (by kernel_rfl) ?_
  refine q_seq_ret ?_
  refine q_blk_ret ?_
  refine q_seq_ret ?_
  refine q_seq_ret ?_
  refine q_blk_ret ?_
  refine q_seq_ret ?_
  refine q_ret (r := .b (false)) (obl := []) (by kernel_rfl) trivial (AVle.eq (show AV.b false = AV.b true from ?g5)); rotate_left 1
  refine st_skip (by kernel_rfl) ?_
  refine sn ?_
  refine sq ?_
  refine rg (A := (AV.i IntKind.i64 (IntKind.i64.wrap (parts_4 + (linesV es).fst[i_6.toNat]!.parts)) = AV.i IntKind.i64 (parts_4 + (linesV es).fst[i_6.toNat]!.parts))) cx [(3, { tell := some (.i .i64 (parts_4 + (linesV es).fst[i_6.toNat]!.parts)) })] [0, 3, 5, 6, 35, 36, 37, 8] [8] (told_i64 ?g6 ?g7) ?_; rotate_left 2
  refine sn ?_
  refine rg (A := (AV.i IntKind.i64 (IntKind.i64.wrap (sum_5 + (linesV es).fst[i_6.toNat]!.qty)) = AV.i IntKind.i64 (sum_5 + (linesV es).fst[i_6.toNat]!.qty))) cx [(3, { tell := some (.i .i64 (sum_5 + (linesV es).fst[i_6.toNat]!.qty)) })] [0, 3, 5, 6, 35, 36, 37] [] (told_i64 ?g8 ?g9) ?_; rotate_left 2
  refine q_blk_normal ?_
  refine sn ?_
  refine rg (A := (AV.i IntKind.i64 (IntKind.i64.wrap (i_6 + (1 : Int))) = AV.i IntKind.i64 (i_6 + (1 : Int)))) cx [(0, { tell := some (.i .i64 (i_6 + (1 : Int))) })] [0, 3, 5, 6, 35, 36, 37] [] (told_i64 (by omega) ?g10) ?_; rotate_left 1
  refine sn ?_
  refine loop_next ((parts_4 + (linesV es).fst[i_6.toNat]!.parts, sum_5 + (linesV es).fst[i_6.toNat]!.qty, i_6 + (1 : Int))) (by kernel_rfl) (show ((↑(linesU es).length : Int) - (i_6 + (1 : Int))).toNat < ((↑(linesU es).length : Int) - i_6).toNat from ?g11) (show invA es (linesU es) (parts_4 + (linesV es).fst[i_6.toNat]!.parts) (sum_5 + (linesV es).fst[i_6.toNat]!.qty) (i_6 + (1 : Int)) from ?g12); rotate_left 2
  refine st_exit 0 (by kernel_rfl) ?_
  refine q_seq_exit ?_
  refine q_seq_exit ?_
  refine q_blk_hit ?_
  refine sn ?_
  refine sq ?_
  refine rg (A := _) cx [(1, { val := some (.tup [.i .i64 ((totR es).fst), .i .i64 ((totR es).snd)]) })] [0, 5, 6, 11, 4] [] (con38 (es) (by (with_reducible assumption))) ?_
  refine sn ?_
  refine sq ?_
  refine sq ?_
  refine st_join (σ' := ⟨[(0, .sl (List.map c28 es)), (100, .b (decide (¬(totR es).snd = (0 : Int) ∨ ¬(totR es).fst = sum_5 ∨ ¬parts_4 = (↑es.length : Int))))], []⟩) ?_ ?_
  refine st_split (¬(totR es).snd = (0 : Int)) (fun h_21 => ?_) (fun h_21 => ?_)
  refine rg (A := (AV.b ((totR es).snd != (0 : Int)) = AV.b true) ∧ (AV.b true = AV.b (decide (¬(totR es).snd = (0 : Int) ∨ ¬(totR es).fst = sum_5 ∨ ¬parts_4 = (↑es.length : Int))))) cx [(1, { tell := some (.b (true)) }), (12, { tell := some (.b (decide (¬(totR es).snd = (0 : Int) ∨ ¬(totR es).fst = sum_5 ∨ ¬parts_4 = (↑es.length : Int)))) })] [0, 100] [] ⟨(told_neqt h_21), (by simp only [eq_false h_21, told_simp1, told_simp2, and_true, true_and, and_false, false_and, or_true, true_or, or_false, false_or, not_true_eq_false, not_false_eq_true, decide_true, decide_false, Bool.decide_eq_true])⟩ ?_
  exact ⟨rfl, by kernel_rfl⟩
  refine st_split (¬(totR es).fst = sum_5) (fun h_22 => ?_) (fun h_22 => ?_)
  refine rg (A := (AV.b ((totR es).snd != (0 : Int)) = AV.b (decide ¬(totR es).snd = (0 : Int))) ∧ _ ∧ (AV.b ((totR es).fst != sum_5) = AV.b true) ∧ (AV.b true = AV.b (decide (¬(totR es).snd = (0 : Int) ∨ ¬(totR es).fst = sum_5 ∨ ¬parts_4 = (↑es.length : Int))))) cx [(1, { tell := some (.b (decide ¬(totR es).snd = (0 : Int))) }), (2, { tell := some (.b (false)) }), (5, { tell := some (.b (true)) }), (12, { tell := some (.b (decide (¬(totR es).snd = (0 : Int) ∨ ¬(totR es).fst = sum_5 ∨ ¬parts_4 = (↑es.length : Int)))) })] [0, 100] [] ⟨(told_neq), (told_false h_21), (told_neqt h_22), (by simp only [eq_false h_21, eq_false h_22, told_simp1, told_simp2, and_true, true_and, and_false, false_and, or_true, true_or, or_false, false_or, not_true_eq_false, not_false_eq_true, decide_true, decide_false, Bool.decide_eq_true])⟩ ?_
  exact ⟨rfl, by kernel_rfl⟩
  refine rg (A := (AV.b ((totR es).snd != (0 : Int)) = AV.b (decide ¬(totR es).snd = (0 : Int))) ∧ _ ∧ (AV.b ((totR es).fst != sum_5) = AV.b (decide ¬(totR es).fst = sum_5)) ∧ _ ∧ _ ∧ (AV.b (parts_4 != (↑es.length : Int)) = AV.b (decide ¬parts_4 = (↑es.length : Int))) ∧ (AV.b (decide ¬parts_4 = (↑es.length : Int)) = AV.b (decide (¬(totR es).snd = (0 : Int) ∨ ¬(totR es).fst = sum_5 ∨ ¬parts_4 = (↑es.length : Int))))) cx [(1, { tell := some (.b (decide ¬(totR es).snd = (0 : Int))) }), (2, { tell := some (.b (false)) }), (5, { tell := some (.b (decide ¬(totR es).fst = sum_5)) }), (6, { tell := some (.b (false)) }), (10, { tell := some (.i .i64 ((↑es.length : Int))) }), (11, { tell := some (.b (decide ¬parts_4 = (↑es.length : Int))) }), (12, { tell := some (.b (decide (¬(totR es).snd = (0 : Int) ∨ ¬(totR es).fst = sum_5 ∨ ¬parts_4 = (↑es.length : Int)))) })] [0, 100] [] ⟨(told_neq), (told_false h_21), (told_neq), (told_false h_22), (told_len c28 es), (told_neq), (by simp only [eq_false h_21, eq_false h_22, told_simp1, told_simp2, and_true, true_and, and_false, false_and, or_true, true_or, or_false, false_or, not_true_eq_false, not_false_eq_true, decide_true, decide_false, Bool.decide_eq_true])⟩ ?_
  exact ⟨rfl, by kernel_rfl⟩
  refine sn ?_
  refine st_dec (¬(totR es).snd = (0 : Int) ∨ ¬(totR es).fst = sum_5 ∨ ¬parts_4 = (↑es.length : Int)) (by kernel_rfl) (by kernel_rfl) (fun h_23 => ?_) (fun h_23 => ?_)
  refine sq ?_
  refine rg (A := True) cx [] [2] [] trivial ?_
  refine sn ?_
  refine st_ret (by kernel_rfl) ?_
  refine q_seq_ret ?_
  refine q_ret (r := .b (false)) (obl := []) (by kernel_rfl) trivial (AVle.eq (show AV.b false = AV.b true from ?g13)); rotate_left 1
  refine st_skip (by kernel_rfl) ?_
  refine sn ?_
  refine sq ?_
  refine sq ?_
  refine rg (A := _) cx [(1, { tell := some (.i .i64 ((↑es.length : Int))) })] [0, 101, 102, 103] [] (told_len c28 es) ?_
  refine sn ?_
  refine st_block 2 (by kernel_rfl) ?_
  refine st_loop (X := Int) (fun x => ⟨[(0, .sl (List.map c28 es)), (101, .sl (List.map c28 es)), (102, .i .i64 ((↑es.length : Int))), (103, .i .i64 (x))], []⟩) (fun x ↦ decB es x) (fun x ↦ invB es x) [0, 101, 102, 103] [] ((0 : Int)) (by kernel_rfl) (by kernel_rfl) (show invB es (0 : Int) from ?g14) ?_; rotate_left 1
  intro i_24 h_25
  obtain ⟨h_26, h_27⟩ : (0 : Int) ≤ i_24 ∧ i_24 ≤ (↑es.length : Int) := h_25
  refine sq ?_
  refine rg (A := (AV.b (decide (i_24 < (↑es.length : Int))) = AV.b (decide (i_24 < (↑es.length : Int))))) cx [(0, { tell := some (.b (decide (i_24 < (↑es.length : Int)))) })] [0, 101, 102, 103, 104] [] (by kernel_rfl) ?_
  refine sn ?_
  refine sq ?_
  refine st_dec (i_24 < (↑es.length : Int)) (by kernel_rfl) (by kernel_rfl) (fun h_28 => ?_) (fun h_28 => ?_)
  refine st_skip (by kernel_rfl) ?_
  refine sn ?_
  refine sq ?_
  refine st_block 3 (by kernel_rfl) ?_
  refine sq ?_
  refine rg (A := ((0 : Int) ≤ i_24) ∧ ((List.map c28 es)[i_24.toNat]? = some (c28 es[i_24.toNat]!)) ∧ ((c28 es[i_24.toNat]!).length = (4 : Nat)) ∧ ((4 : Nat) ≤ [AV.i IntKind.i64 es[i_24.toNat]!.dot.rep, AV.i IntKind.i64 es[i_24.toNat]!.dot.num, AV.s es[i_24.toNat]!.sku, AV.i IntKind.i64 es[i_24.toNat]!.qty].length)) cx [(0, { row := (c28 es[i_24.toNat]!) })] [0, 101, 102, 103, 13] [13] ⟨(by (with_reducible assumption)), (by (with_reducible refine get_map ?_; omega)), (by kernel_rfl), (by (simp only [List.length_append, List.length_cons, List.length_nil]; omega))⟩ ?_
  refine sn ?_
  refine sq ?_
  refine rg (A := _) cx [(3, { val := some (.tup [.agg [.s ((lineR es es[i_24.toNat]!.sku).fst.sku), .i .i64 ((lineR es es[i_24.toNat]!.sku).fst.qty), .i .i64 ((lineR es es[i_24.toNat]!.sku).fst.parts)], .i .i64 ((lineR es es[i_24.toNat]!.sku).snd)]) })] [0, 101, 102, 103, 13, 14, 15] [13, 14] (con37 (es) (es[i_24.toNat]!.sku) (by (with_reducible assumption))) ?_
  refine sn ?_
  refine sq ?_
  refine st_join (σ' := ⟨[(0, .sl (List.map c28 es)), (101, .sl (List.map c28 es)), (102, .i .i64 ((↑es.length : Int))), (103, .i .i64 (i_24)), (129, .b (decide (¬(lineR es es[i_24.toNat]!.sku).snd = (0 : Int) ∨ ¬(lineR es es[i_24.toNat]!.sku).fst.sku = es[i_24.toNat]!.sku ∨ (lineR es es[i_24.toNat]!.sku).fst.qty < es[i_24.toNat]!.qty)))], []⟩) ?_ ?_
  refine st_split (¬(lineR es es[i_24.toNat]!.sku).snd = (0 : Int)) (fun h_30 => ?_) (fun h_30 => ?_)
  refine rg (A := (AV.b ((lineR es es[i_24.toNat]!.sku).snd != (0 : Int)) = AV.b true) ∧ (AV.b true = AV.b (decide (¬(lineR es es[i_24.toNat]!.sku).snd = (0 : Int) ∨ ¬(lineR es es[i_24.toNat]!.sku).fst.sku = es[i_24.toNat]!.sku ∨ (lineR es es[i_24.toNat]!.sku).fst.qty < es[i_24.toNat]!.qty)))) cx [(1, { tell := some (.b (true)) }), (15, { tell := some (.b (decide (¬(lineR es es[i_24.toNat]!.sku).snd = (0 : Int) ∨ ¬(lineR es es[i_24.toNat]!.sku).fst.sku = es[i_24.toNat]!.sku ∨ (lineR es es[i_24.toNat]!.sku).fst.qty < es[i_24.toNat]!.qty))) })] [0, 101, 102, 103, 129] [] ⟨(told_neqt h_30), (by simp only [eq_false h_30, told_simp1, told_simp2, and_true, true_and, and_false, false_and, or_true, true_or, or_false, false_or, not_true_eq_false, not_false_eq_true, decide_true, decide_false, Bool.decide_eq_true])⟩ ?_
  exact ⟨rfl, by kernel_rfl⟩
  refine st_split (¬(lineR es es[i_24.toNat]!.sku).fst.sku = es[i_24.toNat]!.sku) (fun h_31 => ?_) (fun h_31 => ?_)
  refine rg (A := (AV.b ((lineR es es[i_24.toNat]!.sku).snd != (0 : Int)) = AV.b (decide ¬(lineR es es[i_24.toNat]!.sku).snd = (0 : Int))) ∧ _ ∧ ((AV.b !(lineR es es[i_24.toNat]!.sku).fst.sku.toList == es[i_24.toNat]!.sku.toList) = AV.b true) ∧ (AV.b true = AV.b (decide (¬(lineR es es[i_24.toNat]!.sku).snd = (0 : Int) ∨ ¬(lineR es es[i_24.toNat]!.sku).fst.sku = es[i_24.toNat]!.sku ∨ (lineR es es[i_24.toNat]!.sku).fst.qty < es[i_24.toNat]!.qty)))) cx [(1, { tell := some (.b (decide ¬(lineR es es[i_24.toNat]!.sku).snd = (0 : Int))) }), (2, { tell := some (.b (false)) }), (7, { tell := some (.b (true)) }), (15, { tell := some (.b (decide (¬(lineR es es[i_24.toNat]!.sku).snd = (0 : Int) ∨ ¬(lineR es es[i_24.toNat]!.sku).fst.sku = es[i_24.toNat]!.sku ∨ (lineR es es[i_24.toNat]!.sku).fst.qty < es[i_24.toNat]!.qty))) })] [0, 101, 102, 103, 129] [] ⟨(told_neq), (told_false h_30), (told_snet h_31), (by simp only [eq_false h_30, eq_false h_31, told_simp1, told_simp2, and_true, true_and, and_false, false_and, or_true, true_or, or_false, false_or, not_true_eq_false, not_false_eq_true, decide_true, decide_false, Bool.decide_eq_true])⟩ ?_
  exact ⟨rfl, by kernel_rfl⟩
  refine rg (A := (AV.b ((lineR es es[i_24.toNat]!.sku).snd != (0 : Int)) = AV.b (decide ¬(lineR es es[i_24.toNat]!.sku).snd = (0 : Int))) ∧ _ ∧ ((AV.b !(lineR es es[i_24.toNat]!.sku).fst.sku.toList == es[i_24.toNat]!.sku.toList) = AV.b (decide ¬(lineR es es[i_24.toNat]!.sku).fst.sku = es[i_24.toNat]!.sku)) ∧ _ ∧ (AV.b (decide ((lineR es es[i_24.toNat]!.sku).fst.qty < es[i_24.toNat]!.qty)) = AV.b (decide ((lineR es es[i_24.toNat]!.sku).fst.qty < es[i_24.toNat]!.qty))) ∧ (AV.b (decide ((lineR es es[i_24.toNat]!.sku).fst.qty < es[i_24.toNat]!.qty)) = AV.b (decide (¬(lineR es es[i_24.toNat]!.sku).snd = (0 : Int) ∨ ¬(lineR es es[i_24.toNat]!.sku).fst.sku = es[i_24.toNat]!.sku ∨ (lineR es es[i_24.toNat]!.sku).fst.qty < es[i_24.toNat]!.qty)))) cx [(1, { tell := some (.b (decide ¬(lineR es es[i_24.toNat]!.sku).snd = (0 : Int))) }), (2, { tell := some (.b (false)) }), (7, { tell := some (.b (decide ¬(lineR es es[i_24.toNat]!.sku).fst.sku = es[i_24.toNat]!.sku)) }), (8, { tell := some (.b (false)) }), (14, { tell := some (.b (decide ((lineR es es[i_24.toNat]!.sku).fst.qty < es[i_24.toNat]!.qty))) }), (15, { tell := some (.b (decide (¬(lineR es es[i_24.toNat]!.sku).snd = (0 : Int) ∨ ¬(lineR es es[i_24.toNat]!.sku).fst.sku = es[i_24.toNat]!.sku ∨ (lineR es es[i_24.toNat]!.sku).fst.qty < es[i_24.toNat]!.qty))) })] [0, 101, 102, 103, 129] [] ⟨(told_neq), (told_false h_30), (told_sne), (told_false h_31), (by kernel_rfl), (by simp only [eq_false h_30, eq_false h_31, told_simp1, told_simp2, and_true, true_and, and_false, false_and, or_true, true_or, or_false, false_or, not_true_eq_false, not_false_eq_true, decide_true, decide_false, Bool.decide_eq_true])⟩ ?_
  exact ⟨rfl, by kernel_rfl⟩
  refine sn ?_
  refine st_dec (¬(lineR es es[i_24.toNat]!.sku).snd = (0 : Int) ∨ ¬(lineR es es[i_24.toNat]!.sku).fst.sku = es[i_24.toNat]!.sku ∨ (lineR es es[i_24.toNat]!.sku).fst.qty < es[i_24.toNat]!.qty) (by kernel_rfl) (by kernel_rfl) (fun h_32 => ?_) (fun h_32 => ?_)
  refine sq ?_
  refine rg (A := True) cx [] [2] [] trivial ?_
  refine sn ?_
  refine st_ret (by kernel_rfl) ?_
  refine q_blk_ret ?_
  refine q_seq_ret ?_
  refine q_seq_ret ?_
  refine q_blk_ret ?_
  refine q_seq_ret ?_
  refine q_ret (r := .b (false)) (obl := []) (by kernel_rfl) trivial (AVle.eq (show AV.b false = AV.b true from ?g15)); rotate_left 1
  refine st_skip (by kernel_rfl) ?_
  refine q_blk_normal ?_
  refine sn ?_
  refine rg (A := (AV.i IntKind.i64 (IntKind.i64.wrap (i_24 + (1 : Int))) = AV.i IntKind.i64 (i_24 + (1 : Int)))) cx [(0, { tell := some (.i .i64 (i_24 + (1 : Int))) })] [0, 101, 102, 103] [] (told_i64 (by omega) (by omega)) ?_
  refine sn ?_
  refine loop_next (i_24 + (1 : Int)) (by kernel_rfl) (show ((↑es.length : Int) - (i_24 + (1 : Int))).toNat < ((↑es.length : Int) - i_24).toNat from (by omega)) (show invB es (i_24 + (1 : Int)) from ?g16); rotate_left 1
  refine st_exit 2 (by kernel_rfl) ?_
  refine q_seq_exit ?_
  refine q_seq_exit ?_
  refine q_blk_hit ?_
  refine sn ?_
  refine sq ?_
  refine rg (A := True) cx [] [2] [] trivial ?_
  refine sn ?_
  refine st_ret (by kernel_rfl) ?_
  exact q_ret (r := .b (true)) (obl := []) (by kernel_rfl) trivial (AVle.refl _)
  revert h_0; rotate_left
  revert h_0 h_3; rotate_left
  revert h_0 h_3; rotate_left
  revert h_0 h_3 parts_4 sum_5 i_6 h_8 h_9 h_10 h_11 h_12 h_14; rotate_left
  revert h_0 h_3 parts_4 sum_5 i_6 h_8 h_9 h_10 h_11 h_12 h_15; rotate_left
  revert h_0 h_3 parts_4 sum_5 i_6 h_8 h_9 h_10 h_11 h_12 h_15 h_19; rotate_left
  revert h_0 h_3 parts_4 sum_5 i_6 h_8 h_9 h_10 h_11 h_12 h_15 h_19; rotate_left
  revert h_0 h_3 parts_4 sum_5 i_6 h_8 h_9 h_10 h_11 h_12 h_15 h_19; rotate_left
  revert h_0 h_3 parts_4 sum_5 i_6 h_8 h_9 h_10 h_11 h_12 h_15 h_19; rotate_left
  revert h_0 h_3 parts_4 sum_5 i_6 h_8 h_9 h_10 h_11 h_12 h_15 h_19; rotate_left
  revert h_0 h_3 parts_4 sum_5 i_6 h_8 h_9 h_10 h_11 h_12 h_15 h_19; rotate_left
  revert h_0 h_3 parts_4 sum_5 i_6 h_8 h_9 h_10 h_11 h_12 h_15 h_19; rotate_left
  revert h_0 h_3 parts_4 sum_5 i_6 h_8 h_9 h_10 h_11 h_12 h_15 h_19; rotate_left
  revert h_0 h_3 parts_4 sum_5 i_6 h_8 h_9 h_10 h_11 h_12 h_23; rotate_left
  revert h_0 h_3 parts_4 sum_5 i_6 h_8 h_9 h_10 h_11 h_12 h_23; rotate_left
  revert h_0 h_3 parts_4 sum_5 i_6 h_8 h_9 h_10 h_11 h_12 h_23 i_24 h_26 h_27 h_28 h_32; rotate_left
  revert h_0 h_3 parts_4 sum_5 i_6 h_8 h_9 h_10 h_11 h_12 h_23 i_24 h_26 h_27 h_28 h_32; rotate_left
  case g0 => intro h; rw [linesV_no h]; rfl
  case g1 => intro h h1; rw [linesV_ok (Classical.not_not.1 h)] at h1; exact absurd rfl h1
  case g2 => intro _ _; exact ⟨by omega, by omega, rfl, rfl⟩
  case g3 => intro h _ p s i h0 h1 h2 h3 h4 h5; have := linesU_len es; omega
  case g4 => intro h _ p s i h0 h1 h2 h3 h4 h5; rw [linesV_ok (Classical.not_not.1 h)] at h4 h5; exact absurd (lineU_up h5.1 h4) h5.2
  case g5 =>
    intro h _ p s i h0 h1 h2 h3 h4 _ h5
    rw [linesV_ok (Classical.not_not.1 h)] at h4 h5
    obtain ⟨k1, k2⟩ := lineU_at (Classical.not_not.1 h) h0 h4
    rw [k1] at h5
    rcases h5 with h5 | h5 | h5
    · exact absurd rfl h5
    · exact absurd rfl h5
    · simp only at h5; omega
  case g6 => intro h _ p s i h0 h1 h2 h3 h4 _ _; rw [linesV_ok (Classical.not_not.1 h)] at h4 ⊢; have := lineU_bound (Classical.not_not.1 h) h0 h4; simp only; omega
  case g7 => intro h _ p s i h0 h1 h2 h3 h4 _ _; rw [linesV_ok (Classical.not_not.1 h)] at h4 ⊢; have := lineU_bound (Classical.not_not.1 h) h0 h4; simp only; omega
  case g8 => intro h _ p s i h0 h1 h2 h3 h4 _ _; rw [linesV_ok (Classical.not_not.1 h)] at h4 ⊢; have := lineU_bound (Classical.not_not.1 h) h0 h4; simp only; omega
  case g9 => intro h _ p s i h0 h1 h2 h3 h4 _ _; rw [linesV_ok (Classical.not_not.1 h)] at h4 ⊢; have := lineU_bound (Classical.not_not.1 h) h0 h4; simp only; omega
  case g10 => intro h _ p s i h0 h1 h2 h3 h4 _ _; have := linesU_len es; omega
  case g11 => intro h _ p s i h0 h1 h2 h3 h4 _ _; rw [linesV_ok (Classical.not_not.1 h)] at h4; simp only at h4; omega
  case g12 =>
    intro h _ p s i h0 h1 h2 h3 h4 _ _
    rw [linesV_ok (Classical.not_not.1 h)] at h4 ⊢
    refine ⟨by omega, by simp only at h4; omega, ?_, ?_⟩
    · rw [h2]; unfold partL; rw [sumF_step _ h0 h4]
    · rw [h3]; unfold qtyL; rw [sumF_step _ h0 h4]
  case g13 =>
    intro h _ p s i h0 h1 h2 h3 h4 h5
    rw [linesV_ok (Classical.not_not.1 h)] at h4
    rw [totR_ok (Classical.not_not.1 h)] at h5
    obtain ⟨k1, k2⟩ := lines_sums es
    rw [List.take_of_length_le (by simp only at h4; omega)] at h2 h3
    rcases h5 with h5 | h5 | h5
    · exact absurd rfl h5
    · exact absurd (by rw [h3, k2]) h5
    · exact absurd (by rw [h2, k1]) h5
  case g14 => intros; exact ⟨by omega, by omega⟩
  case g15 =>
    intro h _ p s i h0 h1 h2 h3 h4 _ j k0 k1 k2 h5
    have he : es[j.toNat]! ∈ es := bang_mem (by omega)
    rw [line_at (Classical.not_not.1 h) he] at h5
    rcases h5 with h5 | h5 | h5
    · exact absurd rfl h5
    · exact absurd rfl h5
    · have := sumE_mem (l := ofSku es es[j.toNat]!.sku) (fun e he => okL_mem (Classical.not_not.1 h) e (List.mem_filter.1 he).1) (e := es[j.toNat]!) (List.mem_filter.2 ⟨he, by simp⟩)
      unfold lineOf at h5
      simp only at h5
      omega
  case g16 => intro h _ p s i h0 h1 h2 h3 h4 _ j k0 k1 k2 _; exact ⟨by omega, by omega⟩
end Go.Proofs.Ytjngmlkaijpbgaa
namespace Go.Proofs.Ytjngmlkaijpbgaa
open Go.E
set_option maxRecDepth 100000
set_option maxHeartbeats 4000000
theorem leM0 (a b : Entry) : leM 0 a b = !ltE b a := rfl
theorem bot_once (es : List Entry) : onceR (botS (leM 0) 1 es) = onceR (srtE es) := by
  refine onceR_perm ((botS_perm (leM 0) _ 1 es (Nat.le_refl _)).trans (List.mergeSort_perm es _).symm) ?_ (srtE_rises es)
  refine botS_rises (le := leM 0) ?_ ?_ _ 1 es (Nat.le_refl _) (by omega) (chunkyP_one _)
  · intro a b c h1 h2
    simp only [leM0, Bool.not_eq_true'] at *
    exact swo_ltE.ntrans _ _ _ h2 h1
  · intro a b
    simp only [leM0]
    cases h : ltE b a with
    | false => rfl
    | true => simp [swo_ltE.asymmA h]
theorem bot_len (m : Int) (es : List Entry) : (botS (leM m) 1 es).length = es.length := (botS_perm (leM m) _ 1 es (Nat.le_refl _)).length_eq
def lit6 : List Entry := [⟨⟨1, 1⟩, ⟨#[66]⟩, 2⟩, ⟨⟨0, 3⟩, ⟨#[65]⟩, 5⟩, ⟨⟨1, 1⟩, ⟨#[66]⟩, 2⟩]
def lit6s : List Entry := [⟨⟨0, 3⟩, ⟨#[65]⟩, 5⟩, ⟨⟨1, 1⟩, ⟨#[66]⟩, 2⟩, ⟨⟨1, 1⟩, ⟨#[66]⟩, 2⟩]
theorem sort_lit6 : sortR lit6 = ([⟨⟨0, 3⟩, ⟨#[65]⟩, 5⟩, ⟨⟨1, 1⟩, ⟨#[66]⟩, 2⟩], 0) := by
  have h0 : errL lit6 = 0 := by decide +kernel
  have h1 : onceR (srtE lit6) = onceR lit6s := onceR_perm ((List.mergeSort_perm lit6 _).trans (by decide +kernel)) (srtE_rises _) (by unfold risesE; decide +kernel)
  unfold sortR
  rw [if_pos h0, h1]
  decide +kernel
theorem con26 (es : List Entry) (hl : es.length * 40 ≤ 140737488351232) : Con Try.prog 26 [.sl (es.map c28)] (.tup [.sl ((sortR es).1.map c28), .i .i64 (sortR es).2]) :=
  by
  refine con_lens 0 (c28) (es) (by kernel_rfl) Go.Proofs.Try.func26 (by kernel_rfl) fun hl_0 => ?_
  refine st_con tab_ok (by kernel_rfl) [.tmp 2, .tmp 3] 25 Go.Proofs.Try.func26 (by kernel_rfl) (by kernel_rfl) ?_
  intro e0 cx
  refine sq ?_
  refine rg (A := True) cx [] [0] [] trivial ?_
  refine sn ?_
  refine sq ?_
  refine sq ?_
  refine rg (A := True) cx [] [0, 4] [] trivial ?_
  refine sn ?_
  refine st_block 0 (by kernel_rfl) ?_
  refine st_loop (X := Int) (fun x => ⟨[(0, .sl (List.map c28 es)), (4, .i .i64 (x))], []⟩) (fun x ↦ dec30i es x) (fun x ↦ inv25a es x) [0, 4] [] ((0 : Int)) (by kernel_rfl) (by kernel_rfl) (show inv25a es (0 : Int) from ?g0) ?_; rotate_left 1
  intro i_0 h_1
  obtain ⟨h_2, h_3, h_4⟩ : (0 : Int) ≤ i_0 ∧ i_0 ≤ (↑es.length : Int) ∧ ∀ (j : Nat), (↑j : Int) < i_0 → entE es[j]! = (0 : Int) := h_1
  refine sq ?_
  refine sq ?_
  refine rg (A := _ ∧ (AV.b (decide (i_0 < (↑es.length : Int))) = AV.b (decide (i_0 < (↑es.length : Int))))) cx [(2, { tell := some (.i .i64 ((↑es.length : Int))) }), (3, { tell := some (.b (decide (i_0 < (↑es.length : Int)))) })] [0, 4, 9] [] ⟨(told_len c28 es), (by kernel_rfl)⟩ ?_
  refine sn ?_
  refine st_dec (i_0 < (↑es.length : Int)) (by kernel_rfl) (by kernel_rfl) (fun h_5 => ?_) (fun h_5 => ?_)
  refine st_skip (by kernel_rfl) ?_
  refine sn ?_
  refine sq ?_
  refine st_block 1 (by kernel_rfl) ?_
  refine sq ?_
  refine rg (A := ((0 : Int) ≤ i_0) ∧ ((List.map c28 es)[i_0.toNat]? = some (c28 es[i_0.toNat]!)) ∧ ((c28 es[i_0.toNat]!).length = (4 : Nat)) ∧ ((4 : Nat) ≤ [AV.i IntKind.i64 es[i_0.toNat]!.dot.rep, AV.i IntKind.i64 es[i_0.toNat]!.dot.num, AV.s es[i_0.toNat]!.sku, AV.i IntKind.i64 es[i_0.toNat]!.qty].length) ∧ _) cx [(2, { row := (c28 es[i_0.toNat]!) }), (4, { val := some (.i .i64 (entE es[i_0.toNat]!)) })] [0, 4, 5] [] ⟨(by (with_reducible assumption)), (by (with_reducible refine get_map ?_; omega)), (by kernel_rfl), (by (simp only [List.length_append, List.length_cons, List.length_nil]; omega)), (con19 (es[i_0.toNat]!))⟩ ?_
  refine sn ?_
  refine sq ?_
  refine rg (A := (AV.b (entE es[i_0.toNat]! != (0 : Int)) = AV.b (decide ¬entE es[i_0.toNat]! = (0 : Int)))) cx [(1, { tell := some (.b (decide ¬entE es[i_0.toNat]! = (0 : Int))) })] [0, 4, 5, 18] [] (told_neq) ?_
  refine sn ?_
  refine st_dec (¬entE es[i_0.toNat]! = (0 : Int)) (by kernel_rfl) (by kernel_rfl) (fun h_6 => ?_) (fun h_6 => ?_)
  refine sq ?_
  refine rg (A := True) cx [] [2, 3] [] trivial ?_
  refine sn ?_
  refine st_ret (by kernel_rfl) ?_
  refine q_blk_ret ?_
  refine q_seq_ret ?_
  refine q_seq_ret ?_
  refine q_blk_ret ?_
  refine q_seq_ret ?_
  refine q_ret (r := .tup [.nl, .i .i64 (entE es[i_0.toNat]!)]) (obl := []) (by kernel_rfl) trivial (AVle.tup (ZLe.cons (AVle.nl' (show List.map c28 (sortR es).fst = [] from ?g2)) (ZLe.cons (AVle.eq (show AV.i IntKind.i64 (entE es[i_0.toNat]!) = AV.i IntKind.i64 (sortR es).snd from ?g1)) ZLe.nil))); rotate_left 2
  refine st_skip (by kernel_rfl) ?_
  refine q_blk_normal ?_
  refine sn ?_
  refine rg (A := (AV.i IntKind.i64 (IntKind.i64.wrap (i_0 + (1 : Int))) = AV.i IntKind.i64 (i_0 + (1 : Int)))) cx [(1, { tell := some (.i .i64 (i_0 + (1 : Int))) })] [0, 4] [] (told_i64 (by omega) (by omega)) ?_
  refine sn ?_
  refine loop_next (i_0 + (1 : Int)) (by kernel_rfl) (show ((↑es.length : Int) - (i_0 + (1 : Int))).toNat < ((↑es.length : Int) - i_0).toNat from (by omega)) (show inv25a es (i_0 + (1 : Int)) from ?g3); rotate_left 1
  refine st_exit 0 (by kernel_rfl) ?_
  refine q_seq_exit ?_
  refine q_seq_exit ?_
  refine q_blk_hit ?_
  refine sn ?_
  refine sq ?_
  have hl_7 := (rng_onceR (botS (leM (0 : Int)) (1 : Nat) es))
  refine rg (A := _ ∧ _) cx [(1, { val := some (.sl (List.map c28 (botS (leM (0 : Int)) (1 : Nat) es))) }), (2, { val := some (.tup [.sl (List.map c28 (onceR (botS (leM (0 : Int)) (1 : Nat) es)).fst), .i .i64 ((onceR (botS (leM (0 : Int)) (1 : Nat) es)).snd)]) })] [2, 3] [] ⟨(con58 (es) ((0 : Int)) (by (with_reducible assumption))), (con57 (botS (leM (0 : Int)) (1 : Nat) es) ?g4)⟩ ?_; rotate_left 1
  refine sn ?_
  refine st_ret (by kernel_rfl) ?_
  refine q_ret (r := .tup [.sl (List.map c28 (onceR (botS (leM (0 : Int)) (1 : Nat) es)).fst), .i .i64 ((onceR (botS (leM (0 : Int)) (1 : Nat) es)).snd)]) (obl := []) (by kernel_rfl) trivial (AVle.tup (ZLe.cons (AVle.eq (show AV.sl (List.map c28 (onceR (botS (leM (0 : Int)) (1 : Nat) es)).fst) = AV.sl (List.map c28 (sortR es).fst) from ?g6)) (ZLe.cons (AVle.eq (show AV.i IntKind.i64 (onceR (botS (leM (0 : Int)) (1 : Nat) es)).snd = AV.i IntKind.i64 (sortR es).snd from ?g5)) ZLe.nil))); rotate_left 2
  rotate_left
  revert i_0 h_2 h_3 h_4 h_5 h_6; rotate_left
  revert i_0 h_2 h_3 h_4 h_5 h_6; rotate_left
  revert i_0 h_2 h_3 h_4 h_5 h_6; rotate_left
  revert i_0 h_2 h_3 h_4 h_5; rotate_left
  revert i_0 h_2 h_3 h_4 h_5; rotate_left
  revert i_0 h_2 h_3 h_4 h_5; rotate_left
  case g0 => exact ⟨by omega, by omega, fun j hj => by omega⟩
  case g1 => exact (fun i h0 h1 h2 h3 h4 => by rw [sortR_bad (by omega) h4 (fun j hj => h2 j (by omega))])
  case g2 => exact (fun i h0 h1 h2 h3 h4 => by rw [sortR_bad (by omega) h4 (fun j hj => h2 j (by omega))]; rfl)
  case g3 => exact (fun i h0 h1 h2 h3 h4 => ⟨by omega, by omega, fun j hj => by
      by_cases e : j = i.toNat
      · rw [e]; exact Classical.not_not.1 h4
      · exact h2 j (by omega)⟩)
  case g4 => exact (fun i h0 h1 h2 h3 => by rw [bot_len]; exact hl)
  case g5 => exact (fun i h0 h1 h2 h3 => by rw [bot_once, sortR_ok (fun j hj => h2 j (by omega))])
  case g6 => exact (fun i h0 h1 h2 h3 => by rw [bot_once, sortR_ok (fun j hj => h2 j (by omega))])
theorem con6 (es : List Entry) (d : Dot) (hl : es.length * 40 ≤ 140737488351232) : Con Try.prog 6 [.sl (es.map c28), .agg (c26 d)] (.b true) :=
  by
  refine con_lens 0 (c28) (es) (by kernel_rfl) Go.Proofs.Try.func6 (by kernel_rfl) fun hl_0 => ?_
  refine st_con tab_ok (by kernel_rfl) [.tmp 4] 69 Go.Proofs.Try.func6 (by kernel_rfl) (by kernel_rfl) ?_
  intro e0 cx
  refine sq ?_
  refine rg (A := True) cx [] [0, 3] [3] trivial ?_
  refine sn ?_
  refine sq ?_
  have hl_0 := (rng_sortR [{ dot := { rep := (1 : Int), num := (1 : Int) : Dot }, sku := { dot := { rep := (1 : Int), num := (1 : Int) : Dot }, sku := { data := #[(66 : UInt8)] : ByteArray }, qty := (2 : Int) : Entry }.sku, qty := (2 : Int) : Entry }, { dot := { rep := (0 : Int), num := (3 : Int) : Dot }, sku := { dot := { rep := (0 : Int), num := (3 : Int) : Dot }, sku := { data := #[(65 : UInt8)] : ByteArray }, qty := (5 : Int) : Entry }.sku, qty := (5 : Int) : Entry }, { dot := { rep := (1 : Int), num := (1 : Int) : Dot }, sku := { dot := { rep := (1 : Int), num := (1 : Int) : Dot }, sku := { data := #[(66 : UInt8)] : ByteArray }, qty := (2 : Int) : Entry }.sku, qty := (2 : Int) : Entry }])
  refine rg (A := _ ∧ _ ∧ _ ∧ _) cx [(0, { val := some (resC (con15 ((1 : Int)) ((1 : Int)) ({ data := #[(66 : UInt8)] : ByteArray }) ((2 : Int)))) }), (1, { val := some (resC (con15 ((0 : Int)) ((3 : Int)) ({ data := #[(65 : UInt8)] : ByteArray }) ((5 : Int)))) }), (2, { val := some (resC (con15 ((1 : Int)) ((1 : Int)) ({ data := #[(66 : UInt8)] : ByteArray }) ((2 : Int)))) }), (4, { val := some (.tup [.sl (List.map c28 (sortR [{ dot := { rep := (1 : Int), num := (1 : Int) : Dot }, sku := { dot := { rep := (1 : Int), num := (1 : Int) : Dot }, sku := { data := #[(66 : UInt8)] : ByteArray }, qty := (2 : Int) : Entry }.sku, qty := (2 : Int) : Entry }, { dot := { rep := (0 : Int), num := (3 : Int) : Dot }, sku := { dot := { rep := (0 : Int), num := (3 : Int) : Dot }, sku := { data := #[(65 : UInt8)] : ByteArray }, qty := (5 : Int) : Entry }.sku, qty := (5 : Int) : Entry }, { dot := { rep := (1 : Int), num := (1 : Int) : Dot }, sku := { dot := { rep := (1 : Int), num := (1 : Int) : Dot }, sku := { data := #[(66 : UInt8)] : ByteArray }, qty := (2 : Int) : Entry }.sku, qty := (2 : Int) : Entry }]).fst), .i .i64 ((sortR [{ dot := { rep := (1 : Int), num := (1 : Int) : Dot }, sku := { dot := { rep := (1 : Int), num := (1 : Int) : Dot }, sku := { data := #[(66 : UInt8)] : ByteArray }, qty := (2 : Int) : Entry }.sku, qty := (2 : Int) : Entry }, { dot := { rep := (0 : Int), num := (3 : Int) : Dot }, sku := { dot := { rep := (0 : Int), num := (3 : Int) : Dot }, sku := { data := #[(65 : UInt8)] : ByteArray }, qty := (5 : Int) : Entry }.sku, qty := (5 : Int) : Entry }, { dot := { rep := (1 : Int), num := (1 : Int) : Dot }, sku := { dot := { rep := (1 : Int), num := (1 : Int) : Dot }, sku := { data := #[(66 : UInt8)] : ByteArray }, qty := (2 : Int) : Entry }.sku, qty := (2 : Int) : Entry }]).snd)]) })] [0, 3, 5, 6] [3] ⟨(con15 ((1 : Int)) ((1 : Int)) ({ data := #[(66 : UInt8)] : ByteArray }) ((2 : Int))), (con15 ((0 : Int)) ((3 : Int)) ({ data := #[(65 : UInt8)] : ByteArray }) ((5 : Int))), (con15 ((1 : Int)) ((1 : Int)) ({ data := #[(66 : UInt8)] : ByteArray }) ((2 : Int))), (con25 ([{ dot := { rep := (1 : Int), num := (1 : Int) : Dot }, sku := { dot := { rep := (1 : Int), num := (1 : Int) : Dot }, sku := { data := #[(66 : UInt8)] : ByteArray }, qty := (2 : Int) : Entry }.sku, qty := (2 : Int) : Entry }, { dot := { rep := (0 : Int), num := (3 : Int) : Dot }, sku := { dot := { rep := (0 : Int), num := (3 : Int) : Dot }, sku := { data := #[(65 : UInt8)] : ByteArray }, qty := (5 : Int) : Entry }.sku, qty := (5 : Int) : Entry }, { dot := { rep := (1 : Int), num := (1 : Int) : Dot }, sku := { dot := { rep := (1 : Int), num := (1 : Int) : Dot }, sku := { data := #[(66 : UInt8)] : ByteArray }, qty := (2 : Int) : Entry }.sku, qty := (2 : Int) : Entry }]) (by (simp only [List.length_append, List.length_cons, List.length_nil]; omega)))⟩ ?_
  refine sn ?_
  refine sq ?_
  refine sq ?_
  refine st_join (σ' := ⟨[(0, .sl (List.map c28 es)), (3, .ptr (3) (0) (0) (0)), (29, .b (decide (¬(sortR [{ dot := { rep := (1 : Int), num := (1 : Int) : Dot }, sku := { dot := { rep := (1 : Int), num := (1 : Int) : Dot }, sku := { data := #[(66 : UInt8)] : ByteArray }, qty := (2 : Int) : Entry }.sku, qty := (2 : Int) : Entry }, { dot := { rep := (0 : Int), num := (3 : Int) : Dot }, sku := { dot := { rep := (0 : Int), num := (3 : Int) : Dot }, sku := { data := #[(65 : UInt8)] : ByteArray }, qty := (5 : Int) : Entry }.sku, qty := (5 : Int) : Entry }, { dot := { rep := (1 : Int), num := (1 : Int) : Dot }, sku := { dot := { rep := (1 : Int), num := (1 : Int) : Dot }, sku := { data := #[(66 : UInt8)] : ByteArray }, qty := (2 : Int) : Entry }.sku, qty := (2 : Int) : Entry }]).snd = (0 : Int) ∨ ¬(sortR [{ dot := { rep := (1 : Int), num := (1 : Int) : Dot }, sku := { dot := { rep := (1 : Int), num := (1 : Int) : Dot }, sku := { data := #[(66 : UInt8)] : ByteArray }, qty := (2 : Int) : Entry }.sku, qty := (2 : Int) : Entry }, { dot := { rep := (0 : Int), num := (3 : Int) : Dot }, sku := { dot := { rep := (0 : Int), num := (3 : Int) : Dot }, sku := { data := #[(65 : UInt8)] : ByteArray }, qty := (5 : Int) : Entry }.sku, qty := (5 : Int) : Entry }, { dot := { rep := (1 : Int), num := (1 : Int) : Dot }, sku := { dot := { rep := (1 : Int), num := (1 : Int) : Dot }, sku := { data := #[(66 : UInt8)] : ByteArray }, qty := (2 : Int) : Entry }.sku, qty := (2 : Int) : Entry }]).fst = [{ dot := { rep := (0 : Int), num := (3 : Int) : Dot }, sku := { dot := { rep := (0 : Int), num := (3 : Int) : Dot }, sku := { data := #[(65 : UInt8)] : ByteArray }, qty := (5 : Int) : Entry }.sku, qty := (5 : Int) : Entry }, { dot := { rep := (1 : Int), num := (1 : Int) : Dot }, sku := { dot := { rep := (1 : Int), num := (1 : Int) : Dot }, sku := { data := #[(66 : UInt8)] : ByteArray }, qty := (2 : Int) : Entry }.sku, qty := (2 : Int) : Entry }])))], [(3, ⟨0, 26, .var [.i .i64 (d.rep), .i .i64 (d.num)]⟩)]⟩) ?_ ?_
  refine st_split (¬(sortR [{ dot := { rep := (1 : Int), num := (1 : Int) : Dot }, sku := { dot := { rep := (1 : Int), num := (1 : Int) : Dot }, sku := { data := #[(66 : UInt8)] : ByteArray }, qty := (2 : Int) : Entry }.sku, qty := (2 : Int) : Entry }, { dot := { rep := (0 : Int), num := (3 : Int) : Dot }, sku := { dot := { rep := (0 : Int), num := (3 : Int) : Dot }, sku := { data := #[(65 : UInt8)] : ByteArray }, qty := (5 : Int) : Entry }.sku, qty := (5 : Int) : Entry }, { dot := { rep := (1 : Int), num := (1 : Int) : Dot }, sku := { dot := { rep := (1 : Int), num := (1 : Int) : Dot }, sku := { data := #[(66 : UInt8)] : ByteArray }, qty := (2 : Int) : Entry }.sku, qty := (2 : Int) : Entry }]).snd = (0 : Int)) (fun h_2 => ?_) (fun h_2 => ?_)
  refine rg (A := (AV.b ((sortR [{ dot := { rep := (1 : Int), num := (1 : Int) : Dot }, sku := { dot := { rep := (1 : Int), num := (1 : Int) : Dot }, sku := { data := #[(66 : UInt8)] : ByteArray }, qty := (2 : Int) : Entry }.sku, qty := (2 : Int) : Entry }, { dot := { rep := (0 : Int), num := (3 : Int) : Dot }, sku := { dot := { rep := (0 : Int), num := (3 : Int) : Dot }, sku := { data := #[(65 : UInt8)] : ByteArray }, qty := (5 : Int) : Entry }.sku, qty := (5 : Int) : Entry }, { dot := { rep := (1 : Int), num := (1 : Int) : Dot }, sku := { dot := { rep := (1 : Int), num := (1 : Int) : Dot }, sku := { data := #[(66 : UInt8)] : ByteArray }, qty := (2 : Int) : Entry }.sku, qty := (2 : Int) : Entry }]).snd != (0 : Int)) = AV.b true) ∧ (AV.b true = AV.b (decide (¬(sortR [{ dot := { rep := (1 : Int), num := (1 : Int) : Dot }, sku := { dot := { rep := (1 : Int), num := (1 : Int) : Dot }, sku := { data := #[(66 : UInt8)] : ByteArray }, qty := (2 : Int) : Entry }.sku, qty := (2 : Int) : Entry }, { dot := { rep := (0 : Int), num := (3 : Int) : Dot }, sku := { dot := { rep := (0 : Int), num := (3 : Int) : Dot }, sku := { data := #[(65 : UInt8)] : ByteArray }, qty := (5 : Int) : Entry }.sku, qty := (5 : Int) : Entry }, { dot := { rep := (1 : Int), num := (1 : Int) : Dot }, sku := { dot := { rep := (1 : Int), num := (1 : Int) : Dot }, sku := { data := #[(66 : UInt8)] : ByteArray }, qty := (2 : Int) : Entry }.sku, qty := (2 : Int) : Entry }]).snd = (0 : Int) ∨ ¬(sortR [{ dot := { rep := (1 : Int), num := (1 : Int) : Dot }, sku := { dot := { rep := (1 : Int), num := (1 : Int) : Dot }, sku := { data := #[(66 : UInt8)] : ByteArray }, qty := (2 : Int) : Entry }.sku, qty := (2 : Int) : Entry }, { dot := { rep := (0 : Int), num := (3 : Int) : Dot }, sku := { dot := { rep := (0 : Int), num := (3 : Int) : Dot }, sku := { data := #[(65 : UInt8)] : ByteArray }, qty := (5 : Int) : Entry }.sku, qty := (5 : Int) : Entry }, { dot := { rep := (1 : Int), num := (1 : Int) : Dot }, sku := { dot := { rep := (1 : Int), num := (1 : Int) : Dot }, sku := { data := #[(66 : UInt8)] : ByteArray }, qty := (2 : Int) : Entry }.sku, qty := (2 : Int) : Entry }]).fst = [{ dot := { rep := (0 : Int), num := (3 : Int) : Dot }, sku := { dot := { rep := (0 : Int), num := (3 : Int) : Dot }, sku := { data := #[(65 : UInt8)] : ByteArray }, qty := (5 : Int) : Entry }.sku, qty := (5 : Int) : Entry }, { dot := { rep := (1 : Int), num := (1 : Int) : Dot }, sku := { dot := { rep := (1 : Int), num := (1 : Int) : Dot }, sku := { data := #[(66 : UInt8)] : ByteArray }, qty := (2 : Int) : Entry }.sku, qty := (2 : Int) : Entry }])))) cx [(1, { tell := some (.b (true)) }), (8, { tell := some (.b (decide (¬(sortR [{ dot := { rep := (1 : Int), num := (1 : Int) : Dot }, sku := { dot := { rep := (1 : Int), num := (1 : Int) : Dot }, sku := { data := #[(66 : UInt8)] : ByteArray }, qty := (2 : Int) : Entry }.sku, qty := (2 : Int) : Entry }, { dot := { rep := (0 : Int), num := (3 : Int) : Dot }, sku := { dot := { rep := (0 : Int), num := (3 : Int) : Dot }, sku := { data := #[(65 : UInt8)] : ByteArray }, qty := (5 : Int) : Entry }.sku, qty := (5 : Int) : Entry }, { dot := { rep := (1 : Int), num := (1 : Int) : Dot }, sku := { dot := { rep := (1 : Int), num := (1 : Int) : Dot }, sku := { data := #[(66 : UInt8)] : ByteArray }, qty := (2 : Int) : Entry }.sku, qty := (2 : Int) : Entry }]).snd = (0 : Int) ∨ ¬(sortR [{ dot := { rep := (1 : Int), num := (1 : Int) : Dot }, sku := { dot := { rep := (1 : Int), num := (1 : Int) : Dot }, sku := { data := #[(66 : UInt8)] : ByteArray }, qty := (2 : Int) : Entry }.sku, qty := (2 : Int) : Entry }, { dot := { rep := (0 : Int), num := (3 : Int) : Dot }, sku := { dot := { rep := (0 : Int), num := (3 : Int) : Dot }, sku := { data := #[(65 : UInt8)] : ByteArray }, qty := (5 : Int) : Entry }.sku, qty := (5 : Int) : Entry }, { dot := { rep := (1 : Int), num := (1 : Int) : Dot }, sku := { dot := { rep := (1 : Int), num := (1 : Int) : Dot }, sku := { data := #[(66 : UInt8)] : ByteArray }, qty := (2 : Int) : Entry }.sku, qty := (2 : Int) : Entry }]).fst = [{ dot := { rep := (0 : Int), num := (3 : Int) : Dot }, sku := { dot := { rep := (0 : Int), num := (3 : Int) : Dot }, sku := { data := #[(65 : UInt8)] : ByteArray }, qty := (5 : Int) : Entry }.sku, qty := (5 : Int) : Entry }, { dot := { rep := (1 : Int), num := (1 : Int) : Dot }, sku := { dot := { rep := (1 : Int), num := (1 : Int) : Dot }, sku := { data := #[(66 : UInt8)] : ByteArray }, qty := (2 : Int) : Entry }.sku, qty := (2 : Int) : Entry }]))) })] [0, 3, 29] [3] ⟨(told_neqt h_2), (by simp only [eq_false h_2, told_simp1, told_simp2, and_true, true_and, and_false, false_and, or_true, true_or, or_false, false_or, not_true_eq_false, not_false_eq_true, decide_true, decide_false, Bool.decide_eq_true])⟩ ?_
  exact ⟨rfl, by kernel_rfl⟩
  refine rg (A := (AV.b ((sortR [{ dot := { rep := (1 : Int), num := (1 : Int) : Dot }, sku := { dot := { rep := (1 : Int), num := (1 : Int) : Dot }, sku := { data := #[(66 : UInt8)] : ByteArray }, qty := (2 : Int) : Entry }.sku, qty := (2 : Int) : Entry }, { dot := { rep := (0 : Int), num := (3 : Int) : Dot }, sku := { dot := { rep := (0 : Int), num := (3 : Int) : Dot }, sku := { data := #[(65 : UInt8)] : ByteArray }, qty := (5 : Int) : Entry }.sku, qty := (5 : Int) : Entry }, { dot := { rep := (1 : Int), num := (1 : Int) : Dot }, sku := { dot := { rep := (1 : Int), num := (1 : Int) : Dot }, sku := { data := #[(66 : UInt8)] : ByteArray }, qty := (2 : Int) : Entry }.sku, qty := (2 : Int) : Entry }]).snd != (0 : Int)) = AV.b (decide ¬(sortR [{ dot := { rep := (1 : Int), num := (1 : Int) : Dot }, sku := { dot := { rep := (1 : Int), num := (1 : Int) : Dot }, sku := { data := #[(66 : UInt8)] : ByteArray }, qty := (2 : Int) : Entry }.sku, qty := (2 : Int) : Entry }, { dot := { rep := (0 : Int), num := (3 : Int) : Dot }, sku := { dot := { rep := (0 : Int), num := (3 : Int) : Dot }, sku := { data := #[(65 : UInt8)] : ByteArray }, qty := (5 : Int) : Entry }.sku, qty := (5 : Int) : Entry }, { dot := { rep := (1 : Int), num := (1 : Int) : Dot }, sku := { dot := { rep := (1 : Int), num := (1 : Int) : Dot }, sku := { data := #[(66 : UInt8)] : ByteArray }, qty := (2 : Int) : Entry }.sku, qty := (2 : Int) : Entry }]).snd = (0 : Int))) ∧ _ ∧ _ ∧ ((0 : Int) ≤ (0 : Int)) ∧ ((0 : Int) ≤ (2 : Int)) ∧ ((2 : Int) ≤ (↑(List.map c28 someL).length : Int)) ∧ (∀ (r : List AV), r ∈ List.map c28 someL → r.length = (4 : Nat)) ∧ _ ∧ ((AV.b !decide ((sortR [{ dot := { rep := (1 : Int), num := (1 : Int) : Dot }, sku := { dot := { rep := (1 : Int), num := (1 : Int) : Dot }, sku := { data := #[(66 : UInt8)] : ByteArray }, qty := (2 : Int) : Entry }.sku, qty := (2 : Int) : Entry }, { dot := { rep := (0 : Int), num := (3 : Int) : Dot }, sku := { dot := { rep := (0 : Int), num := (3 : Int) : Dot }, sku := { data := #[(65 : UInt8)] : ByteArray }, qty := (5 : Int) : Entry }.sku, qty := (5 : Int) : Entry }, { dot := { rep := (1 : Int), num := (1 : Int) : Dot }, sku := { dot := { rep := (1 : Int), num := (1 : Int) : Dot }, sku := { data := #[(66 : UInt8)] : ByteArray }, qty := (2 : Int) : Entry }.sku, qty := (2 : Int) : Entry }]).fst = [{ dot := { rep := (0 : Int), num := (3 : Int) : Dot }, sku := { dot := { rep := (0 : Int), num := (3 : Int) : Dot }, sku := { data := #[(65 : UInt8)] : ByteArray }, qty := (5 : Int) : Entry }.sku, qty := (5 : Int) : Entry }, { dot := { rep := (1 : Int), num := (1 : Int) : Dot }, sku := { dot := { rep := (1 : Int), num := (1 : Int) : Dot }, sku := { data := #[(66 : UInt8)] : ByteArray }, qty := (2 : Int) : Entry }.sku, qty := (2 : Int) : Entry }])) = AV.b (decide ¬(sortR [{ dot := { rep := (1 : Int), num := (1 : Int) : Dot }, sku := { dot := { rep := (1 : Int), num := (1 : Int) : Dot }, sku := { data := #[(66 : UInt8)] : ByteArray }, qty := (2 : Int) : Entry }.sku, qty := (2 : Int) : Entry }, { dot := { rep := (0 : Int), num := (3 : Int) : Dot }, sku := { dot := { rep := (0 : Int), num := (3 : Int) : Dot }, sku := { data := #[(65 : UInt8)] : ByteArray }, qty := (5 : Int) : Entry }.sku, qty := (5 : Int) : Entry }, { dot := { rep := (1 : Int), num := (1 : Int) : Dot }, sku := { dot := { rep := (1 : Int), num := (1 : Int) : Dot }, sku := { data := #[(66 : UInt8)] : ByteArray }, qty := (2 : Int) : Entry }.sku, qty := (2 : Int) : Entry }]).fst = [{ dot := { rep := (0 : Int), num := (3 : Int) : Dot }, sku := { dot := { rep := (0 : Int), num := (3 : Int) : Dot }, sku := { data := #[(65 : UInt8)] : ByteArray }, qty := (5 : Int) : Entry }.sku, qty := (5 : Int) : Entry }, { dot := { rep := (1 : Int), num := (1 : Int) : Dot }, sku := { dot := { rep := (1 : Int), num := (1 : Int) : Dot }, sku := { data := #[(66 : UInt8)] : ByteArray }, qty := (2 : Int) : Entry }.sku, qty := (2 : Int) : Entry }])) ∧ (AV.b (decide ¬(sortR [{ dot := { rep := (1 : Int), num := (1 : Int) : Dot }, sku := { dot := { rep := (1 : Int), num := (1 : Int) : Dot }, sku := { data := #[(66 : UInt8)] : ByteArray }, qty := (2 : Int) : Entry }.sku, qty := (2 : Int) : Entry }, { dot := { rep := (0 : Int), num := (3 : Int) : Dot }, sku := { dot := { rep := (0 : Int), num := (3 : Int) : Dot }, sku := { data := #[(65 : UInt8)] : ByteArray }, qty := (5 : Int) : Entry }.sku, qty := (5 : Int) : Entry }, { dot := { rep := (1 : Int), num := (1 : Int) : Dot }, sku := { dot := { rep := (1 : Int), num := (1 : Int) : Dot }, sku := { data := #[(66 : UInt8)] : ByteArray }, qty := (2 : Int) : Entry }.sku, qty := (2 : Int) : Entry }]).fst = [{ dot := { rep := (0 : Int), num := (3 : Int) : Dot }, sku := { dot := { rep := (0 : Int), num := (3 : Int) : Dot }, sku := { data := #[(65 : UInt8)] : ByteArray }, qty := (5 : Int) : Entry }.sku, qty := (5 : Int) : Entry }, { dot := { rep := (1 : Int), num := (1 : Int) : Dot }, sku := { dot := { rep := (1 : Int), num := (1 : Int) : Dot }, sku := { data := #[(66 : UInt8)] : ByteArray }, qty := (2 : Int) : Entry }.sku, qty := (2 : Int) : Entry }]) = AV.b (decide (¬(sortR [{ dot := { rep := (1 : Int), num := (1 : Int) : Dot }, sku := { dot := { rep := (1 : Int), num := (1 : Int) : Dot }, sku := { data := #[(66 : UInt8)] : ByteArray }, qty := (2 : Int) : Entry }.sku, qty := (2 : Int) : Entry }, { dot := { rep := (0 : Int), num := (3 : Int) : Dot }, sku := { dot := { rep := (0 : Int), num := (3 : Int) : Dot }, sku := { data := #[(65 : UInt8)] : ByteArray }, qty := (5 : Int) : Entry }.sku, qty := (5 : Int) : Entry }, { dot := { rep := (1 : Int), num := (1 : Int) : Dot }, sku := { dot := { rep := (1 : Int), num := (1 : Int) : Dot }, sku := { data := #[(66 : UInt8)] : ByteArray }, qty := (2 : Int) : Entry }.sku, qty := (2 : Int) : Entry }]).snd = (0 : Int) ∨ ¬(sortR [{ dot := { rep := (1 : Int), num := (1 : Int) : Dot }, sku := { dot := { rep := (1 : Int), num := (1 : Int) : Dot }, sku := { data := #[(66 : UInt8)] : ByteArray }, qty := (2 : Int) : Entry }.sku, qty := (2 : Int) : Entry }, { dot := { rep := (0 : Int), num := (3 : Int) : Dot }, sku := { dot := { rep := (0 : Int), num := (3 : Int) : Dot }, sku := { data := #[(65 : UInt8)] : ByteArray }, qty := (5 : Int) : Entry }.sku, qty := (5 : Int) : Entry }, { dot := { rep := (1 : Int), num := (1 : Int) : Dot }, sku := { dot := { rep := (1 : Int), num := (1 : Int) : Dot }, sku := { data := #[(66 : UInt8)] : ByteArray }, qty := (2 : Int) : Entry }.sku, qty := (2 : Int) : Entry }]).fst = [{ dot := { rep := (0 : Int), num := (3 : Int) : Dot }, sku := { dot := { rep := (0 : Int), num := (3 : Int) : Dot }, sku := { data := #[(65 : UInt8)] : ByteArray }, qty := (5 : Int) : Entry }.sku, qty := (5 : Int) : Entry }, { dot := { rep := (1 : Int), num := (1 : Int) : Dot }, sku := { dot := { rep := (1 : Int), num := (1 : Int) : Dot }, sku := { data := #[(66 : UInt8)] : ByteArray }, qty := (2 : Int) : Entry }.sku, qty := (2 : Int) : Entry }])))) cx [(1, { tell := some (.b (decide ¬(sortR [{ dot := { rep := (1 : Int), num := (1 : Int) : Dot }, sku := { dot := { rep := (1 : Int), num := (1 : Int) : Dot }, sku := { data := #[(66 : UInt8)] : ByteArray }, qty := (2 : Int) : Entry }.sku, qty := (2 : Int) : Entry }, { dot := { rep := (0 : Int), num := (3 : Int) : Dot }, sku := { dot := { rep := (0 : Int), num := (3 : Int) : Dot }, sku := { data := #[(65 : UInt8)] : ByteArray }, qty := (5 : Int) : Entry }.sku, qty := (5 : Int) : Entry }, { dot := { rep := (1 : Int), num := (1 : Int) : Dot }, sku := { dot := { rep := (1 : Int), num := (1 : Int) : Dot }, sku := { data := #[(66 : UInt8)] : ByteArray }, qty := (2 : Int) : Entry }.sku, qty := (2 : Int) : Entry }]).snd = (0 : Int))) }), (2, { tell := some (.b (false)) }), (4, { val := some (resC (con17 )) }), (6, { val := some (.b (decide ((sortR [{ dot := { rep := (1 : Int), num := (1 : Int) : Dot }, sku := { dot := { rep := (1 : Int), num := (1 : Int) : Dot }, sku := { data := #[(66 : UInt8)] : ByteArray }, qty := (2 : Int) : Entry }.sku, qty := (2 : Int) : Entry }, { dot := { rep := (0 : Int), num := (3 : Int) : Dot }, sku := { dot := { rep := (0 : Int), num := (3 : Int) : Dot }, sku := { data := #[(65 : UInt8)] : ByteArray }, qty := (5 : Int) : Entry }.sku, qty := (5 : Int) : Entry }, { dot := { rep := (1 : Int), num := (1 : Int) : Dot }, sku := { dot := { rep := (1 : Int), num := (1 : Int) : Dot }, sku := { data := #[(66 : UInt8)] : ByteArray }, qty := (2 : Int) : Entry }.sku, qty := (2 : Int) : Entry }]).fst = [{ dot := { rep := (0 : Int), num := (3 : Int) : Dot }, sku := { dot := { rep := (0 : Int), num := (3 : Int) : Dot }, sku := { data := #[(65 : UInt8)] : ByteArray }, qty := (5 : Int) : Entry }.sku, qty := (5 : Int) : Entry }, { dot := { rep := (1 : Int), num := (1 : Int) : Dot }, sku := { dot := { rep := (1 : Int), num := (1 : Int) : Dot }, sku := { data := #[(66 : UInt8)] : ByteArray }, qty := (2 : Int) : Entry }.sku, qty := (2 : Int) : Entry }]))) }), (7, { tell := some (.b (decide ¬(sortR [{ dot := { rep := (1 : Int), num := (1 : Int) : Dot }, sku := { dot := { rep := (1 : Int), num := (1 : Int) : Dot }, sku := { data := #[(66 : UInt8)] : ByteArray }, qty := (2 : Int) : Entry }.sku, qty := (2 : Int) : Entry }, { dot := { rep := (0 : Int), num := (3 : Int) : Dot }, sku := { dot := { rep := (0 : Int), num := (3 : Int) : Dot }, sku := { data := #[(65 : UInt8)] : ByteArray }, qty := (5 : Int) : Entry }.sku, qty := (5 : Int) : Entry }, { dot := { rep := (1 : Int), num := (1 : Int) : Dot }, sku := { dot := { rep := (1 : Int), num := (1 : Int) : Dot }, sku := { data := #[(66 : UInt8)] : ByteArray }, qty := (2 : Int) : Entry }.sku, qty := (2 : Int) : Entry }]).fst = [{ dot := { rep := (0 : Int), num := (3 : Int) : Dot }, sku := { dot := { rep := (0 : Int), num := (3 : Int) : Dot }, sku := { data := #[(65 : UInt8)] : ByteArray }, qty := (5 : Int) : Entry }.sku, qty := (5 : Int) : Entry }, { dot := { rep := (1 : Int), num := (1 : Int) : Dot }, sku := { dot := { rep := (1 : Int), num := (1 : Int) : Dot }, sku := { data := #[(66 : UInt8)] : ByteArray }, qty := (2 : Int) : Entry }.sku, qty := (2 : Int) : Entry }])) }), (8, { tell := some (.b (decide (¬(sortR [{ dot := { rep := (1 : Int), num := (1 : Int) : Dot }, sku := { dot := { rep := (1 : Int), num := (1 : Int) : Dot }, sku := { data := #[(66 : UInt8)] : ByteArray }, qty := (2 : Int) : Entry }.sku, qty := (2 : Int) : Entry }, { dot := { rep := (0 : Int), num := (3 : Int) : Dot }, sku := { dot := { rep := (0 : Int), num := (3 : Int) : Dot }, sku := { data := #[(65 : UInt8)] : ByteArray }, qty := (5 : Int) : Entry }.sku, qty := (5 : Int) : Entry }, { dot := { rep := (1 : Int), num := (1 : Int) : Dot }, sku := { dot := { rep := (1 : Int), num := (1 : Int) : Dot }, sku := { data := #[(66 : UInt8)] : ByteArray }, qty := (2 : Int) : Entry }.sku, qty := (2 : Int) : Entry }]).snd = (0 : Int) ∨ ¬(sortR [{ dot := { rep := (1 : Int), num := (1 : Int) : Dot }, sku := { dot := { rep := (1 : Int), num := (1 : Int) : Dot }, sku := { data := #[(66 : UInt8)] : ByteArray }, qty := (2 : Int) : Entry }.sku, qty := (2 : Int) : Entry }, { dot := { rep := (0 : Int), num := (3 : Int) : Dot }, sku := { dot := { rep := (0 : Int), num := (3 : Int) : Dot }, sku := { data := #[(65 : UInt8)] : ByteArray }, qty := (5 : Int) : Entry }.sku, qty := (5 : Int) : Entry }, { dot := { rep := (1 : Int), num := (1 : Int) : Dot }, sku := { dot := { rep := (1 : Int), num := (1 : Int) : Dot }, sku := { data := #[(66 : UInt8)] : ByteArray }, qty := (2 : Int) : Entry }.sku, qty := (2 : Int) : Entry }]).fst = [{ dot := { rep := (0 : Int), num := (3 : Int) : Dot }, sku := { dot := { rep := (0 : Int), num := (3 : Int) : Dot }, sku := { data := #[(65 : UInt8)] : ByteArray }, qty := (5 : Int) : Entry }.sku, qty := (5 : Int) : Entry }, { dot := { rep := (1 : Int), num := (1 : Int) : Dot }, sku := { dot := { rep := (1 : Int), num := (1 : Int) : Dot }, sku := { data := #[(66 : UInt8)] : ByteArray }, qty := (2 : Int) : Entry }.sku, qty := (2 : Int) : Entry }]))) })] [0, 3, 29] [3] ⟨(told_neq), (told_false h_2), (con17 ), (by omega), (by omega), ?g0, (by (with_reducible refine len_map (fun _ => ?_) _; kernel_rfl)), (con24 ((sortR [{ dot := { rep := (1 : Int), num := (1 : Int) : Dot }, sku := { dot := { rep := (1 : Int), num := (1 : Int) : Dot }, sku := { data := #[(66 : UInt8)] : ByteArray }, qty := (2 : Int) : Entry }.sku, qty := (2 : Int) : Entry }, { dot := { rep := (0 : Int), num := (3 : Int) : Dot }, sku := { dot := { rep := (0 : Int), num := (3 : Int) : Dot }, sku := { data := #[(65 : UInt8)] : ByteArray }, qty := (5 : Int) : Entry }.sku, qty := (5 : Int) : Entry }, { dot := { rep := (1 : Int), num := (1 : Int) : Dot }, sku := { dot := { rep := (1 : Int), num := (1 : Int) : Dot }, sku := { data := #[(66 : UInt8)] : ByteArray }, qty := (2 : Int) : Entry }.sku, qty := (2 : Int) : Entry }]).fst) ([{ dot := { rep := (0 : Int), num := (3 : Int) : Dot }, sku := { dot := { rep := (0 : Int), num := (3 : Int) : Dot }, sku := { data := #[(65 : UInt8)] : ByteArray }, qty := (5 : Int) : Entry }.sku, qty := (5 : Int) : Entry }, { dot := { rep := (1 : Int), num := (1 : Int) : Dot }, sku := { dot := { rep := (1 : Int), num := (1 : Int) : Dot }, sku := { data := #[(66 : UInt8)] : ByteArray }, qty := (2 : Int) : Entry }.sku, qty := (2 : Int) : Entry }])), (told_notd), (by simp only [eq_false h_2, told_simp1, told_simp2, and_true, true_and, and_false, false_and, or_true, true_or, or_false, false_or, not_true_eq_false, not_false_eq_true, decide_true, decide_false, Bool.decide_eq_true])⟩ ?_; rotate_left 1
  exact ⟨rfl, by kernel_rfl⟩
  refine sn ?_
  refine st_dec (¬(sortR [{ dot := { rep := (1 : Int), num := (1 : Int) : Dot }, sku := { dot := { rep := (1 : Int), num := (1 : Int) : Dot }, sku := { data := #[(66 : UInt8)] : ByteArray }, qty := (2 : Int) : Entry }.sku, qty := (2 : Int) : Entry }, { dot := { rep := (0 : Int), num := (3 : Int) : Dot }, sku := { dot := { rep := (0 : Int), num := (3 : Int) : Dot }, sku := { data := #[(65 : UInt8)] : ByteArray }, qty := (5 : Int) : Entry }.sku, qty := (5 : Int) : Entry }, { dot := { rep := (1 : Int), num := (1 : Int) : Dot }, sku := { dot := { rep := (1 : Int), num := (1 : Int) : Dot }, sku := { data := #[(66 : UInt8)] : ByteArray }, qty := (2 : Int) : Entry }.sku, qty := (2 : Int) : Entry }]).snd = (0 : Int) ∨ ¬(sortR [{ dot := { rep := (1 : Int), num := (1 : Int) : Dot }, sku := { dot := { rep := (1 : Int), num := (1 : Int) : Dot }, sku := { data := #[(66 : UInt8)] : ByteArray }, qty := (2 : Int) : Entry }.sku, qty := (2 : Int) : Entry }, { dot := { rep := (0 : Int), num := (3 : Int) : Dot }, sku := { dot := { rep := (0 : Int), num := (3 : Int) : Dot }, sku := { data := #[(65 : UInt8)] : ByteArray }, qty := (5 : Int) : Entry }.sku, qty := (5 : Int) : Entry }, { dot := { rep := (1 : Int), num := (1 : Int) : Dot }, sku := { dot := { rep := (1 : Int), num := (1 : Int) : Dot }, sku := { data := #[(66 : UInt8)] : ByteArray }, qty := (2 : Int) : Entry }.sku, qty := (2 : Int) : Entry }]).fst = [{ dot := { rep := (0 : Int), num := (3 : Int) : Dot }, sku := { dot := { rep := (0 : Int), num := (3 : Int) : Dot }, sku := { data := #[(65 : UInt8)] : ByteArray }, qty := (5 : Int) : Entry }.sku, qty := (5 : Int) : Entry }, { dot := { rep := (1 : Int), num := (1 : Int) : Dot }, sku := { dot := { rep := (1 : Int), num := (1 : Int) : Dot }, sku := { data := #[(66 : UInt8)] : ByteArray }, qty := (2 : Int) : Entry }.sku, qty := (2 : Int) : Entry }]) (by kernel_rfl) (by kernel_rfl) (fun h_3 => ?_) (fun h_3 => ?_)
  refine sq ?_
  refine rg (A := True) cx [] [4] [] trivial ?_
  refine sn ?_
  refine st_ret (by kernel_rfl) ?_
  refine q_seq_ret ?_
  refine q_ret (r := .b (false)) (obl := []) (by kernel_rfl) trivial (AVle.eq (show AV.b false = AV.b true from ?g1)); rotate_left 1
  refine st_skip (by kernel_rfl) ?_
  refine sn ?_
  refine sq ?_
  have hl_4 := (rng_sortR es)
  refine rg (A := _) cx [(1, { val := some (.tup [.sl (List.map c28 (sortR es).fst), .i .i64 ((sortR es).snd)]) })] [0, 3, 7, 8] [3] (con26 (es) (by (with_reducible assumption))) ?_
  refine sn ?_
  refine sq ?_
  refine rg (A := _) cx [(2, { val := some (resC (con27 (es) (d))) })] [0, 3, 7, 8, 9, 10] [3, 9] (con27 (es) (d)) ?_
  refine sn ?_
  refine sq ?_
  refine rg (A := _) cx [(1, { val := some (.tup [.sl (List.map c28 (sortR es).fst), .i .i64 ((sortR es).snd)]) })] [0, 3, 7, 8, 9, 10, 5, 6] [3, 9] (con25 (es) (by omega)) ?_
  refine sn ?_
  refine sq ?_
  refine sq ?_
  refine rg (A := (AV.b ((sortR es).snd != (sortR es).snd) = AV.b false) ∧ _ ∧ ((AV.b !decide ((sortR es).fst = (sortR es).fst)) = AV.b (decide ¬(sortR es).fst = (sortR es).fst))) cx [(2, { tell := some (.b (false)) }), (6, { val := some (.b (decide ((sortR es).fst = (sortR es).fst))) }), (7, { tell := some (.b (decide ¬(sortR es).fst = (sortR es).fst)) })] [0, 3, 9, 10, 54] [3, 9] ⟨(told_ins), (con24 ((sortR es).fst) ((sortR es).fst)), (told_notd)⟩ ?_
  refine sn ?_
  refine st_dec (¬(sortR es).fst = (sortR es).fst) (by kernel_rfl) (by kernel_rfl) (fun h_5 => absurd h_5 (fun hn => hn rfl)) (fun h_5 => ?_)
  refine st_skip (by kernel_rfl) ?_
  refine sn ?_
  refine sq ?_
  refine rg (A := _) cx [(2, { val := some (resC (con28 (es) (d))) })] [9, 10, 11, 12] [9, 11] (con28 (es) (d)) ?_
  refine sn ?_
  refine sq ?_
  refine rg (A := (AV.b ((findE es d).snd == (findE es d).snd) = AV.b true) ∧ (AggEq Try.prog (28 : Nat) [AV.i IntKind.i64 (findE es d).fst.dot.rep, AV.i IntKind.i64 (findE es d).fst.dot.num, AV.s (findE es d).fst.sku, AV.i IntKind.i64 (findE es d).fst.qty] [AV.i IntKind.i64 (findE es d).fst.dot.rep, AV.i IntKind.i64 (findE es d).fst.dot.num, AV.s (findE es d).fst.sku, AV.i IntKind.i64 (findE es d).fst.qty] true)) cx [(2, { tell := some (.b (true)) }), (6, { val := some (.b (true)) })] [4] [] ⟨(told_beqs), (aggEq_true (eq28 (findE es d).fst (findE es d).fst) (Eq.refl (findE es d).fst))⟩ ?_
  refine sn ?_
  refine st_ret (by kernel_rfl) ?_
  exact q_ret (r := .b (true)) (obl := []) (by kernel_rfl) trivial (AVle.refl _)
  revert h_2; rotate_left
  revert h_3; rotate_left
  case g0 => exact (fun _ => by decide)
  case g1 => exact (fun h => by
    have e := sort_lit6
    unfold lit6 at e
    rw [e] at h
    rcases h with h | h
    · exact absurd rfl h
    · exact absurd rfl h)
end Go.Proofs.Ytjngmlkaijpbgaa
namespace Go.Proofs.Ytjngmlkaijpbgaa
open Go.E
set_option maxRecDepth 100000
set_option maxHeartbeats 4000000
open Go Go.Lib Go.RowKit Go.Proofs
set_option maxHeartbeats 4000000 in
theorem grow_some (n : Nat) (h0 : 0 < n) (hb : n * 40 ≤ 140737488351232) (w : World) : Calls Try.prog 77 #[.slice none 0 0, .int .i64 n] w fun e w' =>
    ∃ cap cells, e = .returned (.slice (some ⟨w.heap.size, 0, none⟩) 0 cap) ∧ w'.heap[w.heap.size]? = some (.cells cells 28 (0, 0)) ∧ cells.size = cap * 4 ∧ cap ≤ maxLen ∧ Below w.heap.size w w' := by
  obtain ⟨i, z, hi, hi1, hi2, hz, hzs⟩ : ∃ (i : TypeInfo) (z : Value), Try.prog.info? 28 = some i ∧ i.size = 4 ∧ i.bytes = 40 ∧ i.zero = some z ∧ z.cells.size = 4 :=
    ⟨tiE, tiE.zero.get!, by kernel_rfl, by kernel_rfl, by kernel_rfl, by kernel_rfl, by kernel_rfl⟩
  have happ := Lib.run_append_nil_zeros (P := Try.prog) w 22 3 22 28 i z .i64 .i64 Try.underlying22 Try.underlying3 hi hz n h0 (by omega) (by omega) (by rw [hi2]; omega)
  generalize hcap : grownCap w n 0 28 = cap2 at happ
  have hcapge : n ≤ cap2 := by rw [← hcap]; exact grownCap_ge w _ 0 28
  have hcaple : cap2 ≤ maxLen := by rw [← hcap]; exact grownCap_le_maxLen w _ 0 28 (by unfold maxLen; omega)
  generalize hZ : (Builtin.zeroCells z.cells n ++ Builtin.zeroCells z.cells (cap2 - n)) = Z at happ
  have hZs : Z.size = cap2 * 4 := by rw [← hZ]; simp [size_zeroCells, hzs]; omega
  clear hcap hZ
  go_enter Try.func77, Try.ntmps77
  go_wp2_with (at_builtin; refine Lib.wpList_append_run _ rfl _ _ _ _ rfl _ _ rfl rfl _ _ happ ?_)
  go_ret
  exact ⟨cap2, Z, rfl, heap_alloc_new w _, hZs, hcaple, ⟨rfl, rfl, rfl, by simp, fun k hk => Below.heap_alloc w _ k hk⟩⟩
set_option maxHeartbeats 4000000 in
theorem grow_none (w : World) : Calls Try.prog 77 #[.slice none 0 0, .int .i64 0] w fun e w' => e = .returned (.slice none 0 0) ∧ w' = w := by
  go_enter Try.func77, Try.ntmps77
  go_wp2
  go_ret
  exact ⟨rfl, rfl⟩
theorem con77 (n : Int) (h0 : 0 ≤ n) (hb : n * 40 ≤ 140737488351232) : ConB Try.prog 77 [.nl, .i .i64 n] 28 (.row 4 (([] : List Entry).map c28)) := by
  refine ⟨⟨_, Try.func77, by kernel_rfl, by kernel_rfl⟩, fun w S0 vs hS hl hv => ?_⟩
  obtain ⟨v, u, rfl⟩ : ∃ v u, vs = [v, u] := by
    match vs, hl with
    | [v, u], _ => exact ⟨v, u, rfl⟩
  have h1 := hv 0 _ v rfl rfl
  have h2 := hv 1 _ u rfl rfl
  cases h1
  cases h2
  by_cases hn : n = 0
  · subst hn
    refine (grow_none w).mono ?_
    rintro e w' ⟨rfl, rfl⟩
    exact ⟨_, rfl, ⟨fun r hr => by simp at hr, [], World.ownsRow_nil _ _ _ _, fun u hu => by simp at hu, fun j b u hb => by simp at hb⟩, Below.refl _ _⟩
  · obtain ⟨m, rfl⟩ : ∃ m : Nat, n = m := ⟨n.toNat, by omega⟩
    refine (grow_some m (by omega) (by omega) w).mono ?_
    rintro e w' ⟨cap, cells, rfl, g1, g2, g3, g4⟩
    exact ⟨_, rfl, ⟨fun r hr => by simp at hr, [], ⟨by simp, .inr ⟨w.heap.size, cap, cells, rfl, Nat.le_refl _, g1, Nat.zero_le _, g3, g2, by simp⟩⟩, fun u hu => by simp at hu, fun j b u hb => by simp at hb⟩, g4⟩
def c22 (l : List Entry) : List AV := [.sl (l.map c28)]
def sumL (ss : List (List Entry)) (n : Int) (i : Int) : Prop := n = ((ss.take i.toNat).flatten.length : Int)
def isCat (ss : List (List Entry)) (i : Int) (l : List Entry) : Prop := l = (ss.take i.toNat).flatten
def inv59a (ss : List (List Entry)) (n i : Int) : Prop := 0 ≤ i ∧ i ≤ ss.length ∧ 0 ≤ n ∧ n ≤ 140737488351232 ∧ sumL ss n i
def dec59a (ss : List (List Entry)) (n i : Int) : Nat := (ss.length - i).toNat
def inv59b (ss : List (List Entry)) (i : Int) (l : List Entry) : Prop := 0 ≤ i ∧ i ≤ ss.length ∧ isCat ss i l
def dec59b (ss : List (List Entry)) (i : Int) (l : List Entry) : Nat := (ss.length - i).toNat
theorem flat_le (ss : List (List Entry)) (i : Nat) : (ss.take i).flatten.length ≤ ss.flatten.length := by
  have h : (ss.take i).flatten ++ (ss.drop i).flatten = ss.flatten := by rw [← List.flatten_append, List.take_append_drop]
  rw [← h, List.length_append]
  omega
theorem flat_step {ss : List (List Entry)} {i : Int} (h0 : 0 ≤ i) (h : i < ss.length) : (ss.take (i + 1).toNat).flatten = (ss.take i.toNat).flatten ++ ss[i.toNat]! := by
  rw [← take_step h0 h, List.flatten_append]
  simp
theorem cat_len {ss : List (List Entry)} {n i : Int} (hb : ss.flatten.length * 40 ≤ 140737488351232) (h0 : 0 ≤ i) (h : i < ss.length) (hs : sumL ss n i) : (n + ss[i.toNat]!.length) * 40 ≤ 140737488351232 := by
  have h1 := flat_le ss (i + 1).toNat
  rw [flat_step h0 h, List.length_append] at h1
  unfold sumL at hs
  omega
theorem inv59a_init (ss : List (List Entry)) : inv59a ss 0 0 := ⟨by omega, by omega, by omega, by omega, by simp [sumL]⟩
theorem inv59a_step {ss : List (List Entry)} {n i : Int} (hb : ss.flatten.length * 40 ≤ 140737488351232) (h0 : 0 ≤ i) (h : i < ss.length) (hn : 0 ≤ n) (hs : sumL ss n i) : inv59a ss (n + ss[i.toNat]!.length) (i + 1) := by
  have := cat_len hb h0 h hs
  refine ⟨by omega, by omega, by omega, by omega, ?_⟩
  unfold sumL at *
  rw [flat_step h0 h, List.length_append]
  omega
theorem cat_end {ss : List (List Entry)} {n i : Int} (hb : ss.flatten.length * 40 ≤ 140737488351232) (hs : sumL ss n i) : n * 40 ≤ 140737488351232 := by
  have := flat_le ss i.toNat
  unfold sumL at hs
  omega
theorem cat_app {ss : List (List Entry)} {i : Int} {l : List Entry} (hb : ss.flatten.length * 40 ≤ 140737488351232) (h0 : 0 ≤ i) (h : i < ss.length) (hs : isCat ss i l) : (l.length + ss[i.toNat]!.length) * 40 ≤ 140737488351232 := by
  have h1 := flat_le ss (i + 1).toNat
  rw [flat_step h0 h, List.length_append] at h1
  unfold isCat at hs
  rw [hs]
  omega
theorem inv59b_step {ss : List (List Entry)} {i : Int} {l : List Entry} (h0 : 0 ≤ i) (h : i < ss.length) (hs : isCat ss i l) : inv59b ss (i + 1) (l ++ ss[i.toNat]!) :=
  ⟨by omega, by omega, by unfold isCat at *; rw [flat_step h0 h, hs]⟩
theorem isCat_end {ss : List (List Entry)} {i : Int} {l : List Entry} (h : ¬ i < ss.length) (hs : isCat ss i l) : l = ss.flatten := by
  unfold isCat at hs
  rw [hs, List.take_of_length_le (by omega)]
theorem con59 (ss : List (List Entry)) (hb : ss.flatten.length * 40 ≤ 140737488351232) : ConB Try.prog 59 [.sl (ss.map c22)] 28 (.row 4 (ss.flatten.map c28)) :=
  by
  refine conB_lens 0 (c22) (ss) (by kernel_rfl) Go.Proofs.Try.func59 (by kernel_rfl) fun hl_0 => ?_
  refine st_conB tab_ok (by kernel_rfl) (.tmp 2) 36 Go.Proofs.Try.func59 (by kernel_rfl) (by kernel_rfl) ?_
  intro e0 cx
  refine sq ?_
  refine rg (A := True) cx [] [0] [] trivial ?_
  refine sn ?_
  refine sq ?_
  refine rg (A := True) cx [] [0, 3] [] trivial ?_
  refine sn ?_
  refine sq ?_
  refine sq ?_
  refine rg (A := _) cx [(1, { tell := some (.i .i64 ((↑ss.length : Int))) })] [0, 3, 9, 10, 11] [] (told_len c22 ss) ?_
  refine sn ?_
  refine st_block 0 (by kernel_rfl) ?_
  refine st_loop (X := Int × Int) (fun x => ⟨[(0, .sl (List.map c22 ss)), (3, .i .i64 (x.fst)), (9, .sl (List.map c22 ss)), (10, .i .i64 ((↑ss.length : Int))), (11, .i .i64 (x.snd))], []⟩) (fun x ↦ dec59a ss x.fst x.snd) (fun x ↦ inv59a ss x.fst x.snd) [0, 3, 9, 10, 11] [] (((0 : Int), (0 : Int))) (by kernel_rfl) (by kernel_rfl) (show inv59a ss (0 : Int) (0 : Int) from ?g0) ?_; rotate_left 1
  rintro ⟨n_0, i_1⟩ h_2
  obtain ⟨h_3, h_4, h_5, h_6, h_7⟩ : (0 : Int) ≤ i_1 ∧ i_1 ≤ (↑ss.length : Int) ∧ (0 : Int) ≤ n_0 ∧ n_0 ≤ (140737488351232 : Int) ∧ sumL ss n_0 i_1 := h_2
  refine sq ?_
  refine rg (A := (AV.b (decide (i_1 < (↑ss.length : Int))) = AV.b (decide (i_1 < (↑ss.length : Int))))) cx [(0, { tell := some (.b (decide (i_1 < (↑ss.length : Int)))) })] [0, 3, 9, 10, 11, 12] [] (by kernel_rfl) ?_
  refine sn ?_
  refine sq ?_
  refine st_dec (i_1 < (↑ss.length : Int)) (by kernel_rfl) (by kernel_rfl) (fun h_8 => ?_) (fun h_8 => ?_)
  refine st_skip (by kernel_rfl) ?_
  refine sn ?_
  refine sq ?_
  refine st_block 1 (by kernel_rfl) ?_
  refine sq ?_
  refine rg (A := ((0 : Int) ≤ i_1) ∧ ((List.map c22 ss)[i_1.toNat]? = some (c22 ss[i_1.toNat]!)) ∧ ((c22 ss[i_1.toNat]!).length = (1 : Nat))) cx [(0, { row := (c22 ss[i_1.toNat]!) })] [0, 3, 9, 10, 11, 5] [] ⟨(by (with_reducible assumption)), (by (with_reducible refine get_map ?_; omega)), (by kernel_rfl)⟩ ?_
  refine sn ?_
  refine sq ?_
  refine rg (A := _ ∧ (AV.i IntKind.i64 (IntKind.i64.wrap (n_0 + (↑ss[i_1.toNat]!.length : Int))) = AV.i IntKind.i64 (n_0 + (↑ss[i_1.toNat]!.length : Int)))) cx [(2, { tell := some (.i .i64 ((↑ss[i_1.toNat]!.length : Int))) }), (3, { tell := some (.i .i64 (n_0 + (↑ss[i_1.toNat]!.length : Int))) })] [0, 3, 9, 10, 11] [] ⟨(told_len c28 ss[i_1.toNat]!), (told_i64 (by omega) ?g1)⟩ ?_; rotate_left 1
  refine sn ?_
  refine sq ?_
  refine rg (A := (AV.b (decide (n_0 + (↑ss[i_1.toNat]!.length : Int) < (0 : Int))) = AV.b (decide (n_0 + (↑ss[i_1.toNat]!.length : Int) < (0 : Int))))) cx [(1, { tell := some (.b (decide (n_0 + (↑ss[i_1.toNat]!.length : Int) < (0 : Int)))) })] [0, 3, 9, 10, 11, 20] [] (by kernel_rfl) ?_
  refine sn ?_
  refine st_dec (n_0 + (↑ss[i_1.toNat]!.length : Int) < (0 : Int)) (by kernel_rfl) (by kernel_rfl) (fun h_9 => absurd h_9 (by omega)) (fun h_9 => ?_)
  refine st_skip (by kernel_rfl) ?_
  refine q_blk_normal ?_
  refine sn ?_
  refine rg (A := (AV.i IntKind.i64 (IntKind.i64.wrap (i_1 + (1 : Int))) = AV.i IntKind.i64 (i_1 + (1 : Int)))) cx [(0, { tell := some (.i .i64 (i_1 + (1 : Int))) })] [0, 3, 9, 10, 11] [] (told_i64 (by omega) (by omega)) ?_
  refine sn ?_
  refine loop_next ((n_0 + (↑ss[i_1.toNat]!.length : Int), i_1 + (1 : Int))) (by kernel_rfl) (show ((↑ss.length : Int) - (i_1 + (1 : Int))).toNat < ((↑ss.length : Int) - i_1).toNat from (by omega)) (show inv59a ss (n_0 + (↑ss[i_1.toNat]!.length : Int)) (i_1 + (1 : Int)) from ?g2); rotate_left 1
  refine st_exit 0 (by kernel_rfl) ?_
  refine q_seq_exit ?_
  refine q_seq_exit ?_
  refine q_blk_hit ?_
  refine sn ?_
  refine sq ?_
  refine rg (A := _) cx [(1, { val := some (.own (28 : Nat) (4 : Nat)), rows := some (List.map c28 []) })] [0, 6] [24] (con77 (n_0) (by (with_reducible assumption)) ?g3) ?_; rotate_left 1
  refine sn ?_
  refine sq ?_
  refine sq ?_
  refine rg (A := _) cx [(1, { tell := some (.i .i64 ((↑ss.length : Int))) })] [6, 25, 26, 27] [24] (told_len c22 ss) ?_
  refine sn ?_
  refine st_block 2 (by kernel_rfl) ?_
  refine st_loop (X := Int × List Entry) (fun x => ⟨[(6, .own 24 0), (25, .sl (List.map c22 ss)), (26, .i .i64 ((↑ss.length : Int))), (27, .i .i64 (x.fst))], [(24, ⟨0, 28, .row 4 (List.map c28 x.snd)⟩)]⟩) (fun x ↦ dec59b ss x.fst x.snd) (fun x ↦ inv59b ss x.fst x.snd) [6, 25, 26, 27] [24] (((0 : Int), [])) (by kernel_rfl) (by kernel_rfl) (show inv59b ss (0 : Int) [] from ?g4) ?_; rotate_left 1
  rintro ⟨i_10, l_11⟩ h_12
  obtain ⟨h_13, h_14, h_15⟩ : (0 : Int) ≤ i_10 ∧ i_10 ≤ (↑ss.length : Int) ∧ isCat ss i_10 l_11 := h_12
  refine sq ?_
  refine rg (A := (AV.b (decide (i_10 < (↑ss.length : Int))) = AV.b (decide (i_10 < (↑ss.length : Int))))) cx [(0, { tell := some (.b (decide (i_10 < (↑ss.length : Int)))) })] [6, 25, 26, 27, 28] [24] (by kernel_rfl) ?_
  refine sn ?_
  refine sq ?_
  refine st_dec (i_10 < (↑ss.length : Int)) (by kernel_rfl) (by kernel_rfl) (fun h_16 => ?_) (fun h_16 => ?_)
  refine st_skip (by kernel_rfl) ?_
  refine sn ?_
  refine sq ?_
  refine st_block 3 (by kernel_rfl) ?_
  refine sq ?_
  refine rg (A := ((0 : Int) ≤ i_10) ∧ ((List.map c22 ss)[i_10.toNat]? = some (c22 ss[i_10.toNat]!)) ∧ ((c22 ss[i_10.toNat]!).length = (1 : Nat))) cx [(0, { row := (c22 ss[i_10.toNat]!) })] [6, 25, 26, 27, 8] [24] ⟨(by (with_reducible assumption)), (by (with_reducible refine get_map ?_; omega)), (by kernel_rfl)⟩ ?_
  refine sn ?_
  refine rg (A := (28 = (28 : Nat)) ∧ ((4 : Nat) = 4) ∧ ([AV.i IntKind.i64 (0 : Int), AV.i IntKind.i64 (0 : Int), AV.s { data := #[] : ByteArray }, AV.i IntKind.i64 (0 : Int)].length = (4 : Nat)) ∧ (∀ (r : List AV), r ∈ List.map c28 ss[i_10.toNat]! → r.length = 4) ∧ ((List.map c28 l_11).length + (List.map c28 ss[i_10.toNat]!).length ≤ maxLen) ∧ (((List.map c28 l_11).length + (List.map c28 ss[i_10.toNat]!).length) * (40 : Nat) ≤ (140737488355328 : Nat)) ∧ (List.map c28 l_11 ++ List.map c28 ss[i_10.toNat]! = List.map c28 (l_11 ++ ss[i_10.toNat]!))) cx [(2, { rows := some (List.map c28 (l_11 ++ ss[i_10.toNat]!)) })] [6, 25, 26, 27] [24] ⟨(by kernel_rfl), (by kernel_rfl), (by kernel_rfl), (by (with_reducible refine len_map (fun _ => ?_) _; kernel_rfl)), ?g5, ?g6, (by (with_reducible refine app_map ?_; kernel_rfl))⟩ ?_; rotate_left 2
  refine q_blk_normal ?_
  refine sn ?_
  refine rg (A := (AV.i IntKind.i64 (IntKind.i64.wrap (i_10 + (1 : Int))) = AV.i IntKind.i64 (i_10 + (1 : Int)))) cx [(0, { tell := some (.i .i64 (i_10 + (1 : Int))) })] [6, 25, 26, 27] [24] (told_i64 (by omega) (by omega)) ?_
  refine sn ?_
  refine loop_next ((i_10 + (1 : Int), l_11 ++ ss[i_10.toNat]!)) (by kernel_rfl) (show ((↑ss.length : Int) - (i_10 + (1 : Int))).toNat < ((↑ss.length : Int) - i_10).toNat from (by omega)) (show inv59b ss (i_10 + (1 : Int)) (l_11 ++ ss[i_10.toNat]!) from ?g7); rotate_left 1
  refine st_exit 2 (by kernel_rfl) ?_
  refine q_seq_exit ?_
  refine q_seq_exit ?_
  refine q_blk_hit ?_
  refine sn ?_
  refine sq ?_
  refine rg (A := True) cx [] [2] [24] trivial ?_
  refine sn ?_
  refine st_ret (by kernel_rfl) ?_
  refine qb_own (rows' := (List.map c28 l_11)) .ret (.inr rfl) 2 24 0 (by kernel_rfl) (by kernel_rfl) (by kernel_rfl) ?g8; rotate_left 1
  rotate_left
  revert n_0 i_1 h_3 h_4 h_5 h_6 h_7 h_8; rotate_left
  revert n_0 i_1 h_3 h_4 h_5 h_6 h_7 h_8 h_9; rotate_left
  revert n_0 i_1 h_3 h_4 h_5 h_6 h_7 h_8; rotate_left
  revert n_0 i_1 h_3 h_4 h_5 h_6 h_7 h_8; rotate_left
  revert n_0 i_1 h_3 h_4 h_5 h_6 h_7 h_8 i_10 l_11 h_13 h_14 h_15 h_16; rotate_left
  revert n_0 i_1 h_3 h_4 h_5 h_6 h_7 h_8 i_10 l_11 h_13 h_14 h_15 h_16; rotate_left
  revert n_0 i_1 h_3 h_4 h_5 h_6 h_7 h_8 i_10 l_11 h_13 h_14 h_15 h_16; rotate_left
  revert n_0 i_1 h_3 h_4 h_5 h_6 h_7 h_8 i_10 l_11 h_13 h_14 h_15 h_16; rotate_left
  case g0 => exact inv59a_init ss
  case g1 => intro n i h0 h1 h2 h3 h4 h5; have := cat_len hb h0 h5 h4; omega
  case g2 => intro n i h0 h1 h2 h3 h4 h5 h6; exact inv59a_step hb h0 h5 h2 h4
  case g3 => intro n i h0 h1 h2 h3 h4 h5; exact cat_end hb h4
  case g4 => intros; exact ⟨by omega, by omega, by simp [isCat]⟩
  case g5 => intro n i h0 h1 h2 h3 h4 h5 j l k0 k1 k2 k3; have := cat_app hb k0 k3 k2; simp only [List.length_map, Go.maxLen]; omega
  case g6 => intro n i h0 h1 h2 h3 h4 h5 j l k0 k1 k2 k3; have := cat_app hb k0 k3 k2; simp only [List.length_map]; omega
  case g7 => intro n i h0 h1 h2 h3 h4 h5 j l k0 k1 k2 k3; exact inv59b_step k0 k3 k2
  case g8 => intro n i h0 h1 h2 h3 h4 h5 j l k0 k1 k2 k3; rw [isCat_end k3 k2]
def unionR (a b : List Entry) : List Entry × Int := if okL a = true ∧ okL b = true then onceR (srtE (a ++ b)) else ([], 1)
theorem union_no {a b : List Entry} (h : ¬ lstE a = 0 ∨ ¬ lstE b = 0) : unionR a b = ([], 1) := by
  unfold unionR
  rw [if_neg]
  rintro ⟨h1, h2⟩
  exact h.elim (fun k => lst_no k h1) (fun k => lst_no k h2)
theorem union_ok {a b : List Entry} (h1 : lstE a = 0) (h2 : lstE b = 0) : unionR a b = onceR (srtE (a ++ b)) := by
  unfold unionR
  rw [if_pos ⟨lst_ok h1, lst_ok h2⟩]
theorem union_sort {a b : List Entry} (h1 : lstE a = 0) (h2 : lstE b = 0) : sortR (a ++ b) = unionR a b := by
  rw [union_ok h1 h2]
  refine sortR_ok fun j hj => ?_
  by_cases h : j < a.length
  · have : (a ++ b)[j]! = a[j]! := by rw [getElem!_pos (a ++ b) j hj, getElem!_pos a j h, List.getElem_append_left h]
    rw [this]
    exact (okL_at (lst_ok h1) h).1
  · rw [List.length_append] at hj
    have : (a ++ b)[j]! = b[j - a.length]! := by rw [getElem!_pos (a ++ b) j (by rw [List.length_append]; omega), getElem!_pos b (j - a.length) (by omega), List.getElem_append_right (by omega)]
    rw [this]
    exact (okL_at (lst_ok h2) (by omega)).1
theorem two_len {a b : List Entry} (h1 : lstE a = 0) (h2 : lstE b = 0) : a.length ≤ 16000000000 ∧ b.length ≤ 16000000000 := ⟨okL_len (lst_ok h1), okL_len (lst_ok h2)⟩
theorem two_flat (a b : List Entry) : [a, b].flatten = a ++ b := by simp
theorem both_ok {a b : List Entry} (h : ¬ (¬ lstE a = 0 ∨ ¬ lstE b = 0)) : lstE a = 0 ∧ lstE b = 0 := ⟨Classical.not_not.1 fun k => h (.inl k), Classical.not_not.1 fun k => h (.inr k)⟩
theorem both_len {a b : List Entry} (h : ¬ (¬ lstE a = 0 ∨ ¬ lstE b = 0)) : a.length ≤ 16000000000 ∧ b.length ≤ 16000000000 := two_len (both_ok h).1 (both_ok h).2
theorem both_flat {a b : List Entry} (h : ¬ (¬ lstE a = 0 ∨ ¬ lstE b = 0)) : [a, b].flatten.length * 40 ≤ 140737488351232 := by
  have := both_len h
  rw [two_flat, List.length_append]
  omega
def isSuf0 (a b : List Entry) (i : Int) (l : List Entry) : Prop := l = a ++ b.take i.toNat
theorem isSuf_step {a b l : List Entry} {i : Int} (h0 : 0 ≤ i) (h : i < b.length) (hs : isSuf0 a b i l) : isSuf0 a b (i + 1) (l ++ [b[i.toNat]!]) := by
  unfold isSuf0 at *
  rw [← take_step h0 h, hs, List.append_assoc]
theorem isSuf_end {a b l : List Entry} {i : Int} (h : ¬ i < b.length) (hs : isSuf0 a b i l) : l = a ++ b := by
  unfold isSuf0 at hs
  rw [hs, List.take_of_length_le (by omega)]
theorem bot_union {a b l : List Entry} {i : Int} (hu : ¬ (¬ lstE a = 0 ∨ ¬ lstE b = 0)) (h : ¬ i < b.length) (hs : isSuf0 a b i l) : onceR (botS (leM 0) 1 l) = unionR a b := by
  rw [bot_once, isSuf_end h hs, union_ok (both_ok hu).1 (both_ok hu).2]
theorem union_some : unionR (someL.take 1) (someL.drop 1) = (someL, 0) := by
  have h1 : onceR (srtE (someL.take 1 ++ someL.drop 1)) = onceR someL := onceR_perm ((List.mergeSort_perm _ _).trans (by decide +kernel)) (srtE_rises _) (by unfold risesE; decide +kernel)
  rw [union_ok (by decide +kernel) (by decide +kernel), h1]
  decide +kernel
def inv30a (a : List Entry) (i : Int) (l : List Entry) : Prop := 0 ≤ i ∧ i ≤ a.length ∧ (l.length : Int) = i ∧ isPre a i l
def dec30a (a : List Entry) (i : Int) (l : List Entry) : Nat := (a.length - i).toNat
def inv30b (a b : List Entry) (i : Int) (l : List Entry) : Prop := 0 ≤ i ∧ i ≤ b.length ∧ (l.length : Int) = a.length + i ∧ isSuf0 a b i l
def dec30b (b : List Entry) (i : Int) (l : List Entry) : Nat := (b.length - i).toNat
theorem con29 (a b : List Entry) : Con Try.prog 29 [.sl (a.map c28), .sl (b.map c28)] (.tup [.sl ((unionR a b).1.map c28), .i .i64 (unionR a b).2]) :=
  by
  refine con_lens 0 (c28) (a) (by kernel_rfl) Go.Proofs.Try.func29 (by kernel_rfl) fun hl_0 => ?_
  refine con_lens 1 (c28) (b) (by kernel_rfl) Go.Proofs.Try.func29 (by kernel_rfl) fun hl_1 => ?_
  refine st_con tab_ok (by kernel_rfl) [.tmp 4, .tmp 5] 21 Go.Proofs.Try.func29 (by kernel_rfl) (by kernel_rfl) ?_
  intro e0 cx
  refine sq ?_
  refine rg (A := True) cx [] [0, 1] [] trivial ?_
  refine sn ?_
  refine sq ?_
  refine sq ?_
  refine st_join (σ' := ⟨[(0, .sl (List.map c28 a)), (1, .sl (List.map c28 b)), (13, .b (decide (¬lstE a = (0 : Int) ∨ ¬lstE b = (0 : Int))))], []⟩) ?_ ?_
  refine st_split (¬lstE a = (0 : Int)) (fun h_1 => ?_) (fun h_1 => ?_)
  refine rg (A := _ ∧ (AV.b (lstE a != (0 : Int)) = AV.b true) ∧ (AV.b true = AV.b (decide (¬lstE a = (0 : Int) ∨ ¬lstE b = (0 : Int))))) cx [(1, { val := some (.i .i64 (lstE a)) }), (2, { tell := some (.b (true)) }), (7, { tell := some (.b (decide (¬lstE a = (0 : Int) ∨ ¬lstE b = (0 : Int)))) })] [0, 1, 13] [] ⟨(con16 (a)), (told_neqt h_1), (by simp only [eq_false h_1, told_simp1, told_simp2, and_true, true_and, and_false, false_and, or_true, true_or, or_false, false_or, not_true_eq_false, not_false_eq_true, decide_true, decide_false, Bool.decide_eq_true])⟩ ?_
  exact ⟨rfl, by kernel_rfl⟩
  refine rg (A := _ ∧ (AV.b (lstE a != (0 : Int)) = AV.b (decide ¬lstE a = (0 : Int))) ∧ _ ∧ _ ∧ (AV.b (lstE b != (0 : Int)) = AV.b (decide ¬lstE b = (0 : Int))) ∧ (AV.b (decide ¬lstE b = (0 : Int)) = AV.b (decide (¬lstE a = (0 : Int) ∨ ¬lstE b = (0 : Int))))) cx [(1, { val := some (.i .i64 (lstE a)) }), (2, { tell := some (.b (decide ¬lstE a = (0 : Int))) }), (3, { tell := some (.b (false)) }), (5, { val := some (.i .i64 (lstE b)) }), (6, { tell := some (.b (decide ¬lstE b = (0 : Int))) }), (7, { tell := some (.b (decide (¬lstE a = (0 : Int) ∨ ¬lstE b = (0 : Int)))) })] [0, 1, 13] [] ⟨(con16 (a)), (told_neq), (told_false h_1), (con16 (b)), (told_neq), (by simp only [eq_false h_1, told_simp1, told_simp2, and_true, true_and, and_false, false_and, or_true, true_or, or_false, false_or, not_true_eq_false, not_false_eq_true, decide_true, decide_false, Bool.decide_eq_true])⟩ ?_
  exact ⟨rfl, by kernel_rfl⟩
  refine sn ?_
  refine st_dec (¬lstE a = (0 : Int) ∨ ¬lstE b = (0 : Int)) (by kernel_rfl) (by kernel_rfl) (fun h_2 => ?_) (fun h_2 => ?_)
  refine sq ?_
  refine rg (A := True) cx [] [4, 5] [] trivial ?_
  refine sn ?_
  refine st_ret (by kernel_rfl) ?_
  refine q_seq_ret ?_
  refine q_ret (r := .tup [.nl, .i .i64 ((1 : Int))]) (obl := []) (by kernel_rfl) trivial (AVle.tup (ZLe.cons (AVle.nl' (show List.map c28 (unionR a b).fst = [] from ?g1)) (ZLe.cons (AVle.eq (show AV.i IntKind.i64 (1 : Int) = AV.i IntKind.i64 (unionR a b).snd from ?g0)) ZLe.nil))); rotate_left 2
  refine st_skip (by kernel_rfl) ?_
  refine sn ?_
  refine sq ?_
  have hl_3 := (rng_sortR [a, b].flatten)
  refine rg (A := _ ∧ _) cx [(3, { val := some (.own (28 : Nat) (4 : Nat)), rows := some (List.map c28 [a, b].flatten) }), (4, { val := some (.tup [.sl (List.map c28 (sortR [a, b].flatten).fst), .i .i64 ((sortR [a, b].flatten).snd)]) })] [4, 5] [] ⟨(con59 ([a, b]) ?g2), (con25 ([a, b].flatten) ?g3)⟩ ?_; rotate_left 2
  refine sn ?_
  refine st_ret (by kernel_rfl) ?_
  refine q_ret (r := .tup [.sl (List.map c28 (sortR [a, b].flatten).fst), .i .i64 ((sortR [a, b].flatten).snd)]) (obl := []) (by kernel_rfl) trivial (AVle.tup (ZLe.cons (AVle.eq (show AV.sl (List.map c28 (sortR [a, b].flatten).fst) = AV.sl (List.map c28 (unionR a b).fst) from ?g5)) (ZLe.cons (AVle.eq (show AV.i IntKind.i64 (sortR [a, b].flatten).snd = AV.i IntKind.i64 (unionR a b).snd from ?g4)) ZLe.nil))); rotate_left 2
  revert h_2; rotate_left
  revert h_2; rotate_left
  revert h_2; rotate_left
  revert h_2; rotate_left
  revert h_2; rotate_left
  revert h_2; rotate_left
  case g0 => exact (fun h => by rw [union_no h])
  case g1 => exact (fun h => by rw [union_no h]; rfl)
  case g2 => exact (fun h => Nat.le_trans (both_flat h) (by decide))
  case g3 => exact (fun h => Nat.le_trans (both_flat h) (by decide))
  case g4 => exact (fun h => by rw [two_flat, union_sort (both_ok h).1 (both_ok h).2])
  case g5 => exact (fun h => by rw [two_flat, union_sort (both_ok h).1 (both_ok h).2])
theorem con30 (a b : List Entry) : Con Try.prog 30 [.sl (a.map c28), .sl (b.map c28)] (.tup [.sl ((unionR a b).1.map c28), .i .i64 (unionR a b).2]) :=
  by
  refine con_lens 0 (c28) (a) (by kernel_rfl) Go.Proofs.Try.func30 (by kernel_rfl) fun hl_0 => ?_
  refine con_lens 1 (c28) (b) (by kernel_rfl) Go.Proofs.Try.func30 (by kernel_rfl) fun hl_1 => ?_
  refine st_con tab_ok (by kernel_rfl) [.tmp 4, .tmp 5] 48 Go.Proofs.Try.func30 (by kernel_rfl) (by kernel_rfl) ?_
  intro e0 cx
  refine sq ?_
  refine rg (A := True) cx [] [0, 1] [] trivial ?_
  refine sn ?_
  refine sq ?_
  refine sq ?_
  refine st_join (σ' := ⟨[(0, .sl (List.map c28 a)), (1, .sl (List.map c28 b)), (16, .b (decide (¬lstE a = (0 : Int) ∨ ¬lstE b = (0 : Int))))], []⟩) ?_ ?_
  refine st_split (¬lstE a = (0 : Int)) (fun h_1 => ?_) (fun h_1 => ?_)
  refine rg (A := _ ∧ (AV.b (lstE a != (0 : Int)) = AV.b true) ∧ (AV.b true = AV.b (decide (¬lstE a = (0 : Int) ∨ ¬lstE b = (0 : Int))))) cx [(1, { val := some (.i .i64 (lstE a)) }), (2, { tell := some (.b (true)) }), (7, { tell := some (.b (decide (¬lstE a = (0 : Int) ∨ ¬lstE b = (0 : Int)))) })] [0, 1, 16] [] ⟨(con18 (a)), (told_neqt h_1), (by simp only [eq_false h_1, told_simp1, told_simp2, and_true, true_and, and_false, false_and, or_true, true_or, or_false, false_or, not_true_eq_false, not_false_eq_true, decide_true, decide_false, Bool.decide_eq_true])⟩ ?_
  exact ⟨rfl, by kernel_rfl⟩
  refine rg (A := _ ∧ (AV.b (lstE a != (0 : Int)) = AV.b (decide ¬lstE a = (0 : Int))) ∧ _ ∧ _ ∧ (AV.b (lstE b != (0 : Int)) = AV.b (decide ¬lstE b = (0 : Int))) ∧ (AV.b (decide ¬lstE b = (0 : Int)) = AV.b (decide (¬lstE a = (0 : Int) ∨ ¬lstE b = (0 : Int))))) cx [(1, { val := some (.i .i64 (lstE a)) }), (2, { tell := some (.b (decide ¬lstE a = (0 : Int))) }), (3, { tell := some (.b (false)) }), (5, { val := some (.i .i64 (lstE b)) }), (6, { tell := some (.b (decide ¬lstE b = (0 : Int))) }), (7, { tell := some (.b (decide (¬lstE a = (0 : Int) ∨ ¬lstE b = (0 : Int)))) })] [0, 1, 16] [] ⟨(con18 (a)), (told_neq), (told_false h_1), (con18 (b)), (told_neq), (by simp only [eq_false h_1, told_simp1, told_simp2, and_true, true_and, and_false, false_and, or_true, true_or, or_false, false_or, not_true_eq_false, not_false_eq_true, decide_true, decide_false, Bool.decide_eq_true])⟩ ?_
  exact ⟨rfl, by kernel_rfl⟩
  refine sn ?_
  refine st_dec (¬lstE a = (0 : Int) ∨ ¬lstE b = (0 : Int)) (by kernel_rfl) (by kernel_rfl) (fun h_2 => ?_) (fun h_2 => ?_)
  refine sq ?_
  refine rg (A := True) cx [] [4, 5] [] trivial ?_
  refine sn ?_
  refine st_ret (by kernel_rfl) ?_
  refine q_seq_ret ?_
  refine q_ret (r := .tup [.nl, .i .i64 ((1 : Int))]) (obl := []) (by kernel_rfl) trivial (AVle.tup (ZLe.cons (AVle.nl' (show List.map c28 (unionR a b).fst = [] from ?g1)) (ZLe.cons (AVle.eq (show AV.i IntKind.i64 (1 : Int) = AV.i IntKind.i64 (unionR a b).snd from ?g0)) ZLe.nil))); rotate_left 2
  refine st_skip (by kernel_rfl) ?_
  refine sn ?_
  refine sq ?_
  refine rg (A := True) cx [] [0, 1, 6] [] trivial ?_
  refine sn ?_
  refine sq ?_
  refine sq ?_
  refine rg (A := True) cx [] [0, 1, 6, 7] [] trivial ?_
  refine sn ?_
  refine st_block 0 (by kernel_rfl) ?_
  refine awp_adopt 6 1006 28 4 (σ' := ⟨[(0, .sl (List.map c28 a)), (1, .sl (List.map c28 b)), (6, .own 1006 0), (7, .i .i64 ((0 : Int)))], [(1006, ⟨0, 28, .row 4 (List.map c28 [])⟩)]⟩) (by kernel_rfl) ?_
  refine st_loop (X := Int × List Entry) (fun x => ⟨[(0, .sl (List.map c28 a)), (1, .sl (List.map c28 b)), (6, .own 1006 0), (7, .i .i64 (x.fst))], [(1006, ⟨0, 28, .row 4 (List.map c28 x.snd)⟩)]⟩) (fun x ↦ dec30a a x.fst x.snd) (fun x ↦ inv30a a x.fst x.snd) [0, 1, 6, 7] [1006] (((0 : Int), [])) (by kernel_rfl) (by kernel_rfl) (show inv30a a (0 : Int) [] from ?g2) ?_; rotate_left 1
  rintro ⟨i_3, l_4⟩ h_5
  obtain ⟨h_6, h_7, h_8, h_9⟩ : (0 : Int) ≤ i_3 ∧ i_3 ≤ (↑a.length : Int) ∧ (↑l_4.length : Int) = i_3 ∧ isPre a i_3 l_4 := h_5
  refine sq ?_
  refine sq ?_
  refine rg (A := _ ∧ (AV.b (decide (i_3 < (↑a.length : Int))) = AV.b (decide (i_3 < (↑a.length : Int))))) cx [(2, { tell := some (.i .i64 ((↑a.length : Int))) }), (3, { tell := some (.b (decide (i_3 < (↑a.length : Int)))) })] [0, 1, 6, 7, 20] [1006] ⟨(told_len c28 a), (by kernel_rfl)⟩ ?_
  refine sn ?_
  refine st_dec (i_3 < (↑a.length : Int)) (by kernel_rfl) (by kernel_rfl) (fun h_10 => ?_) (fun h_10 => ?_)
  refine st_skip (by kernel_rfl) ?_
  refine sn ?_
  refine sq ?_
  refine st_block 1 (by kernel_rfl) ?_
  refine rg (A := ((0 : Int) ≤ i_3) ∧ ((List.map c28 a)[i_3.toNat]? = some (c28 a[i_3.toNat]!)) ∧ ((c28 a[i_3.toNat]!).length = (4 : Nat)) ∧ ((4 : Nat) ≤ [AV.i IntKind.i64 a[i_3.toNat]!.dot.rep, AV.i IntKind.i64 a[i_3.toNat]!.dot.num, AV.s a[i_3.toNat]!.sku, AV.i IntKind.i64 a[i_3.toNat]!.qty].length) ∧ (28 = (28 : Nat)) ∧ ((4 : Nat) = 4) ∧ ([AV.i IntKind.i64 (0 : Int), AV.i IntKind.i64 (0 : Int), AV.s { data := #[] : ByteArray }, AV.i IntKind.i64 (0 : Int)].length = (4 : Nat)) ∧ (∀ (r : List AV), r ∈ List.map c28 [a[i_3.toNat]!] → r.length = 4) ∧ ((List.map c28 l_4).length + (List.map c28 [a[i_3.toNat]!]).length ≤ maxLen) ∧ (((List.map c28 l_4).length + (List.map c28 [a[i_3.toNat]!]).length) * (40 : Nat) ≤ (140737488355328 : Nat)) ∧ (List.map c28 l_4 ++ List.map c28 [a[i_3.toNat]!] = List.map c28 (l_4 ++ [a[i_3.toNat]!]))) cx [(3, { row := (c28 a[i_3.toNat]!) }), (6, { rows := some (List.map c28 (l_4 ++ [a[i_3.toNat]!])) })] [0, 1, 6, 7] [1006] ⟨(by (with_reducible assumption)), (by (with_reducible refine get_map ?_; omega)), (by kernel_rfl), (by (simp only [List.length_append, List.length_cons, List.length_nil]; omega)), (by kernel_rfl), (by kernel_rfl), (by kernel_rfl), (by (with_reducible refine len_map (fun _ => ?_) _; kernel_rfl)), (by (simp only [Go.maxLen, List.length_map, List.length_append, List.length_cons, List.length_nil]; omega)), ?g3, (by (with_reducible refine app_map ?_; kernel_rfl))⟩ ?_; rotate_left 1
  refine q_blk_normal ?_
  refine sn ?_
  refine rg (A := (AV.i IntKind.i64 (IntKind.i64.wrap (i_3 + (1 : Int))) = AV.i IntKind.i64 (i_3 + (1 : Int)))) cx [(1, { tell := some (.i .i64 (i_3 + (1 : Int))) })] [0, 1, 6, 7] [1006] (told_i64 (by omega) (by omega)) ?_
  refine sn ?_
  refine loop_next ((i_3 + (1 : Int), l_4 ++ [a[i_3.toNat]!])) (by kernel_rfl) (show ((↑a.length : Int) - (i_3 + (1 : Int))).toNat < ((↑a.length : Int) - i_3).toNat from (by omega)) (show inv30a a (i_3 + (1 : Int)) (l_4 ++ [a[i_3.toNat]!]) from ?g4); rotate_left 1
  refine st_exit 0 (by kernel_rfl) ?_
  refine q_seq_exit ?_
  refine q_seq_exit ?_
  refine q_blk_hit ?_
  refine sn ?_
  refine sq ?_
  refine sq ?_
  refine rg (A := True) cx [] [1, 6, 8] [1006] trivial ?_
  refine sn ?_
  refine st_block 2 (by kernel_rfl) ?_
  refine st_loop (X := Int × List Entry) (fun x => ⟨[(1, .sl (List.map c28 b)), (6, .own 1006 0), (8, .i .i64 (x.fst))], [(1006, ⟨0, 28, .row 4 (List.map c28 x.snd)⟩)]⟩) (fun x ↦ dec30b b x.fst x.snd) (fun x ↦ inv30b a b x.fst x.snd) [1, 6, 8] [1006] (((0 : Int), l_4)) (by kernel_rfl) (by kernel_rfl) (show inv30b a b (0 : Int) l_4 from ?g5) ?_; rotate_left 1
  rintro ⟨i_11, l_12⟩ h_13
  obtain ⟨h_14, h_15, h_16, h_17⟩ : (0 : Int) ≤ i_11 ∧ i_11 ≤ (↑b.length : Int) ∧ (↑l_12.length : Int) = (↑a.length : Int) + i_11 ∧ isSuf0 a b i_11 l_12 := h_13
  refine sq ?_
  refine sq ?_
  refine rg (A := _ ∧ (AV.b (decide (i_11 < (↑b.length : Int))) = AV.b (decide (i_11 < (↑b.length : Int))))) cx [(2, { tell := some (.i .i64 ((↑b.length : Int))) }), (3, { tell := some (.b (decide (i_11 < (↑b.length : Int)))) })] [1, 6, 8, 33] [1006] ⟨(told_len c28 b), (by kernel_rfl)⟩ ?_
  refine sn ?_
  refine st_dec (i_11 < (↑b.length : Int)) (by kernel_rfl) (by kernel_rfl) (fun h_18 => ?_) (fun h_18 => ?_)
  refine st_skip (by kernel_rfl) ?_
  refine sn ?_
  refine sq ?_
  refine st_block 3 (by kernel_rfl) ?_
  refine rg (A := ((0 : Int) ≤ i_11) ∧ ((List.map c28 b)[i_11.toNat]? = some (c28 b[i_11.toNat]!)) ∧ ((c28 b[i_11.toNat]!).length = (4 : Nat)) ∧ ((4 : Nat) ≤ [AV.i IntKind.i64 b[i_11.toNat]!.dot.rep, AV.i IntKind.i64 b[i_11.toNat]!.dot.num, AV.s b[i_11.toNat]!.sku, AV.i IntKind.i64 b[i_11.toNat]!.qty].length) ∧ (28 = (28 : Nat)) ∧ ((4 : Nat) = 4) ∧ ([AV.i IntKind.i64 (0 : Int), AV.i IntKind.i64 (0 : Int), AV.s { data := #[] : ByteArray }, AV.i IntKind.i64 (0 : Int)].length = (4 : Nat)) ∧ (∀ (r : List AV), r ∈ List.map c28 [b[i_11.toNat]!] → r.length = 4) ∧ ((List.map c28 l_12).length + (List.map c28 [b[i_11.toNat]!]).length ≤ maxLen) ∧ (((List.map c28 l_12).length + (List.map c28 [b[i_11.toNat]!]).length) * (40 : Nat) ≤ (140737488355328 : Nat)) ∧ (List.map c28 l_12 ++ List.map c28 [b[i_11.toNat]!] = List.map c28 (l_12 ++ [b[i_11.toNat]!]))) cx [(3, { row := (c28 b[i_11.toNat]!) }), (6, { rows := some (List.map c28 (l_12 ++ [b[i_11.toNat]!])) })] [1, 6, 8] [1006] ⟨(by (with_reducible assumption)), (by (with_reducible refine get_map ?_; omega)), (by kernel_rfl), (by (simp only [List.length_append, List.length_cons, List.length_nil]; omega)), (by kernel_rfl), (by kernel_rfl), (by kernel_rfl), (by (with_reducible refine len_map (fun _ => ?_) _; kernel_rfl)), ?g6, ?g7, (by (with_reducible refine app_map ?_; kernel_rfl))⟩ ?_; rotate_left 2
  refine q_blk_normal ?_
  refine sn ?_
  refine rg (A := (AV.i IntKind.i64 (IntKind.i64.wrap (i_11 + (1 : Int))) = AV.i IntKind.i64 (i_11 + (1 : Int)))) cx [(1, { tell := some (.i .i64 (i_11 + (1 : Int))) })] [1, 6, 8] [1006] (told_i64 (by omega) (by omega)) ?_
  refine sn ?_
  refine loop_next ((i_11 + (1 : Int), l_12 ++ [b[i_11.toNat]!])) (by kernel_rfl) (show ((↑b.length : Int) - (i_11 + (1 : Int))).toNat < ((↑b.length : Int) - i_11).toNat from (by omega)) (show inv30b a b (i_11 + (1 : Int)) (l_12 ++ [b[i_11.toNat]!]) from ?g8); rotate_left 1
  refine st_exit 2 (by kernel_rfl) ?_
  refine q_seq_exit ?_
  refine q_seq_exit ?_
  refine q_blk_hit ?_
  refine sn ?_
  refine sq ?_
  have hl_19 := (rng_onceR (botS (leM (0 : Int)) (1 : Nat) l_12))
  refine rg (A := _ ∧ _) cx [(1, { val := some (.sl (List.map c28 (botS (leM (0 : Int)) (1 : Nat) l_12))) }), (2, { val := some (.tup [.sl (List.map c28 (onceR (botS (leM (0 : Int)) (1 : Nat) l_12)).fst), .i .i64 ((onceR (botS (leM (0 : Int)) (1 : Nat) l_12)).snd)]) })] [4, 5] [] ⟨(con58 (l_12) ((0 : Int)) ?g9), (con57 (botS (leM (0 : Int)) (1 : Nat) l_12) ?g10)⟩ ?_; rotate_left 2
  refine sn ?_
  refine st_ret (by kernel_rfl) ?_
  refine q_ret (r := .tup [.sl (List.map c28 (onceR (botS (leM (0 : Int)) (1 : Nat) l_12)).fst), .i .i64 ((onceR (botS (leM (0 : Int)) (1 : Nat) l_12)).snd)]) (obl := []) (by kernel_rfl) trivial (AVle.tup (ZLe.cons (AVle.eq (show AV.sl (List.map c28 (onceR (botS (leM (0 : Int)) (1 : Nat) l_12)).fst) = AV.sl (List.map c28 (unionR a b).fst) from ?g12)) (ZLe.cons (AVle.eq (show AV.i IntKind.i64 (onceR (botS (leM (0 : Int)) (1 : Nat) l_12)).snd = AV.i IntKind.i64 (unionR a b).snd from ?g11)) ZLe.nil))); rotate_left 2
  revert h_2; rotate_left
  revert h_2; rotate_left
  revert h_2; rotate_left
  revert h_2 i_3 l_4 h_6 h_7 h_8 h_9 h_10; rotate_left
  revert h_2 i_3 l_4 h_6 h_7 h_8 h_9 h_10; rotate_left
  revert h_2 i_3 l_4 h_6 h_7 h_8 h_9 h_10; rotate_left
  revert h_2 i_3 l_4 h_6 h_7 h_8 h_9 h_10 i_11 l_12 h_14 h_15 h_16 h_17 h_18; rotate_left
  revert h_2 i_3 l_4 h_6 h_7 h_8 h_9 h_10 i_11 l_12 h_14 h_15 h_16 h_17 h_18; rotate_left
  revert h_2 i_3 l_4 h_6 h_7 h_8 h_9 h_10 i_11 l_12 h_14 h_15 h_16 h_17 h_18; rotate_left
  clear hl_19; revert h_2 i_3 l_4 h_6 h_7 h_8 h_9 h_10 i_11 l_12 h_14 h_15 h_16 h_17 h_18; rotate_left
  clear hl_19; revert h_2 i_3 l_4 h_6 h_7 h_8 h_9 h_10 i_11 l_12 h_14 h_15 h_16 h_17 h_18; rotate_left
  clear hl_19; revert h_2 i_3 l_4 h_6 h_7 h_8 h_9 h_10 i_11 l_12 h_14 h_15 h_16 h_17 h_18; rotate_left
  clear hl_19; revert h_2 i_3 l_4 h_6 h_7 h_8 h_9 h_10 i_11 l_12 h_14 h_15 h_16 h_17 h_18; rotate_left
  case g0 => intro h; rw [union_no h]
  case g1 => intro h; rw [union_no h]; rfl
  case g2 => intro h; exact ⟨by omega, by omega, by simp, by simp [isPre]⟩
  case g3 => intro h i l h0 h1 h2 h3 h4; have := both_len h; simp only [List.length_map, List.length_cons, List.length_nil]; omega
  case g4 => intro h i l h0 h1 h2 h3 h4; exact ⟨by omega, by omega, by simp; omega, by unfold isPre at *; rw [h3, take_step h0 h4]⟩
  case g5 => intro h i l h0 h1 h2 h3 h4; exact ⟨by omega, by omega, by omega, by unfold isSuf0; unfold isPre at h3; rw [h3, List.take_of_length_le (by omega)]; simp⟩
  case g6 => intro h i l h0 h1 h2 h3 h4 j m k0 k1 k2 k3 k4; have := both_len h; simp only [List.length_map, List.length_cons, List.length_nil, Go.maxLen]; omega
  case g7 => intro h i l h0 h1 h2 h3 h4 j m k0 k1 k2 k3 k4; have := both_len h; simp only [List.length_map, List.length_cons, List.length_nil]; omega
  case g8 => intro h i l h0 h1 h2 h3 h4 j m k0 k1 k2 k3 k4; exact ⟨by omega, by omega, by rw [List.length_append]; simp only [List.length_cons, List.length_nil]; omega, isSuf_step k0 k4 k3⟩
  case g9 => intro h i l h0 h1 h2 h3 h4 j m k0 k1 k2 k3 k4; have := both_len h; omega
  case g10 => intro h i l h0 h1 h2 h3 h4 j m k0 k1 k2 k3 k4; have := both_len h; rw [bot_len]; omega
  case g11 => intro h i l h0 h1 h2 h3 h4 j m k0 k1 k2 k3 k4; rw [bot_union h k4 k3]
  case g12 => intro h i l h0 h1 h2 h3 h4 j m k0 k1 k2 k3 k4; rw [bot_union h k4 k3]
theorem con7 (c : Case) : Con Try.prog 7 [.agg (c38 c)] (.b true) :=
  by
  refine st_con tab_ok (by kernel_rfl) [.tmp 2] 47 Go.Proofs.Try.func7 (by kernel_rfl) (by kernel_rfl) ?_
  intro e0 cx
  refine sq ?_
  refine rg (A := True) cx [] [1] [1] trivial ?_
  refine sn ?_
  refine sq ?_
  refine ra (A := _ ∧ ((0 : Int) ≤ (0 : Int)) ∧ ((0 : Int) ≤ (1 : Int)) ∧ ((1 : Int) ≤ (↑(List.map c28 someL).length : Int)) ∧ (∀ (r : List AV), r ∈ List.map c28 someL → r.length = (4 : Nat)) ∧ _ ∧ ((0 : Int) ≤ (1 : Int)) ∧ ((1 : Int) ≤ none.getD (↑(List.map c28 someL).length : Int)) ∧ (none.getD (↑(List.map c28 someL).length : Int) ≤ (↑(List.map c28 someL).length : Int)) ∧ (∀ (r : List AV), r ∈ List.map c28 someL → r.length = (4 : Nat)) ∧ _) cx [(0, { val := some (resC (con17 )) }), (2, { val := some (resC (con17 )) }), (4, { val := some (resC (con29 ([{ dot := { rep := (0 : Int), num := (3 : Int) : Dot }, sku := { dot := { rep := (0 : Int), num := (3 : Int) : Dot }, sku := { data := #[(65 : UInt8)] : ByteArray }, qty := (5 : Int) : Entry }.sku, qty := (5 : Int) : Entry }]) ([{ dot := { rep := (1 : Int), num := (1 : Int) : Dot }, sku := { dot := { rep := (1 : Int), num := (1 : Int) : Dot }, sku := { data := #[(66 : UInt8)] : ByteArray }, qty := (2 : Int) : Entry }.sku, qty := (2 : Int) : Entry }, { dot := { rep := (1 : Int), num := (4 : Int) : Dot }, sku := { dot := { rep := (1 : Int), num := (4 : Int) : Dot }, sku := { data := #[(65 : UInt8)] : ByteArray }, qty := (1 : Int) : Entry }.sku, qty := (1 : Int) : Entry }]))) })] [1, 3, 4] [1] ⟨(con17 ), (by omega), (by omega), ?g0, (by (with_reducible refine len_map (fun _ => ?_) _; kernel_rfl)), (con17 ), (by omega), ?g1, ?g2, (by (with_reducible refine len_map (fun _ => ?_) _; kernel_rfl)), (con29 ([{ dot := { rep := (0 : Int), num := (3 : Int) : Dot }, sku := { dot := { rep := (0 : Int), num := (3 : Int) : Dot }, sku := { data := #[(65 : UInt8)] : ByteArray }, qty := (5 : Int) : Entry }.sku, qty := (5 : Int) : Entry }]) ([{ dot := { rep := (1 : Int), num := (1 : Int) : Dot }, sku := { dot := { rep := (1 : Int), num := (1 : Int) : Dot }, sku := { data := #[(66 : UInt8)] : ByteArray }, qty := (2 : Int) : Entry }.sku, qty := (2 : Int) : Entry }, { dot := { rep := (1 : Int), num := (4 : Int) : Dot }, sku := { dot := { rep := (1 : Int), num := (4 : Int) : Dot }, sku := { data := #[(65 : UInt8)] : ByteArray }, qty := (1 : Int) : Entry }.sku, qty := (1 : Int) : Entry }]))⟩ ?_; rotate_left 3
  refine sn ?_
  refine sq ?_
  refine sq ?_
  refine st_join (σ' := ⟨[(1, .ptr (1) (0) (0) (0)), (22, .b (decide (¬(unionR [{ dot := { rep := (0 : Int), num := (3 : Int) : Dot }, sku := { dot := { rep := (0 : Int), num := (3 : Int) : Dot }, sku := { data := #[(65 : UInt8)] : ByteArray }, qty := (5 : Int) : Entry }.sku, qty := (5 : Int) : Entry }] [{ dot := { rep := (1 : Int), num := (1 : Int) : Dot }, sku := { dot := { rep := (1 : Int), num := (1 : Int) : Dot }, sku := { data := #[(66 : UInt8)] : ByteArray }, qty := (2 : Int) : Entry }.sku, qty := (2 : Int) : Entry }, { dot := { rep := (1 : Int), num := (4 : Int) : Dot }, sku := { dot := { rep := (1 : Int), num := (4 : Int) : Dot }, sku := { data := #[(65 : UInt8)] : ByteArray }, qty := (1 : Int) : Entry }.sku, qty := (1 : Int) : Entry }]).snd = (0 : Int) ∨ ¬(unionR [{ dot := { rep := (0 : Int), num := (3 : Int) : Dot }, sku := { dot := { rep := (0 : Int), num := (3 : Int) : Dot }, sku := { data := #[(65 : UInt8)] : ByteArray }, qty := (5 : Int) : Entry }.sku, qty := (5 : Int) : Entry }] [{ dot := { rep := (1 : Int), num := (1 : Int) : Dot }, sku := { dot := { rep := (1 : Int), num := (1 : Int) : Dot }, sku := { data := #[(66 : UInt8)] : ByteArray }, qty := (2 : Int) : Entry }.sku, qty := (2 : Int) : Entry }, { dot := { rep := (1 : Int), num := (4 : Int) : Dot }, sku := { dot := { rep := (1 : Int), num := (4 : Int) : Dot }, sku := { data := #[(65 : UInt8)] : ByteArray }, qty := (1 : Int) : Entry }.sku, qty := (1 : Int) : Entry }]).fst = someL)))], [(1, ⟨0, 38, .var [.sl (List.map c28 c.a), .sl (List.map c28 c.b), .sl (List.map c3 c.p.vec), .sl (List.map c81 c.p.cloud), .i .i64 (c.d.rep), .i .i64 (c.d.num), .i .i64 (c.rep), .s (c.sku)]⟩)]⟩) ?_ ?_
  refine st_split (¬(unionR [{ dot := { rep := (0 : Int), num := (3 : Int) : Dot }, sku := { dot := { rep := (0 : Int), num := (3 : Int) : Dot }, sku := { data := #[(65 : UInt8)] : ByteArray }, qty := (5 : Int) : Entry }.sku, qty := (5 : Int) : Entry }] [{ dot := { rep := (1 : Int), num := (1 : Int) : Dot }, sku := { dot := { rep := (1 : Int), num := (1 : Int) : Dot }, sku := { data := #[(66 : UInt8)] : ByteArray }, qty := (2 : Int) : Entry }.sku, qty := (2 : Int) : Entry }, { dot := { rep := (1 : Int), num := (4 : Int) : Dot }, sku := { dot := { rep := (1 : Int), num := (4 : Int) : Dot }, sku := { data := #[(65 : UInt8)] : ByteArray }, qty := (1 : Int) : Entry }.sku, qty := (1 : Int) : Entry }]).snd = (0 : Int)) (fun h_1 => ?_) (fun h_1 => ?_)
  refine rg (A := (AV.b ((unionR [{ dot := { rep := (0 : Int), num := (3 : Int) : Dot }, sku := { dot := { rep := (0 : Int), num := (3 : Int) : Dot }, sku := { data := #[(65 : UInt8)] : ByteArray }, qty := (5 : Int) : Entry }.sku, qty := (5 : Int) : Entry }] [{ dot := { rep := (1 : Int), num := (1 : Int) : Dot }, sku := { dot := { rep := (1 : Int), num := (1 : Int) : Dot }, sku := { data := #[(66 : UInt8)] : ByteArray }, qty := (2 : Int) : Entry }.sku, qty := (2 : Int) : Entry }, { dot := { rep := (1 : Int), num := (4 : Int) : Dot }, sku := { dot := { rep := (1 : Int), num := (4 : Int) : Dot }, sku := { data := #[(65 : UInt8)] : ByteArray }, qty := (1 : Int) : Entry }.sku, qty := (1 : Int) : Entry }]).snd != (0 : Int)) = AV.b true) ∧ (AV.b true = AV.b (decide (¬(unionR [{ dot := { rep := (0 : Int), num := (3 : Int) : Dot }, sku := { dot := { rep := (0 : Int), num := (3 : Int) : Dot }, sku := { data := #[(65 : UInt8)] : ByteArray }, qty := (5 : Int) : Entry }.sku, qty := (5 : Int) : Entry }] [{ dot := { rep := (1 : Int), num := (1 : Int) : Dot }, sku := { dot := { rep := (1 : Int), num := (1 : Int) : Dot }, sku := { data := #[(66 : UInt8)] : ByteArray }, qty := (2 : Int) : Entry }.sku, qty := (2 : Int) : Entry }, { dot := { rep := (1 : Int), num := (4 : Int) : Dot }, sku := { dot := { rep := (1 : Int), num := (4 : Int) : Dot }, sku := { data := #[(65 : UInt8)] : ByteArray }, qty := (1 : Int) : Entry }.sku, qty := (1 : Int) : Entry }]).snd = (0 : Int) ∨ ¬(unionR [{ dot := { rep := (0 : Int), num := (3 : Int) : Dot }, sku := { dot := { rep := (0 : Int), num := (3 : Int) : Dot }, sku := { data := #[(65 : UInt8)] : ByteArray }, qty := (5 : Int) : Entry }.sku, qty := (5 : Int) : Entry }] [{ dot := { rep := (1 : Int), num := (1 : Int) : Dot }, sku := { dot := { rep := (1 : Int), num := (1 : Int) : Dot }, sku := { data := #[(66 : UInt8)] : ByteArray }, qty := (2 : Int) : Entry }.sku, qty := (2 : Int) : Entry }, { dot := { rep := (1 : Int), num := (4 : Int) : Dot }, sku := { dot := { rep := (1 : Int), num := (4 : Int) : Dot }, sku := { data := #[(65 : UInt8)] : ByteArray }, qty := (1 : Int) : Entry }.sku, qty := (1 : Int) : Entry }]).fst = someL)))) cx [(1, { tell := some (.b (true)) }), (7, { tell := some (.b (decide (¬(unionR [{ dot := { rep := (0 : Int), num := (3 : Int) : Dot }, sku := { dot := { rep := (0 : Int), num := (3 : Int) : Dot }, sku := { data := #[(65 : UInt8)] : ByteArray }, qty := (5 : Int) : Entry }.sku, qty := (5 : Int) : Entry }] [{ dot := { rep := (1 : Int), num := (1 : Int) : Dot }, sku := { dot := { rep := (1 : Int), num := (1 : Int) : Dot }, sku := { data := #[(66 : UInt8)] : ByteArray }, qty := (2 : Int) : Entry }.sku, qty := (2 : Int) : Entry }, { dot := { rep := (1 : Int), num := (4 : Int) : Dot }, sku := { dot := { rep := (1 : Int), num := (4 : Int) : Dot }, sku := { data := #[(65 : UInt8)] : ByteArray }, qty := (1 : Int) : Entry }.sku, qty := (1 : Int) : Entry }]).snd = (0 : Int) ∨ ¬(unionR [{ dot := { rep := (0 : Int), num := (3 : Int) : Dot }, sku := { dot := { rep := (0 : Int), num := (3 : Int) : Dot }, sku := { data := #[(65 : UInt8)] : ByteArray }, qty := (5 : Int) : Entry }.sku, qty := (5 : Int) : Entry }] [{ dot := { rep := (1 : Int), num := (1 : Int) : Dot }, sku := { dot := { rep := (1 : Int), num := (1 : Int) : Dot }, sku := { data := #[(66 : UInt8)] : ByteArray }, qty := (2 : Int) : Entry }.sku, qty := (2 : Int) : Entry }, { dot := { rep := (1 : Int), num := (4 : Int) : Dot }, sku := { dot := { rep := (1 : Int), num := (4 : Int) : Dot }, sku := { data := #[(65 : UInt8)] : ByteArray }, qty := (1 : Int) : Entry }.sku, qty := (1 : Int) : Entry }]).fst = someL))) })] [1, 22] [1] ⟨(told_neqt h_1), (by simp only [eq_false h_1, told_simp1, told_simp2, and_true, true_and, and_false, false_and, or_true, true_or, or_false, false_or, not_true_eq_false, not_false_eq_true, decide_true, decide_false, Bool.decide_eq_true])⟩ ?_
  exact ⟨rfl, by kernel_rfl⟩
  refine rg (A := (AV.b ((unionR [{ dot := { rep := (0 : Int), num := (3 : Int) : Dot }, sku := { dot := { rep := (0 : Int), num := (3 : Int) : Dot }, sku := { data := #[(65 : UInt8)] : ByteArray }, qty := (5 : Int) : Entry }.sku, qty := (5 : Int) : Entry }] [{ dot := { rep := (1 : Int), num := (1 : Int) : Dot }, sku := { dot := { rep := (1 : Int), num := (1 : Int) : Dot }, sku := { data := #[(66 : UInt8)] : ByteArray }, qty := (2 : Int) : Entry }.sku, qty := (2 : Int) : Entry }, { dot := { rep := (1 : Int), num := (4 : Int) : Dot }, sku := { dot := { rep := (1 : Int), num := (4 : Int) : Dot }, sku := { data := #[(65 : UInt8)] : ByteArray }, qty := (1 : Int) : Entry }.sku, qty := (1 : Int) : Entry }]).snd != (0 : Int)) = AV.b (decide ¬(unionR [{ dot := { rep := (0 : Int), num := (3 : Int) : Dot }, sku := { dot := { rep := (0 : Int), num := (3 : Int) : Dot }, sku := { data := #[(65 : UInt8)] : ByteArray }, qty := (5 : Int) : Entry }.sku, qty := (5 : Int) : Entry }] [{ dot := { rep := (1 : Int), num := (1 : Int) : Dot }, sku := { dot := { rep := (1 : Int), num := (1 : Int) : Dot }, sku := { data := #[(66 : UInt8)] : ByteArray }, qty := (2 : Int) : Entry }.sku, qty := (2 : Int) : Entry }, { dot := { rep := (1 : Int), num := (4 : Int) : Dot }, sku := { dot := { rep := (1 : Int), num := (4 : Int) : Dot }, sku := { data := #[(65 : UInt8)] : ByteArray }, qty := (1 : Int) : Entry }.sku, qty := (1 : Int) : Entry }]).snd = (0 : Int))) ∧ _ ∧ _ ∧ _ ∧ ((AV.b !decide ((unionR [{ dot := { rep := (0 : Int), num := (3 : Int) : Dot }, sku := { dot := { rep := (0 : Int), num := (3 : Int) : Dot }, sku := { data := #[(65 : UInt8)] : ByteArray }, qty := (5 : Int) : Entry }.sku, qty := (5 : Int) : Entry }] [{ dot := { rep := (1 : Int), num := (1 : Int) : Dot }, sku := { dot := { rep := (1 : Int), num := (1 : Int) : Dot }, sku := { data := #[(66 : UInt8)] : ByteArray }, qty := (2 : Int) : Entry }.sku, qty := (2 : Int) : Entry }, { dot := { rep := (1 : Int), num := (4 : Int) : Dot }, sku := { dot := { rep := (1 : Int), num := (4 : Int) : Dot }, sku := { data := #[(65 : UInt8)] : ByteArray }, qty := (1 : Int) : Entry }.sku, qty := (1 : Int) : Entry }]).fst = someL)) = AV.b (decide ¬(unionR [{ dot := { rep := (0 : Int), num := (3 : Int) : Dot }, sku := { dot := { rep := (0 : Int), num := (3 : Int) : Dot }, sku := { data := #[(65 : UInt8)] : ByteArray }, qty := (5 : Int) : Entry }.sku, qty := (5 : Int) : Entry }] [{ dot := { rep := (1 : Int), num := (1 : Int) : Dot }, sku := { dot := { rep := (1 : Int), num := (1 : Int) : Dot }, sku := { data := #[(66 : UInt8)] : ByteArray }, qty := (2 : Int) : Entry }.sku, qty := (2 : Int) : Entry }, { dot := { rep := (1 : Int), num := (4 : Int) : Dot }, sku := { dot := { rep := (1 : Int), num := (4 : Int) : Dot }, sku := { data := #[(65 : UInt8)] : ByteArray }, qty := (1 : Int) : Entry }.sku, qty := (1 : Int) : Entry }]).fst = someL)) ∧ (AV.b (decide ¬(unionR [{ dot := { rep := (0 : Int), num := (3 : Int) : Dot }, sku := { dot := { rep := (0 : Int), num := (3 : Int) : Dot }, sku := { data := #[(65 : UInt8)] : ByteArray }, qty := (5 : Int) : Entry }.sku, qty := (5 : Int) : Entry }] [{ dot := { rep := (1 : Int), num := (1 : Int) : Dot }, sku := { dot := { rep := (1 : Int), num := (1 : Int) : Dot }, sku := { data := #[(66 : UInt8)] : ByteArray }, qty := (2 : Int) : Entry }.sku, qty := (2 : Int) : Entry }, { dot := { rep := (1 : Int), num := (4 : Int) : Dot }, sku := { dot := { rep := (1 : Int), num := (4 : Int) : Dot }, sku := { data := #[(65 : UInt8)] : ByteArray }, qty := (1 : Int) : Entry }.sku, qty := (1 : Int) : Entry }]).fst = someL) = AV.b (decide (¬(unionR [{ dot := { rep := (0 : Int), num := (3 : Int) : Dot }, sku := { dot := { rep := (0 : Int), num := (3 : Int) : Dot }, sku := { data := #[(65 : UInt8)] : ByteArray }, qty := (5 : Int) : Entry }.sku, qty := (5 : Int) : Entry }] [{ dot := { rep := (1 : Int), num := (1 : Int) : Dot }, sku := { dot := { rep := (1 : Int), num := (1 : Int) : Dot }, sku := { data := #[(66 : UInt8)] : ByteArray }, qty := (2 : Int) : Entry }.sku, qty := (2 : Int) : Entry }, { dot := { rep := (1 : Int), num := (4 : Int) : Dot }, sku := { dot := { rep := (1 : Int), num := (4 : Int) : Dot }, sku := { data := #[(65 : UInt8)] : ByteArray }, qty := (1 : Int) : Entry }.sku, qty := (1 : Int) : Entry }]).snd = (0 : Int) ∨ ¬(unionR [{ dot := { rep := (0 : Int), num := (3 : Int) : Dot }, sku := { dot := { rep := (0 : Int), num := (3 : Int) : Dot }, sku := { data := #[(65 : UInt8)] : ByteArray }, qty := (5 : Int) : Entry }.sku, qty := (5 : Int) : Entry }] [{ dot := { rep := (1 : Int), num := (1 : Int) : Dot }, sku := { dot := { rep := (1 : Int), num := (1 : Int) : Dot }, sku := { data := #[(66 : UInt8)] : ByteArray }, qty := (2 : Int) : Entry }.sku, qty := (2 : Int) : Entry }, { dot := { rep := (1 : Int), num := (4 : Int) : Dot }, sku := { dot := { rep := (1 : Int), num := (4 : Int) : Dot }, sku := { data := #[(65 : UInt8)] : ByteArray }, qty := (1 : Int) : Entry }.sku, qty := (1 : Int) : Entry }]).fst = someL)))) cx [(1, { tell := some (.b (decide ¬(unionR [{ dot := { rep := (0 : Int), num := (3 : Int) : Dot }, sku := { dot := { rep := (0 : Int), num := (3 : Int) : Dot }, sku := { data := #[(65 : UInt8)] : ByteArray }, qty := (5 : Int) : Entry }.sku, qty := (5 : Int) : Entry }] [{ dot := { rep := (1 : Int), num := (1 : Int) : Dot }, sku := { dot := { rep := (1 : Int), num := (1 : Int) : Dot }, sku := { data := #[(66 : UInt8)] : ByteArray }, qty := (2 : Int) : Entry }.sku, qty := (2 : Int) : Entry }, { dot := { rep := (1 : Int), num := (4 : Int) : Dot }, sku := { dot := { rep := (1 : Int), num := (4 : Int) : Dot }, sku := { data := #[(65 : UInt8)] : ByteArray }, qty := (1 : Int) : Entry }.sku, qty := (1 : Int) : Entry }]).snd = (0 : Int))) }), (2, { tell := some (.b (false)) }), (4, { val := some (resC (con17 )) }), (5, { val := some (.b (decide ((unionR [{ dot := { rep := (0 : Int), num := (3 : Int) : Dot }, sku := { dot := { rep := (0 : Int), num := (3 : Int) : Dot }, sku := { data := #[(65 : UInt8)] : ByteArray }, qty := (5 : Int) : Entry }.sku, qty := (5 : Int) : Entry }] [{ dot := { rep := (1 : Int), num := (1 : Int) : Dot }, sku := { dot := { rep := (1 : Int), num := (1 : Int) : Dot }, sku := { data := #[(66 : UInt8)] : ByteArray }, qty := (2 : Int) : Entry }.sku, qty := (2 : Int) : Entry }, { dot := { rep := (1 : Int), num := (4 : Int) : Dot }, sku := { dot := { rep := (1 : Int), num := (4 : Int) : Dot }, sku := { data := #[(65 : UInt8)] : ByteArray }, qty := (1 : Int) : Entry }.sku, qty := (1 : Int) : Entry }]).fst = someL))) }), (6, { tell := some (.b (decide ¬(unionR [{ dot := { rep := (0 : Int), num := (3 : Int) : Dot }, sku := { dot := { rep := (0 : Int), num := (3 : Int) : Dot }, sku := { data := #[(65 : UInt8)] : ByteArray }, qty := (5 : Int) : Entry }.sku, qty := (5 : Int) : Entry }] [{ dot := { rep := (1 : Int), num := (1 : Int) : Dot }, sku := { dot := { rep := (1 : Int), num := (1 : Int) : Dot }, sku := { data := #[(66 : UInt8)] : ByteArray }, qty := (2 : Int) : Entry }.sku, qty := (2 : Int) : Entry }, { dot := { rep := (1 : Int), num := (4 : Int) : Dot }, sku := { dot := { rep := (1 : Int), num := (4 : Int) : Dot }, sku := { data := #[(65 : UInt8)] : ByteArray }, qty := (1 : Int) : Entry }.sku, qty := (1 : Int) : Entry }]).fst = someL)) }), (7, { tell := some (.b (decide (¬(unionR [{ dot := { rep := (0 : Int), num := (3 : Int) : Dot }, sku := { dot := { rep := (0 : Int), num := (3 : Int) : Dot }, sku := { data := #[(65 : UInt8)] : ByteArray }, qty := (5 : Int) : Entry }.sku, qty := (5 : Int) : Entry }] [{ dot := { rep := (1 : Int), num := (1 : Int) : Dot }, sku := { dot := { rep := (1 : Int), num := (1 : Int) : Dot }, sku := { data := #[(66 : UInt8)] : ByteArray }, qty := (2 : Int) : Entry }.sku, qty := (2 : Int) : Entry }, { dot := { rep := (1 : Int), num := (4 : Int) : Dot }, sku := { dot := { rep := (1 : Int), num := (4 : Int) : Dot }, sku := { data := #[(65 : UInt8)] : ByteArray }, qty := (1 : Int) : Entry }.sku, qty := (1 : Int) : Entry }]).snd = (0 : Int) ∨ ¬(unionR [{ dot := { rep := (0 : Int), num := (3 : Int) : Dot }, sku := { dot := { rep := (0 : Int), num := (3 : Int) : Dot }, sku := { data := #[(65 : UInt8)] : ByteArray }, qty := (5 : Int) : Entry }.sku, qty := (5 : Int) : Entry }] [{ dot := { rep := (1 : Int), num := (1 : Int) : Dot }, sku := { dot := { rep := (1 : Int), num := (1 : Int) : Dot }, sku := { data := #[(66 : UInt8)] : ByteArray }, qty := (2 : Int) : Entry }.sku, qty := (2 : Int) : Entry }, { dot := { rep := (1 : Int), num := (4 : Int) : Dot }, sku := { dot := { rep := (1 : Int), num := (4 : Int) : Dot }, sku := { data := #[(65 : UInt8)] : ByteArray }, qty := (1 : Int) : Entry }.sku, qty := (1 : Int) : Entry }]).fst = someL))) })] [1, 22] [1] ⟨(told_neq), (told_false h_1), (con17 ), (con24 ((unionR [{ dot := { rep := (0 : Int), num := (3 : Int) : Dot }, sku := { dot := { rep := (0 : Int), num := (3 : Int) : Dot }, sku := { data := #[(65 : UInt8)] : ByteArray }, qty := (5 : Int) : Entry }.sku, qty := (5 : Int) : Entry }] [{ dot := { rep := (1 : Int), num := (1 : Int) : Dot }, sku := { dot := { rep := (1 : Int), num := (1 : Int) : Dot }, sku := { data := #[(66 : UInt8)] : ByteArray }, qty := (2 : Int) : Entry }.sku, qty := (2 : Int) : Entry }, { dot := { rep := (1 : Int), num := (4 : Int) : Dot }, sku := { dot := { rep := (1 : Int), num := (4 : Int) : Dot }, sku := { data := #[(65 : UInt8)] : ByteArray }, qty := (1 : Int) : Entry }.sku, qty := (1 : Int) : Entry }]).fst) (someL)), (told_notd), (by simp only [eq_false h_1, told_simp1, told_simp2, and_true, true_and, and_false, false_and, or_true, true_or, or_false, false_or, not_true_eq_false, not_false_eq_true, decide_true, decide_false, Bool.decide_eq_true])⟩ ?_
  exact ⟨rfl, by kernel_rfl⟩
  refine sn ?_
  refine st_dec (¬(unionR [{ dot := { rep := (0 : Int), num := (3 : Int) : Dot }, sku := { dot := { rep := (0 : Int), num := (3 : Int) : Dot }, sku := { data := #[(65 : UInt8)] : ByteArray }, qty := (5 : Int) : Entry }.sku, qty := (5 : Int) : Entry }] [{ dot := { rep := (1 : Int), num := (1 : Int) : Dot }, sku := { dot := { rep := (1 : Int), num := (1 : Int) : Dot }, sku := { data := #[(66 : UInt8)] : ByteArray }, qty := (2 : Int) : Entry }.sku, qty := (2 : Int) : Entry }, { dot := { rep := (1 : Int), num := (4 : Int) : Dot }, sku := { dot := { rep := (1 : Int), num := (4 : Int) : Dot }, sku := { data := #[(65 : UInt8)] : ByteArray }, qty := (1 : Int) : Entry }.sku, qty := (1 : Int) : Entry }]).snd = (0 : Int) ∨ ¬(unionR [{ dot := { rep := (0 : Int), num := (3 : Int) : Dot }, sku := { dot := { rep := (0 : Int), num := (3 : Int) : Dot }, sku := { data := #[(65 : UInt8)] : ByteArray }, qty := (5 : Int) : Entry }.sku, qty := (5 : Int) : Entry }] [{ dot := { rep := (1 : Int), num := (1 : Int) : Dot }, sku := { dot := { rep := (1 : Int), num := (1 : Int) : Dot }, sku := { data := #[(66 : UInt8)] : ByteArray }, qty := (2 : Int) : Entry }.sku, qty := (2 : Int) : Entry }, { dot := { rep := (1 : Int), num := (4 : Int) : Dot }, sku := { dot := { rep := (1 : Int), num := (4 : Int) : Dot }, sku := { data := #[(65 : UInt8)] : ByteArray }, qty := (1 : Int) : Entry }.sku, qty := (1 : Int) : Entry }]).fst = someL) (by kernel_rfl) (by kernel_rfl) (fun h_2 => ?_) (fun h_2 => ?_)
  refine sq ?_
  refine rg (A := True) cx [] [2] [] trivial ?_
  refine sn ?_
  refine st_ret (by kernel_rfl) ?_
  refine q_seq_ret ?_
  refine q_ret (r := .b (false)) (obl := []) (by kernel_rfl) trivial (AVle.eq (show AV.b false = AV.b true from ?g3)); rotate_left 1
  refine st_skip (by kernel_rfl) ?_
  refine sn ?_
  refine sq ?_
  refine rg (A := _) cx [(4, { val := some (resC (con30 (c.a) (c.b))) })] [1, 5, 6] [1] (con30 (c.a) (c.b)) ?_
  refine sn ?_
  refine sq ?_
  refine rg (A := _) cx [(4, { val := some (resC (con29 (c.a) (c.b))) })] [5, 6, 3, 4] [] (con29 (c.a) (c.b)) ?_
  refine sn ?_
  refine sq ?_
  refine rg (A := (AV.b ((unionR c.a c.b).snd == (unionR c.a c.b).snd) = AV.b true) ∧ _) cx [(2, { tell := some (.b (true)) }), (6, { val := some (.b (decide ((unionR c.a c.b).fst = (unionR c.a c.b).fst))) })] [2] [] ⟨(told_ies), (con24 ((unionR c.a c.b).fst) ((unionR c.a c.b).fst))⟩ ?_
  refine sn ?_
  refine st_ret (by kernel_rfl) ?_
  refine q_ret (r := .b (decide ((unionR c.a c.b).fst = (unionR c.a c.b).fst))) (obl := []) (by kernel_rfl) trivial (AVle.eq (show AV.b (decide ((unionR c.a c.b).fst = (unionR c.a c.b).fst)) = AV.b true from ?g4)); rotate_left 1
  rotate_left
  rotate_left
  rotate_left
  revert h_2; rotate_left
  revert h_2; rotate_left
  case g0 => exact (by decide)
  case g1 => exact (by decide)
  case g2 => exact (by decide)
  case g3 => exact (fun h => by
    have e := union_some
    simp only [someL, List.take_succ_cons, List.take_zero, List.drop_succ_cons, List.drop_zero] at e
    rw [e] at h
    rcases h with h | h
    · exact absurd rfl h
    · exact absurd rfl h)
  case g4 => exact (fun h => by rw [decide_eq_true rfl])
end Go.Proofs.Ytjngmlkaijpbgaa
namespace Go.Proofs.Ytjngmlkaijpbgaa
open Go.E
set_option maxRecDepth 100000
set_option maxHeartbeats 4000000
theorem rises_up {s : List Entry} (h : upE s) : risesE s := h.imp fun {a b} hab => by
  simp only [ltE]
  cases hc : dLt b.dot a.dot
  · rfl
  · exact absurd (dLt_trans hab hc) (dLt_irr _)
theorem onceN_up {s : List Entry} (h : upE s) : ∀ n : Nat, n ≤ s.length → onceN s n = some (s.take n)
  | 0, _ => by simp [onceN]
  | n + 1, hn => by
    have ih := onceN_up h n (by omega)
    have hp := List.pairwise_iff_getElem.1 h
    have hd : n = 0 ∨ ¬ s[n - 1]!.dot = s[n]!.dot := by
      by_cases e : n = 0
      · exact .inl e
      · refine .inr fun k => ?_
        have := hp (n - 1) n (by omega) (by omega) (by omega)
        rw [getElem!_pos s (n - 1) (by omega), getElem!_pos s n (by omega)] at k
        rw [k] at this
        exact dLt_irr _ this
    rw [onceN, ih]
    simp only
    rw [if_pos hd, getElem!_pos s n (by omega), ← List.take_succ_eq_append_getElem (by omega)]
theorem once_form {es : List Entry} (h : upE es) : onceR es = (es, 0) := by
  unfold onceR
  rw [onceN_up h es.length (Nat.le_refl _), List.take_length]
theorem rises_le {s : List Entry} (hs : risesE s) {i j : Nat} (hij : i < j) (hj : j < s.length) : ¬ dLt s[j]!.dot s[i]!.dot = true := by
  have := List.pairwise_iff_getElem.1 hs i j (by omega) hj hij
  rw [← getElem!_pos s i (by omega), ← getElem!_pos s j hj] at this
  simpa [ltE] using this
theorem once_up {s : List Entry} (hs : risesE s) : ∀ (n : Nat) (l : List Entry), n ≤ s.length → onceN s n = some l → upE l ∧ ∀ e, e ∈ l ↔ e ∈ s.take n
  | 0, l, _, h => by
    simp only [onceN, Option.some.injEq] at h
    subst h
    exact ⟨List.Pairwise.nil, fun e => by simp⟩
  | n + 1, l, hn, h => by
    rw [onceN] at h
    split at h
    · cases h
    · rename_i l0 h0
      obtain ⟨i1, i2⟩ := once_up hs n l0 (by omega) h0
      have et : s.take (n + 1) = s.take n ++ [s[n]!] := by rw [getElem!_pos s n (by omega), ← List.take_succ_eq_append_getElem (by omega)]
      split at h
      · rename_i hc
        simp only [Option.some.injEq] at h
        subst h
        refine ⟨List.pairwise_append.2 ⟨i1, by simp, fun x hx y hy => ?_⟩, fun e => ?_⟩
        · have : y = s[n]! := by simpa using hy
          subst this
          obtain ⟨i, hi, rfl⟩ := List.mem_iff_getElem.1 ((i2 x).1 hx)
          rw [List.length_take] at hi
          rw [List.getElem_take, ← getElem!_pos s i (by omega)]
          have h1 := rises_le hs (i := i) (j := n) (by omega) (by omega)
          apply Classical.byContradiction
          intro h2
          have hd := dLt_total h2 h1
          rcases hc with hc | hc
          · omega
          · by_cases ei : i = n - 1
            · subst ei; exact hc hd
            · have h3 := rises_le hs (i := i) (j := n - 1) (by omega) (by omega)
              have h4 := rises_le hs (i := n - 1) (j := n) (by omega) (by omega)
              rw [hd] at h3
              exact hc (dLt_total h3 h4)
        · rw [List.mem_append, et, List.mem_append, i2]
      · rename_i hc
        split at h
        · rename_i he
          simp only [Option.some.injEq] at h
          subst h
          refine ⟨i1, fun e => ?_⟩
          rw [et, List.mem_append, i2]
          constructor
          · exact fun k => .inl k
          · rintro (k | k)
            · exact k
            · have hn0 : ¬ n = 0 := fun k0 => hc (.inl k0)
              have : e = s[n - 1]! := by rw [he]; simpa using k
              subst this
              have hlt : n - 1 < (s.take n).length := by rw [List.length_take]; omega
              have := List.getElem_mem hlt
              rw [List.getElem_take, ← getElem!_pos s (n - 1) (by omega)] at this
              exact this
        · cases h
theorem once_some {s : List Entry} (hc : ∀ x ∈ s, ∀ y ∈ s, x.dot = y.dot → x = y) : ∀ n : Nat, n ≤ s.length → ∃ l, onceN s n = some l
  | 0, _ => ⟨[], rfl⟩
  | n + 1, hn => by
    obtain ⟨l, hl⟩ := once_some hc n (by omega)
    rw [onceN, hl]
    simp only
    split
    · exact ⟨_, rfl⟩
    · rename_i h
      rw [if_pos]
      · exact ⟨_, rfl⟩
      · refine hc _ (bang_mem (by omega)) _ (bang_mem (by omega)) ?_
        apply Classical.byContradiction
        exact fun k => h (.inr k)
theorem srt_mem (es : List Entry) (e : Entry) : e ∈ srtE es ↔ e ∈ es := (List.mergeSort_perm es _).mem_iff
def agreeE (a b : List Entry) : Prop := ∀ x ∈ a, ∀ y ∈ b, x.dot = y.dot → x = y
/-- What Union answers of lists in form that agree: the list in form of what is in either. -/
theorem union_mem {a b : List Entry} (ha : formE a) (hb : formE b) (hc : agreeE a b) : ∃ l, unionR a b = (l, 0) ∧ formE l ∧ ∀ e, e ∈ l ↔ e ∈ a ∨ e ∈ b := by
  rw [union_ok ((lst_iff a).2 ha) ((lst_iff b).2 hb)]
  have hall : ∀ x ∈ srtE (a ++ b), ∀ y ∈ srtE (a ++ b), x.dot = y.dot → x = y := by
    intro x hx y hy hd
    rw [srt_mem, List.mem_append] at hx hy
    rcases hx with hx | hx <;> rcases hy with hy | hy
    · exact formE_dot ha hx hy hd
    · exact hc x hx y hy hd
    · exact (hc y hy x hx hd.symm).symm
    · exact formE_dot hb hx hy hd
  obtain ⟨l, hl⟩ := once_some hall _ (Nat.le_refl _)
  obtain ⟨h1, h2⟩ := once_up (srtE_rises _) _ l (Nat.le_refl _) hl
  have h3 : ∀ e, e ∈ l ↔ e ∈ a ∨ e ∈ b := fun e => by rw [h2, List.take_length, srt_mem, List.mem_append]
  refine ⟨l, by unfold onceR; rw [hl], ⟨fun e he => ?_, h1⟩, h3⟩
  rcases (h3 e).1 he with k | k
  · exact ha.1 e k
  · exact hb.1 e k
theorem union_clash {a b : List Entry} (ha : formE a) (hb : formE b) (hc : ¬ agreeE a b) : unionR a b = ([], 10) := by
  rw [union_ok ((lst_iff a).2 ha) ((lst_iff b).2 hb)]
  unfold onceR
  cases hl : onceN (srtE (a ++ b)) (srtE (a ++ b)).length with
  | none => rfl
  | some l =>
    refine absurd (fun x hx y hy hd => ?_) hc
    have hx' : x ∈ srtE (a ++ b) := by rw [srt_mem, List.mem_append]; exact .inl hx
    have hy' : y ∈ srtE (a ++ b) := by rw [srt_mem, List.mem_append]; exact .inr hy
    obtain ⟨i, hi, rfl⟩ := List.mem_iff_getElem.1 hx'
    obtain ⟨j, hj, rfl⟩ := List.mem_iff_getElem.1 hy'
    have cl := clash_once (srtE_rises _) hl
    rw [← getElem!_pos _ i hi, ← getElem!_pos _ j hj] at hd ⊢
    rcases Nat.le_total i j with hij | hij
    · exact cl i j hij hj hd
    · exact (cl j i hij hi hd.symm).symm
/-- The union of lists in form is what has just their entries and is in form. -/
theorem union_eq {a b l : List Entry} (ha : formE a) (hb : formE b) (hl : formE l) (h : ∀ e, e ∈ l ↔ e ∈ a ∨ e ∈ b) : unionR a b = (l, 0) := by
  obtain ⟨m, h1, h2, h3⟩ := union_mem ha hb fun x hx y hy hd => formE_dot hl ((h x).2 (.inl hx)) ((h y).2 (.inr hy)) hd
  rw [h1, upE_unique h2.2 hl.2 fun e => (h3 e).trans (h e).symm]
end Go.Proofs.Ytjngmlkaijpbgaa
namespace Go.Proofs.Ytjngmlkaijpbgaa
open Go.E
set_option maxRecDepth 100000
set_option maxHeartbeats 4000000
theorem upE_nodup {l : List Entry} (h : upE l) : l.Nodup := h.imp fun {a b} hab e => by rw [e] at hab; exact dLt_irr _ hab
theorem find_none {b : List Entry} {d : Dot} (h : ¬ (findE b d).2 = true) : ∀ y ∈ b, ¬ y.dot = d := by
  unfold findE at h
  cases hf : b.find? (fun e => decide (e.dot = d)) with
  | some y => rw [hf] at h; exact absurd rfl h
  | none =>
    rw [List.find?_eq_none] at hf
    intro y hy
    simpa using hf y hy
theorem fold_perm {a b : List Entry} (ha : lstE a = 0) (hb : lstE b = 0) (hd : ∀ x ∈ a, ∀ y ∈ b, ¬ y.dot = x.dot) : ∃ u, unionR a b = (u, 0) ∧ lstE u = 0 ∧ u.Perm (a ++ b) := by
  have fa := (lst_iff a).1 ha
  have fb := (lst_iff b).1 hb
  obtain ⟨u, h1, h2, h3⟩ := union_mem fa fb fun x hx y hy h => absurd h.symm (hd x hx y hy)
  refine ⟨u, h1, (lst_iff u).2 h2, (List.perm_ext_iff_of_nodup (upE_nodup h2.2) ?_).2 fun e => by rw [h3, List.mem_append]⟩
  rw [List.nodup_append]
  exact ⟨upE_nodup fa.2, upE_nodup fb.2, fun x hx y hy e => hd x hx y hy (by rw [e])⟩
theorem lineOf_app (a b : List Entry) (s : ByteArray) : (lineOf (a ++ b) s).qty = (lineOf a s).qty + (lineOf b s).qty ∧ (lineOf (a ++ b) s).parts = (lineOf a s).parts + (lineOf b s).parts := by
  unfold lineOf ofSku
  rw [List.filter_append, sumE_app, List.length_append]
  exact ⟨rfl, by simp only; omega⟩
theorem line_good {a : List Entry} {s : ByteArray} (h : lstE a = 0) (g : good s = true) : (lineR a s).2 = 0 ∧ (lineR a s).1.qty = (lineOf a s).qty ∧ (lineR a s).1.parts = (lineOf a s).parts := by
  unfold lineR
  rw [if_pos h, if_pos g]
  split
  · rename_i k
    unfold lineOf
    rw [k]
    exact ⟨rfl, rfl, rfl⟩
  · exact ⟨rfl, rfl, rfl⟩
theorem line_small {a : List Entry} {s : ByteArray} (h : lstE a = 0) (g : good s = true) : 0 ≤ (lineR a s).1.qty ∧ (lineR a s).1.qty ≤ 16000000000000000 ∧ 0 ≤ (lineR a s).1.parts ∧ (lineR a s).1.parts ≤ 16000000000 := by
  obtain ⟨_, h1, h2⟩ := line_good h g
  have h3 := line_bound h (l := a) (fun e he => he) s
  have h4 := okL_len (lst_ok h)
  rw [h1, h2]
  omega
theorem tot_small {a : List Entry} (h : lstE a = 0) : 0 ≤ sumE a ∧ sumE a ≤ 16000000000000000 := by
  have h3 := sumE_bound (okL_mem h)
  have h4 := okL_len (lst_ok h)
  omega
def noCom (a b : List Entry) (i : Int) : Prop := ∀ j : Nat, (j : Int) < i → ¬ (findE b a[j]!.dot).2 = true
def invC (a b : List Entry) (i : Int) : Prop := 0 ≤ i ∧ i ≤ a.length ∧ noCom a b i
def decC (a : List Entry) (i : Int) : Nat := (a.length - i).toNat
theorem noCom_all {a b : List Entry} {i : Int} (h : noCom a b i) (hi : ¬ i < a.length) : ∀ x ∈ a, ∀ y ∈ b, ¬ y.dot = x.dot := fun x hx => by
  obtain ⟨j, hj, rfl⟩ := List.mem_iff_getElem.1 hx
  have := h j (by omega)
  rw [getElem!_pos a j hj] at this
  exact find_none this
theorem both_form {a b : List Entry} (h : ¬ (¬ lstE a = 0 ∨ ¬ lstE b = 0)) : lstE a = 0 ∧ lstE b = 0 := ⟨Classical.not_not.1 fun k => h (.inl k), Classical.not_not.1 fun k => h (.inr k)⟩
theorem fold_all {a b : List Entry} {i : Int} (h : ¬ (¬ lstE a = 0 ∨ ¬ lstE b = 0)) (h2 : noCom a b i) (h3 : ¬ i < a.length) : ∃ u, unionR a b = (u, 0) ∧ lstE u = 0 ∧ u.Perm (a ++ b) :=
  fold_perm (both_form h).1 (both_form h).2 (noCom_all h2 h3)
theorem u_good {u : List Entry} (h : lstE u = 0) {i : Int} (h0 : 0 ≤ i) (h1 : i < u.length) : good u[i.toNat]!.sku = true := ent_good (okL_mem h _ (bang_mem (by omega)))
theorem con12 (a b : List Entry) (ha : a.length * 40 ≤ 140737488351232) (hb : b.length * 40 ≤ 140737488351232) : Con Try.prog 12 [.sl (a.map c28), .sl (b.map c28)] (.b true) :=
  by
  refine con_lens 0 (c28) (a) (by kernel_rfl) Go.Proofs.Try.func12 (by kernel_rfl) fun hl_0 => ?_
  refine con_lens 1 (c28) (b) (by kernel_rfl) Go.Proofs.Try.func12 (by kernel_rfl) fun hl_1 => ?_
  refine st_con tab_ok (by kernel_rfl) [.tmp 4] 163 Go.Proofs.Try.func12 (by kernel_rfl) (by kernel_rfl) ?_
  intro e0 cx
  refine sq ?_
  refine rg (A := True) cx [] [0, 1] [] trivial ?_
  refine sn ?_
  refine sq ?_
  refine sq ?_
  refine rg (A := _) cx [(0, { val := some (.b (true)) })] [0, 1, 26] [] (con31 ) ?_
  refine sn ?_
  refine st_false (by kernel_rfl) (by kernel_rfl) ?_
  refine st_skip (by kernel_rfl) ?_
  refine sn ?_
  refine sq ?_
  refine sq ?_
  refine st_join (σ' := ⟨[(0, .sl (List.map c28 a)), (1, .sl (List.map c28 b)), (34, .b (decide (¬lstE a = (0 : Int) ∨ ¬lstE b = (0 : Int))))], []⟩) ?_ ?_
  refine st_split (¬lstE a = (0 : Int)) (fun h_1 => ?_) (fun h_1 => ?_)
  refine rg (A := _ ∧ (AV.b (lstE a != (0 : Int)) = AV.b true) ∧ (AV.b true = AV.b (decide (¬lstE a = (0 : Int) ∨ ¬lstE b = (0 : Int))))) cx [(1, { val := some (.i .i64 (lstE a)) }), (2, { tell := some (.b (true)) }), (7, { tell := some (.b (decide (¬lstE a = (0 : Int) ∨ ¬lstE b = (0 : Int)))) })] [0, 1, 34] [] ⟨(con18 (a)), (told_neqt h_1), (by simp only [eq_false h_1, told_simp1, told_simp2, and_true, true_and, and_false, false_and, or_true, true_or, or_false, false_or, not_true_eq_false, not_false_eq_true, decide_true, decide_false, Bool.decide_eq_true])⟩ ?_
  exact ⟨rfl, by kernel_rfl⟩
  refine rg (A := _ ∧ (AV.b (lstE a != (0 : Int)) = AV.b (decide ¬lstE a = (0 : Int))) ∧ _ ∧ _ ∧ (AV.b (lstE b != (0 : Int)) = AV.b (decide ¬lstE b = (0 : Int))) ∧ (AV.b (decide ¬lstE b = (0 : Int)) = AV.b (decide (¬lstE a = (0 : Int) ∨ ¬lstE b = (0 : Int))))) cx [(1, { val := some (.i .i64 (lstE a)) }), (2, { tell := some (.b (decide ¬lstE a = (0 : Int))) }), (3, { tell := some (.b (false)) }), (5, { val := some (.i .i64 (lstE b)) }), (6, { tell := some (.b (decide ¬lstE b = (0 : Int))) }), (7, { tell := some (.b (decide (¬lstE a = (0 : Int) ∨ ¬lstE b = (0 : Int)))) })] [0, 1, 34] [] ⟨(con18 (a)), (told_neq), (told_false h_1), (con18 (b)), (told_neq), (by simp only [eq_false h_1, told_simp1, told_simp2, and_true, true_and, and_false, false_and, or_true, true_or, or_false, false_or, not_true_eq_false, not_false_eq_true, decide_true, decide_false, Bool.decide_eq_true])⟩ ?_
  exact ⟨rfl, by kernel_rfl⟩
  refine sn ?_
  refine st_dec (¬lstE a = (0 : Int) ∨ ¬lstE b = (0 : Int)) (by kernel_rfl) (by kernel_rfl) (fun h_2 => ?_) (fun h_2 => ?_)
  refine sq ?_
  refine rg (A := True) cx [] [4] [] trivial ?_
  refine sn ?_
  refine st_ret (by kernel_rfl) ?_
  refine q_seq_ret ?_
  exact q_ret (r := .b (true)) (obl := []) (by kernel_rfl) trivial (AVle.refl _)
  refine st_skip (by kernel_rfl) ?_
  refine sn ?_
  refine sq ?_
  refine sq ?_
  refine rg (A := _) cx [(1, { tell := some (.i .i64 ((↑a.length : Int))) })] [0, 1, 35, 36, 37] [] (told_len c28 a) ?_
  refine sn ?_
  refine st_block 0 (by kernel_rfl) ?_
  refine st_loop (X := Int) (fun x => ⟨[(0, .sl (List.map c28 a)), (1, .sl (List.map c28 b)), (35, .sl (List.map c28 a)), (36, .i .i64 ((↑a.length : Int))), (37, .i .i64 (x))], []⟩) (fun x ↦ decC a x) (fun x ↦ invC a b x) [0, 1, 35, 36, 37] [] ((0 : Int)) (by kernel_rfl) (by kernel_rfl) (show invC a b (0 : Int) from ?g0) ?_; rotate_left 1
  intro i_3 h_4
  obtain ⟨h_5, h_6, h_7⟩ : (0 : Int) ≤ i_3 ∧ i_3 ≤ (↑a.length : Int) ∧ noCom a b i_3 := h_4
  refine sq ?_
  refine rg (A := (AV.b (decide (i_3 < (↑a.length : Int))) = AV.b (decide (i_3 < (↑a.length : Int))))) cx [(0, { tell := some (.b (decide (i_3 < (↑a.length : Int)))) })] [0, 1, 35, 36, 37, 38] [] (by kernel_rfl) ?_
  refine sn ?_
  refine sq ?_
  refine st_dec (i_3 < (↑a.length : Int)) (by kernel_rfl) (by kernel_rfl) (fun h_8 => ?_) (fun h_8 => ?_)
  refine st_skip (by kernel_rfl) ?_
  refine sn ?_
  refine sq ?_
  refine st_block 1 (by kernel_rfl) ?_
  refine sq ?_
  refine rg (A := ((0 : Int) ≤ i_3) ∧ ((List.map c28 a)[i_3.toNat]? = some (c28 a[i_3.toNat]!)) ∧ ((c28 a[i_3.toNat]!).length = (4 : Nat)) ∧ ((4 : Nat) ≤ [AV.i IntKind.i64 a[i_3.toNat]!.dot.rep, AV.i IntKind.i64 a[i_3.toNat]!.dot.num, AV.s a[i_3.toNat]!.sku, AV.i IntKind.i64 a[i_3.toNat]!.qty].length)) cx [(0, { row := (c28 a[i_3.toNat]!) })] [0, 1, 35, 36, 37, 6] [6] ⟨(by (with_reducible assumption)), (by (with_reducible refine get_map ?_; omega)), (by kernel_rfl), (by (simp only [List.length_append, List.length_cons, List.length_nil]; omega))⟩ ?_
  refine sn ?_
  refine sq ?_
  refine rg (A := _) cx [(3, { val := some (resC (con27 (b) (a[i_3.toNat]!.dot))) })] [0, 1, 35, 36, 37, 8] [] (con27 (b) (a[i_3.toNat]!.dot)) ?_
  refine sn ?_
  refine sq ?_
  refine rg (A := True) cx [] [0, 1, 35, 36, 37, 48] [] trivial ?_
  refine sn ?_
  refine st_cond ((findE b a[i_3.toNat]!.dot).snd) (by kernel_rfl) (by kernel_rfl) (fun h_9 => ?_) (fun h_9 => ?_)
  refine sq ?_
  refine rg (A := True) cx [] [4] [] trivial ?_
  refine sn ?_
  refine st_ret (by kernel_rfl) ?_
  refine q_blk_ret ?_
  refine q_seq_ret ?_
  refine q_seq_ret ?_
  refine q_blk_ret ?_
  refine q_seq_ret ?_
  exact q_ret (r := .b (true)) (obl := []) (by kernel_rfl) trivial (AVle.refl _)
  refine st_skip (by kernel_rfl) ?_
  refine q_blk_normal ?_
  refine sn ?_
  refine rg (A := (AV.i IntKind.i64 (IntKind.i64.wrap (i_3 + (1 : Int))) = AV.i IntKind.i64 (i_3 + (1 : Int)))) cx [(0, { tell := some (.i .i64 (i_3 + (1 : Int))) })] [0, 1, 35, 36, 37] [] (told_i64 (by omega) (by omega)) ?_
  refine sn ?_
  refine loop_next (i_3 + (1 : Int)) (by kernel_rfl) (show ((↑a.length : Int) - (i_3 + (1 : Int))).toNat < ((↑a.length : Int) - i_3).toNat from (by omega)) (show invC a b (i_3 + (1 : Int)) from ?g1); rotate_left 1
  refine st_exit 0 (by kernel_rfl) ?_
  refine q_seq_exit ?_
  refine q_seq_exit ?_
  refine q_blk_hit ?_
  refine sn ?_
  refine sq ?_
  refine rg (A := _) cx [(2, { val := some (resC (con29 (a) (b))) })] [0, 1, 9, 10] [] (con29 (a) (b)) ?_
  refine sn ?_
  refine sq ?_
  refine sq ?_
  refine st_join (σ' := ⟨[(0, .sl (List.map c28 a)), (1, .sl (List.map c28 b)), (9, .sl (List.map c28 (unionR a b).fst)), (72, .b (decide (¬(unionR a b).snd = (0 : Int) ∨ ¬(↑(unionR a b).fst.length : Int) = (↑a.length : Int) + (↑b.length : Int) ∨ ¬lstE (unionR a b).fst = (0 : Int))))], []⟩) ?_ ?_
  refine st_split (¬(unionR a b).snd = (0 : Int)) (fun h_11 => ?_) (fun h_11 => ?_)
  refine rg (A := (AV.b ((unionR a b).snd != (0 : Int)) = AV.b true) ∧ (AV.b true = AV.b (decide (¬(unionR a b).snd = (0 : Int) ∨ ¬(↑(unionR a b).fst.length : Int) = (↑a.length : Int) + (↑b.length : Int) ∨ ¬lstE (unionR a b).fst = (0 : Int))))) cx [(1, { tell := some (.b (true)) }), (16, { tell := some (.b (decide (¬(unionR a b).snd = (0 : Int) ∨ ¬(↑(unionR a b).fst.length : Int) = (↑a.length : Int) + (↑b.length : Int) ∨ ¬lstE (unionR a b).fst = (0 : Int)))) })] [0, 1, 9, 72] [] ⟨(told_neqt h_11), (by simp only [eq_false h_11, told_simp1, told_simp2, and_true, true_and, and_false, false_and, or_true, true_or, or_false, false_or, not_true_eq_false, not_false_eq_true, decide_true, decide_false, Bool.decide_eq_true])⟩ ?_
  exact ⟨rfl, by kernel_rfl⟩
  refine st_split (¬(↑(unionR a b).fst.length : Int) = (↑a.length : Int) + (↑b.length : Int)) (fun h_12 => ?_) (fun h_12 => ?_)
  refine rg (A := (AV.b ((unionR a b).snd != (0 : Int)) = AV.b (decide ¬(unionR a b).snd = (0 : Int))) ∧ _ ∧ _ ∧ _ ∧ _ ∧ (AV.i IntKind.i64 (IntKind.i64.wrap ((↑a.length : Int) + (↑b.length : Int))) = AV.i IntKind.i64 ((↑a.length : Int) + (↑b.length : Int))) ∧ (AV.b ((↑(unionR a b).fst.length : Int) != (↑a.length : Int) + (↑b.length : Int)) = AV.b true) ∧ (AV.b true = AV.b (decide (¬(unionR a b).snd = (0 : Int) ∨ ¬(↑(unionR a b).fst.length : Int) = (↑a.length : Int) + (↑b.length : Int) ∨ ¬lstE (unionR a b).fst = (0 : Int))))) cx [(1, { tell := some (.b (decide ¬(unionR a b).snd = (0 : Int))) }), (2, { tell := some (.b (false)) }), (4, { tell := some (.i .i64 ((↑(unionR a b).fst.length : Int))) }), (6, { tell := some (.i .i64 ((↑a.length : Int))) }), (8, { tell := some (.i .i64 ((↑b.length : Int))) }), (9, { tell := some (.i .i64 ((↑a.length : Int) + (↑b.length : Int))) }), (10, { tell := some (.b (true)) }), (16, { tell := some (.b (decide (¬(unionR a b).snd = (0 : Int) ∨ ¬(↑(unionR a b).fst.length : Int) = (↑a.length : Int) + (↑b.length : Int) ∨ ¬lstE (unionR a b).fst = (0 : Int)))) })] [0, 1, 9, 72] [] ⟨(told_neq), (told_false h_11), (told_len c28 (unionR a b).fst), (told_len c28 a), (told_len c28 b), (told_i64 (by omega) (by omega)), (told_neqt h_12), (by simp only [eq_false h_11, eq_false h_12, told_simp1, told_simp2, and_true, true_and, and_false, false_and, or_true, true_or, or_false, false_or, not_true_eq_false, not_false_eq_true, decide_true, decide_false, Bool.decide_eq_true])⟩ ?_
  exact ⟨rfl, by kernel_rfl⟩
  refine rg (A := (AV.b ((unionR a b).snd != (0 : Int)) = AV.b (decide ¬(unionR a b).snd = (0 : Int))) ∧ _ ∧ _ ∧ _ ∧ _ ∧ (AV.i IntKind.i64 (IntKind.i64.wrap ((↑a.length : Int) + (↑b.length : Int))) = AV.i IntKind.i64 ((↑a.length : Int) + (↑b.length : Int))) ∧ (AV.b ((↑(unionR a b).fst.length : Int) != (↑a.length : Int) + (↑b.length : Int)) = AV.b (decide ¬(↑(unionR a b).fst.length : Int) = (↑a.length : Int) + (↑b.length : Int))) ∧ _ ∧ _ ∧ (AV.b (lstE (unionR a b).fst != (0 : Int)) = AV.b (decide ¬lstE (unionR a b).fst = (0 : Int))) ∧ (AV.b (decide ¬lstE (unionR a b).fst = (0 : Int)) = AV.b (decide (¬(unionR a b).snd = (0 : Int) ∨ ¬(↑(unionR a b).fst.length : Int) = (↑a.length : Int) + (↑b.length : Int) ∨ ¬lstE (unionR a b).fst = (0 : Int))))) cx [(1, { tell := some (.b (decide ¬(unionR a b).snd = (0 : Int))) }), (2, { tell := some (.b (false)) }), (4, { tell := some (.i .i64 ((↑(unionR a b).fst.length : Int))) }), (6, { tell := some (.i .i64 ((↑a.length : Int))) }), (8, { tell := some (.i .i64 ((↑b.length : Int))) }), (9, { tell := some (.i .i64 ((↑a.length : Int) + (↑b.length : Int))) }), (10, { tell := some (.b (decide ¬(↑(unionR a b).fst.length : Int) = (↑a.length : Int) + (↑b.length : Int))) }), (11, { tell := some (.b (false)) }), (14, { val := some (.i .i64 (lstE (unionR a b).fst)) }), (15, { tell := some (.b (decide ¬lstE (unionR a b).fst = (0 : Int))) }), (16, { tell := some (.b (decide (¬(unionR a b).snd = (0 : Int) ∨ ¬(↑(unionR a b).fst.length : Int) = (↑a.length : Int) + (↑b.length : Int) ∨ ¬lstE (unionR a b).fst = (0 : Int)))) })] [0, 1, 9, 72] [] ⟨(told_neq), (told_false h_11), (told_len c28 (unionR a b).fst), (told_len c28 a), (told_len c28 b), (told_i64 (by omega) (by omega)), (told_neq), (told_false h_12), (con16 ((unionR a b).fst)), (told_neq), (by simp only [eq_false h_11, eq_false h_12, told_simp1, told_simp2, and_true, true_and, and_false, false_and, or_true, true_or, or_false, false_or, not_true_eq_false, not_false_eq_true, decide_true, decide_false, Bool.decide_eq_true])⟩ ?_
  exact ⟨rfl, by kernel_rfl⟩
  refine sn ?_
  refine st_dec (¬(unionR a b).snd = (0 : Int) ∨ ¬(↑(unionR a b).fst.length : Int) = (↑a.length : Int) + (↑b.length : Int) ∨ ¬lstE (unionR a b).fst = (0 : Int)) (by kernel_rfl) (by kernel_rfl) (fun h_13 => ?_) (fun h_13 => ?_)
  refine sq ?_
  refine rg (A := True) cx [] [4] [] trivial ?_
  refine sn ?_
  refine st_ret (by kernel_rfl) ?_
  refine q_seq_ret ?_
  refine q_ret (r := .b (false)) (obl := []) (by kernel_rfl) trivial (AVle.eq (show AV.b false = AV.b true from ?g2)); rotate_left 1
  refine st_skip (by kernel_rfl) ?_
  refine sn ?_
  refine sq ?_
  refine sq ?_
  refine rg (A := _) cx [(1, { tell := some (.i .i64 ((↑(unionR a b).fst.length : Int))) })] [0, 1, 9, 73, 74, 75] [] (told_len c28 (unionR a b).fst) ?_
  refine sn ?_
  refine st_block 2 (by kernel_rfl) ?_
  refine st_loop (X := Int) (fun x => ⟨[(0, .sl (List.map c28 a)), (1, .sl (List.map c28 b)), (9, .sl (List.map c28 (unionR a b).fst)), (73, .sl (List.map c28 (unionR a b).fst)), (74, .i .i64 ((↑(unionR a b).fst.length : Int))), (75, .i .i64 (x))], []⟩) (fun x ↦ decB (unionR a b).fst x) (fun x ↦ invB (unionR a b).fst x) [0, 1, 9, 73, 74, 75] [] ((0 : Int)) (by kernel_rfl) (by kernel_rfl) (show invB (unionR a b).fst (0 : Int) from ?g3) ?_; rotate_left 1
  intro i_14 h_15
  obtain ⟨h_16, h_17⟩ : (0 : Int) ≤ i_14 ∧ i_14 ≤ (↑(unionR a b).fst.length : Int) := h_15
  refine sq ?_
  refine rg (A := (AV.b (decide (i_14 < (↑(unionR a b).fst.length : Int))) = AV.b (decide (i_14 < (↑(unionR a b).fst.length : Int))))) cx [(0, { tell := some (.b (decide (i_14 < (↑(unionR a b).fst.length : Int)))) })] [0, 1, 9, 73, 74, 75, 76] [] (by kernel_rfl) ?_
  refine sn ?_
  refine sq ?_
  refine st_dec (i_14 < (↑(unionR a b).fst.length : Int)) (by kernel_rfl) (by kernel_rfl) (fun h_18 => ?_) (fun h_18 => ?_)
  refine st_skip (by kernel_rfl) ?_
  refine sn ?_
  refine sq ?_
  refine st_block 3 (by kernel_rfl) ?_
  refine sq ?_
  refine rg (A := ((0 : Int) ≤ i_14) ∧ ((List.map c28 (unionR a b).fst)[i_14.toNat]? = some (c28 (unionR a b).fst[i_14.toNat]!)) ∧ ((c28 (unionR a b).fst[i_14.toNat]!).length = (4 : Nat)) ∧ ((4 : Nat) ≤ [AV.i IntKind.i64 (unionR a b).fst[i_14.toNat]!.dot.rep, AV.i IntKind.i64 (unionR a b).fst[i_14.toNat]!.dot.num, AV.s (unionR a b).fst[i_14.toNat]!.sku, AV.i IntKind.i64 (unionR a b).fst[i_14.toNat]!.qty].length)) cx [(0, { row := (c28 (unionR a b).fst[i_14.toNat]!) })] [0, 1, 9, 73, 74, 75, 12] [12] ⟨(by (with_reducible assumption)), (by (with_reducible refine get_map ?_; omega)), (by kernel_rfl), (by (simp only [List.length_append, List.length_cons, List.length_nil]; omega))⟩ ?_
  refine sn ?_
  refine sq ?_
  refine rg (A := _) cx [(3, { val := some (.tup [.agg [.s ((lineR a (unionR a b).fst[i_14.toNat]!.sku).fst.sku), .i .i64 ((lineR a (unionR a b).fst[i_14.toNat]!.sku).fst.qty), .i .i64 ((lineR a (unionR a b).fst[i_14.toNat]!.sku).fst.parts)], .i .i64 ((lineR a (unionR a b).fst[i_14.toNat]!.sku).snd)]) })] [0, 1, 9, 73, 74, 75, 12, 13, 14] [12, 13] (con37 (a) ((unionR a b).fst[i_14.toNat]!.sku) (by (with_reducible assumption))) ?_
  refine sn ?_
  refine sq ?_
  refine rg (A := _) cx [(3, { val := some (.tup [.agg [.s ((lineR b (unionR a b).fst[i_14.toNat]!.sku).fst.sku), .i .i64 ((lineR b (unionR a b).fst[i_14.toNat]!.sku).fst.qty), .i .i64 ((lineR b (unionR a b).fst[i_14.toNat]!.sku).fst.parts)], .i .i64 ((lineR b (unionR a b).fst[i_14.toNat]!.sku).snd)]) })] [0, 1, 9, 73, 74, 75, 12, 13, 14, 15, 16] [12, 13, 15] (con37 (b) ((unionR a b).fst[i_14.toNat]!.sku) (by (with_reducible assumption))) ?_
  refine sn ?_
  refine sq ?_
  refine rg (A := _) cx [(3, { val := some (.tup [.agg [.s ((lineR (unionR a b).fst (unionR a b).fst[i_14.toNat]!.sku).fst.sku), .i .i64 ((lineR (unionR a b).fst (unionR a b).fst[i_14.toNat]!.sku).fst.qty), .i .i64 ((lineR (unionR a b).fst (unionR a b).fst[i_14.toNat]!.sku).fst.parts)], .i .i64 ((lineR (unionR a b).fst (unionR a b).fst[i_14.toNat]!.sku).snd)]) })] [0, 1, 9, 73, 74, 75, 13, 14, 15, 16, 17, 18] [13, 15, 17] (con37 ((unionR a b).fst) ((unionR a b).fst[i_14.toNat]!.sku) ?g4) ?_; rotate_left 1
  refine sn ?_
  refine sq ?_
  refine st_join (σ' := ⟨[(0, .sl (List.map c28 a)), (1, .sl (List.map c28 b)), (9, .sl (List.map c28 (unionR a b).fst)), (73, .sl (List.map c28 (unionR a b).fst)), (74, .i .i64 ((↑(unionR a b).fst.length : Int))), (75, .i .i64 (i_14)), (129, .b (decide (¬(lineR a (unionR a b).fst[i_14.toNat]!.sku).snd = (0 : Int) ∨ ¬(lineR b (unionR a b).fst[i_14.toNat]!.sku).snd = (0 : Int) ∨ ¬(lineR (unionR a b).fst (unionR a b).fst[i_14.toNat]!.sku).snd = (0 : Int) ∨ ¬(lineR (unionR a b).fst (unionR a b).fst[i_14.toNat]!.sku).fst.qty = (lineR a (unionR a b).fst[i_14.toNat]!.sku).fst.qty + (lineR b (unionR a b).fst[i_14.toNat]!.sku).fst.qty ∨ ¬(lineR (unionR a b).fst (unionR a b).fst[i_14.toNat]!.sku).fst.parts = (lineR a (unionR a b).fst[i_14.toNat]!.sku).fst.parts + (lineR b (unionR a b).fst[i_14.toNat]!.sku).fst.parts)))], []⟩) ?_ ?_
  refine st_split (¬(lineR a (unionR a b).fst[i_14.toNat]!.sku).snd = (0 : Int)) (fun h_20 => ?_) (fun h_20 => ?_)
  refine rg (A := (AV.b ((lineR a (unionR a b).fst[i_14.toNat]!.sku).snd != (0 : Int)) = AV.b true) ∧ (AV.b true = AV.b (decide (¬(lineR a (unionR a b).fst[i_14.toNat]!.sku).snd = (0 : Int) ∨ ¬(lineR b (unionR a b).fst[i_14.toNat]!.sku).snd = (0 : Int) ∨ ¬(lineR (unionR a b).fst (unionR a b).fst[i_14.toNat]!.sku).snd = (0 : Int) ∨ ¬(lineR (unionR a b).fst (unionR a b).fst[i_14.toNat]!.sku).fst.qty = (lineR a (unionR a b).fst[i_14.toNat]!.sku).fst.qty + (lineR b (unionR a b).fst[i_14.toNat]!.sku).fst.qty ∨ ¬(lineR (unionR a b).fst (unionR a b).fst[i_14.toNat]!.sku).fst.parts = (lineR a (unionR a b).fst[i_14.toNat]!.sku).fst.parts + (lineR b (unionR a b).fst[i_14.toNat]!.sku).fst.parts)))) cx [(1, { tell := some (.b (true)) }), (29, { tell := some (.b (decide (¬(lineR a (unionR a b).fst[i_14.toNat]!.sku).snd = (0 : Int) ∨ ¬(lineR b (unionR a b).fst[i_14.toNat]!.sku).snd = (0 : Int) ∨ ¬(lineR (unionR a b).fst (unionR a b).fst[i_14.toNat]!.sku).snd = (0 : Int) ∨ ¬(lineR (unionR a b).fst (unionR a b).fst[i_14.toNat]!.sku).fst.qty = (lineR a (unionR a b).fst[i_14.toNat]!.sku).fst.qty + (lineR b (unionR a b).fst[i_14.toNat]!.sku).fst.qty ∨ ¬(lineR (unionR a b).fst (unionR a b).fst[i_14.toNat]!.sku).fst.parts = (lineR a (unionR a b).fst[i_14.toNat]!.sku).fst.parts + (lineR b (unionR a b).fst[i_14.toNat]!.sku).fst.parts))) })] [0, 1, 9, 73, 74, 75, 129] [] ⟨(told_neqt h_20), (by simp only [eq_false h_20, told_simp1, told_simp2, and_true, true_and, and_false, false_and, or_true, true_or, or_false, false_or, not_true_eq_false, not_false_eq_true, decide_true, decide_false, Bool.decide_eq_true])⟩ ?_
  exact ⟨rfl, by kernel_rfl⟩
  refine st_split (¬(lineR b (unionR a b).fst[i_14.toNat]!.sku).snd = (0 : Int)) (fun h_21 => ?_) (fun h_21 => ?_)
  refine rg (A := (AV.b ((lineR a (unionR a b).fst[i_14.toNat]!.sku).snd != (0 : Int)) = AV.b (decide ¬(lineR a (unionR a b).fst[i_14.toNat]!.sku).snd = (0 : Int))) ∧ _ ∧ (AV.b ((lineR b (unionR a b).fst[i_14.toNat]!.sku).snd != (0 : Int)) = AV.b true) ∧ (AV.b true = AV.b (decide (¬(lineR a (unionR a b).fst[i_14.toNat]!.sku).snd = (0 : Int) ∨ ¬(lineR b (unionR a b).fst[i_14.toNat]!.sku).snd = (0 : Int) ∨ ¬(lineR (unionR a b).fst (unionR a b).fst[i_14.toNat]!.sku).snd = (0 : Int) ∨ ¬(lineR (unionR a b).fst (unionR a b).fst[i_14.toNat]!.sku).fst.qty = (lineR a (unionR a b).fst[i_14.toNat]!.sku).fst.qty + (lineR b (unionR a b).fst[i_14.toNat]!.sku).fst.qty ∨ ¬(lineR (unionR a b).fst (unionR a b).fst[i_14.toNat]!.sku).fst.parts = (lineR a (unionR a b).fst[i_14.toNat]!.sku).fst.parts + (lineR b (unionR a b).fst[i_14.toNat]!.sku).fst.parts)))) cx [(1, { tell := some (.b (decide ¬(lineR a (unionR a b).fst[i_14.toNat]!.sku).snd = (0 : Int))) }), (2, { tell := some (.b (false)) }), (4, { tell := some (.b (true)) }), (29, { tell := some (.b (decide (¬(lineR a (unionR a b).fst[i_14.toNat]!.sku).snd = (0 : Int) ∨ ¬(lineR b (unionR a b).fst[i_14.toNat]!.sku).snd = (0 : Int) ∨ ¬(lineR (unionR a b).fst (unionR a b).fst[i_14.toNat]!.sku).snd = (0 : Int) ∨ ¬(lineR (unionR a b).fst (unionR a b).fst[i_14.toNat]!.sku).fst.qty = (lineR a (unionR a b).fst[i_14.toNat]!.sku).fst.qty + (lineR b (unionR a b).fst[i_14.toNat]!.sku).fst.qty ∨ ¬(lineR (unionR a b).fst (unionR a b).fst[i_14.toNat]!.sku).fst.parts = (lineR a (unionR a b).fst[i_14.toNat]!.sku).fst.parts + (lineR b (unionR a b).fst[i_14.toNat]!.sku).fst.parts))) })] [0, 1, 9, 73, 74, 75, 129] [] ⟨(told_neq), (told_false h_20), (told_neqt h_21), (by simp only [eq_false h_20, eq_false h_21, told_simp1, told_simp2, and_true, true_and, and_false, false_and, or_true, true_or, or_false, false_or, not_true_eq_false, not_false_eq_true, decide_true, decide_false, Bool.decide_eq_true])⟩ ?_
  exact ⟨rfl, by kernel_rfl⟩
  refine st_split (¬(lineR (unionR a b).fst (unionR a b).fst[i_14.toNat]!.sku).snd = (0 : Int)) (fun h_22 => ?_) (fun h_22 => ?_)
  refine rg (A := (AV.b ((lineR a (unionR a b).fst[i_14.toNat]!.sku).snd != (0 : Int)) = AV.b (decide ¬(lineR a (unionR a b).fst[i_14.toNat]!.sku).snd = (0 : Int))) ∧ _ ∧ (AV.b ((lineR b (unionR a b).fst[i_14.toNat]!.sku).snd != (0 : Int)) = AV.b (decide ¬(lineR b (unionR a b).fst[i_14.toNat]!.sku).snd = (0 : Int))) ∧ _ ∧ (AV.b ((lineR (unionR a b).fst (unionR a b).fst[i_14.toNat]!.sku).snd != (0 : Int)) = AV.b true) ∧ (AV.b true = AV.b (decide (¬(lineR a (unionR a b).fst[i_14.toNat]!.sku).snd = (0 : Int) ∨ ¬(lineR b (unionR a b).fst[i_14.toNat]!.sku).snd = (0 : Int) ∨ ¬(lineR (unionR a b).fst (unionR a b).fst[i_14.toNat]!.sku).snd = (0 : Int) ∨ ¬(lineR (unionR a b).fst (unionR a b).fst[i_14.toNat]!.sku).fst.qty = (lineR a (unionR a b).fst[i_14.toNat]!.sku).fst.qty + (lineR b (unionR a b).fst[i_14.toNat]!.sku).fst.qty ∨ ¬(lineR (unionR a b).fst (unionR a b).fst[i_14.toNat]!.sku).fst.parts = (lineR a (unionR a b).fst[i_14.toNat]!.sku).fst.parts + (lineR b (unionR a b).fst[i_14.toNat]!.sku).fst.parts)))) cx [(1, { tell := some (.b (decide ¬(lineR a (unionR a b).fst[i_14.toNat]!.sku).snd = (0 : Int))) }), (2, { tell := some (.b (false)) }), (4, { tell := some (.b (decide ¬(lineR b (unionR a b).fst[i_14.toNat]!.sku).snd = (0 : Int))) }), (5, { tell := some (.b (false)) }), (8, { tell := some (.b (true)) }), (29, { tell := some (.b (decide (¬(lineR a (unionR a b).fst[i_14.toNat]!.sku).snd = (0 : Int) ∨ ¬(lineR b (unionR a b).fst[i_14.toNat]!.sku).snd = (0 : Int) ∨ ¬(lineR (unionR a b).fst (unionR a b).fst[i_14.toNat]!.sku).snd = (0 : Int) ∨ ¬(lineR (unionR a b).fst (unionR a b).fst[i_14.toNat]!.sku).fst.qty = (lineR a (unionR a b).fst[i_14.toNat]!.sku).fst.qty + (lineR b (unionR a b).fst[i_14.toNat]!.sku).fst.qty ∨ ¬(lineR (unionR a b).fst (unionR a b).fst[i_14.toNat]!.sku).fst.parts = (lineR a (unionR a b).fst[i_14.toNat]!.sku).fst.parts + (lineR b (unionR a b).fst[i_14.toNat]!.sku).fst.parts))) })] [0, 1, 9, 73, 74, 75, 129] [] ⟨(told_neq), (told_false h_20), (told_neq), (told_false h_21), (told_neqt h_22), (by simp only [eq_false h_20, eq_false h_21, eq_false h_22, told_simp1, told_simp2, and_true, true_and, and_false, false_and, or_true, true_or, or_false, false_or, not_true_eq_false, not_false_eq_true, decide_true, decide_false, Bool.decide_eq_true])⟩ ?_
  exact ⟨rfl, by kernel_rfl⟩
  refine st_split (¬(lineR (unionR a b).fst (unionR a b).fst[i_14.toNat]!.sku).fst.qty = (lineR a (unionR a b).fst[i_14.toNat]!.sku).fst.qty + (lineR b (unionR a b).fst[i_14.toNat]!.sku).fst.qty) (fun h_23 => ?_) (fun h_23 => ?_)
  refine rg (A := (AV.b ((lineR a (unionR a b).fst[i_14.toNat]!.sku).snd != (0 : Int)) = AV.b (decide ¬(lineR a (unionR a b).fst[i_14.toNat]!.sku).snd = (0 : Int))) ∧ _ ∧ (AV.b ((lineR b (unionR a b).fst[i_14.toNat]!.sku).snd != (0 : Int)) = AV.b (decide ¬(lineR b (unionR a b).fst[i_14.toNat]!.sku).snd = (0 : Int))) ∧ _ ∧ (AV.b ((lineR (unionR a b).fst (unionR a b).fst[i_14.toNat]!.sku).snd != (0 : Int)) = AV.b (decide ¬(lineR (unionR a b).fst (unionR a b).fst[i_14.toNat]!.sku).snd = (0 : Int))) ∧ _ ∧ (AV.i IntKind.i64 (IntKind.i64.wrap ((lineR a (unionR a b).fst[i_14.toNat]!.sku).fst.qty + (lineR b (unionR a b).fst[i_14.toNat]!.sku).fst.qty)) = AV.i IntKind.i64 ((lineR a (unionR a b).fst[i_14.toNat]!.sku).fst.qty + (lineR b (unionR a b).fst[i_14.toNat]!.sku).fst.qty)) ∧ (AV.b ((lineR (unionR a b).fst (unionR a b).fst[i_14.toNat]!.sku).fst.qty != (lineR a (unionR a b).fst[i_14.toNat]!.sku).fst.qty + (lineR b (unionR a b).fst[i_14.toNat]!.sku).fst.qty) = AV.b true) ∧ (AV.b true = AV.b (decide (¬(lineR a (unionR a b).fst[i_14.toNat]!.sku).snd = (0 : Int) ∨ ¬(lineR b (unionR a b).fst[i_14.toNat]!.sku).snd = (0 : Int) ∨ ¬(lineR (unionR a b).fst (unionR a b).fst[i_14.toNat]!.sku).snd = (0 : Int) ∨ ¬(lineR (unionR a b).fst (unionR a b).fst[i_14.toNat]!.sku).fst.qty = (lineR a (unionR a b).fst[i_14.toNat]!.sku).fst.qty + (lineR b (unionR a b).fst[i_14.toNat]!.sku).fst.qty ∨ ¬(lineR (unionR a b).fst (unionR a b).fst[i_14.toNat]!.sku).fst.parts = (lineR a (unionR a b).fst[i_14.toNat]!.sku).fst.parts + (lineR b (unionR a b).fst[i_14.toNat]!.sku).fst.parts)))) cx [(1, { tell := some (.b (decide ¬(lineR a (unionR a b).fst[i_14.toNat]!.sku).snd = (0 : Int))) }), (2, { tell := some (.b (false)) }), (4, { tell := some (.b (decide ¬(lineR b (unionR a b).fst[i_14.toNat]!.sku).snd = (0 : Int))) }), (5, { tell := some (.b (false)) }), (8, { tell := some (.b (decide ¬(lineR (unionR a b).fst (unionR a b).fst[i_14.toNat]!.sku).snd = (0 : Int))) }), (9, { tell := some (.b (false)) }), (17, { tell := some (.i .i64 ((lineR a (unionR a b).fst[i_14.toNat]!.sku).fst.qty + (lineR b (unionR a b).fst[i_14.toNat]!.sku).fst.qty)) }), (18, { tell := some (.b (true)) }), (29, { tell := some (.b (decide (¬(lineR a (unionR a b).fst[i_14.toNat]!.sku).snd = (0 : Int) ∨ ¬(lineR b (unionR a b).fst[i_14.toNat]!.sku).snd = (0 : Int) ∨ ¬(lineR (unionR a b).fst (unionR a b).fst[i_14.toNat]!.sku).snd = (0 : Int) ∨ ¬(lineR (unionR a b).fst (unionR a b).fst[i_14.toNat]!.sku).fst.qty = (lineR a (unionR a b).fst[i_14.toNat]!.sku).fst.qty + (lineR b (unionR a b).fst[i_14.toNat]!.sku).fst.qty ∨ ¬(lineR (unionR a b).fst (unionR a b).fst[i_14.toNat]!.sku).fst.parts = (lineR a (unionR a b).fst[i_14.toNat]!.sku).fst.parts + (lineR b (unionR a b).fst[i_14.toNat]!.sku).fst.parts))) })] [0, 1, 9, 73, 74, 75, 129] [] ⟨(told_neq), (told_false h_20), (told_neq), (told_false h_21), (told_neq), (told_false h_22), (told_i64 ?g5 ?g6), (told_neqt h_23), (by simp only [eq_false h_20, eq_false h_21, eq_false h_22, eq_false h_23, told_simp1, told_simp2, and_true, true_and, and_false, false_and, or_true, true_or, or_false, false_or, not_true_eq_false, not_false_eq_true, decide_true, decide_false, Bool.decide_eq_true])⟩ ?_; rotate_left 2
  exact ⟨rfl, by kernel_rfl⟩
  refine rg (A := (AV.b ((lineR a (unionR a b).fst[i_14.toNat]!.sku).snd != (0 : Int)) = AV.b (decide ¬(lineR a (unionR a b).fst[i_14.toNat]!.sku).snd = (0 : Int))) ∧ _ ∧ (AV.b ((lineR b (unionR a b).fst[i_14.toNat]!.sku).snd != (0 : Int)) = AV.b (decide ¬(lineR b (unionR a b).fst[i_14.toNat]!.sku).snd = (0 : Int))) ∧ _ ∧ (AV.b ((lineR (unionR a b).fst (unionR a b).fst[i_14.toNat]!.sku).snd != (0 : Int)) = AV.b (decide ¬(lineR (unionR a b).fst (unionR a b).fst[i_14.toNat]!.sku).snd = (0 : Int))) ∧ _ ∧ (AV.i IntKind.i64 (IntKind.i64.wrap ((lineR a (unionR a b).fst[i_14.toNat]!.sku).fst.qty + (lineR b (unionR a b).fst[i_14.toNat]!.sku).fst.qty)) = AV.i IntKind.i64 ((lineR a (unionR a b).fst[i_14.toNat]!.sku).fst.qty + (lineR b (unionR a b).fst[i_14.toNat]!.sku).fst.qty)) ∧ (AV.b ((lineR (unionR a b).fst (unionR a b).fst[i_14.toNat]!.sku).fst.qty != (lineR a (unionR a b).fst[i_14.toNat]!.sku).fst.qty + (lineR b (unionR a b).fst[i_14.toNat]!.sku).fst.qty) = AV.b (decide ¬(lineR (unionR a b).fst (unionR a b).fst[i_14.toNat]!.sku).fst.qty = (lineR a (unionR a b).fst[i_14.toNat]!.sku).fst.qty + (lineR b (unionR a b).fst[i_14.toNat]!.sku).fst.qty)) ∧ _ ∧ (AV.i IntKind.i64 (IntKind.i64.wrap ((lineR a (unionR a b).fst[i_14.toNat]!.sku).fst.parts + (lineR b (unionR a b).fst[i_14.toNat]!.sku).fst.parts)) = AV.i IntKind.i64 ((lineR a (unionR a b).fst[i_14.toNat]!.sku).fst.parts + (lineR b (unionR a b).fst[i_14.toNat]!.sku).fst.parts)) ∧ (AV.b ((lineR (unionR a b).fst (unionR a b).fst[i_14.toNat]!.sku).fst.parts != (lineR a (unionR a b).fst[i_14.toNat]!.sku).fst.parts + (lineR b (unionR a b).fst[i_14.toNat]!.sku).fst.parts) = AV.b (decide ¬(lineR (unionR a b).fst (unionR a b).fst[i_14.toNat]!.sku).fst.parts = (lineR a (unionR a b).fst[i_14.toNat]!.sku).fst.parts + (lineR b (unionR a b).fst[i_14.toNat]!.sku).fst.parts)) ∧ (AV.b (decide ¬(lineR (unionR a b).fst (unionR a b).fst[i_14.toNat]!.sku).fst.parts = (lineR a (unionR a b).fst[i_14.toNat]!.sku).fst.parts + (lineR b (unionR a b).fst[i_14.toNat]!.sku).fst.parts) = AV.b (decide (¬(lineR a (unionR a b).fst[i_14.toNat]!.sku).snd = (0 : Int) ∨ ¬(lineR b (unionR a b).fst[i_14.toNat]!.sku).snd = (0 : Int) ∨ ¬(lineR (unionR a b).fst (unionR a b).fst[i_14.toNat]!.sku).snd = (0 : Int) ∨ ¬(lineR (unionR a b).fst (unionR a b).fst[i_14.toNat]!.sku).fst.qty = (lineR a (unionR a b).fst[i_14.toNat]!.sku).fst.qty + (lineR b (unionR a b).fst[i_14.toNat]!.sku).fst.qty ∨ ¬(lineR (unionR a b).fst (unionR a b).fst[i_14.toNat]!.sku).fst.parts = (lineR a (unionR a b).fst[i_14.toNat]!.sku).fst.parts + (lineR b (unionR a b).fst[i_14.toNat]!.sku).fst.parts)))) cx [(1, { tell := some (.b (decide ¬(lineR a (unionR a b).fst[i_14.toNat]!.sku).snd = (0 : Int))) }), (2, { tell := some (.b (false)) }), (4, { tell := some (.b (decide ¬(lineR b (unionR a b).fst[i_14.toNat]!.sku).snd = (0 : Int))) }), (5, { tell := some (.b (false)) }), (8, { tell := some (.b (decide ¬(lineR (unionR a b).fst (unionR a b).fst[i_14.toNat]!.sku).snd = (0 : Int))) }), (9, { tell := some (.b (false)) }), (17, { tell := some (.i .i64 ((lineR a (unionR a b).fst[i_14.toNat]!.sku).fst.qty + (lineR b (unionR a b).fst[i_14.toNat]!.sku).fst.qty)) }), (18, { tell := some (.b (decide ¬(lineR (unionR a b).fst (unionR a b).fst[i_14.toNat]!.sku).fst.qty = (lineR a (unionR a b).fst[i_14.toNat]!.sku).fst.qty + (lineR b (unionR a b).fst[i_14.toNat]!.sku).fst.qty)) }), (19, { tell := some (.b (false)) }), (27, { tell := some (.i .i64 ((lineR a (unionR a b).fst[i_14.toNat]!.sku).fst.parts + (lineR b (unionR a b).fst[i_14.toNat]!.sku).fst.parts)) }), (28, { tell := some (.b (decide ¬(lineR (unionR a b).fst (unionR a b).fst[i_14.toNat]!.sku).fst.parts = (lineR a (unionR a b).fst[i_14.toNat]!.sku).fst.parts + (lineR b (unionR a b).fst[i_14.toNat]!.sku).fst.parts)) }), (29, { tell := some (.b (decide (¬(lineR a (unionR a b).fst[i_14.toNat]!.sku).snd = (0 : Int) ∨ ¬(lineR b (unionR a b).fst[i_14.toNat]!.sku).snd = (0 : Int) ∨ ¬(lineR (unionR a b).fst (unionR a b).fst[i_14.toNat]!.sku).snd = (0 : Int) ∨ ¬(lineR (unionR a b).fst (unionR a b).fst[i_14.toNat]!.sku).fst.qty = (lineR a (unionR a b).fst[i_14.toNat]!.sku).fst.qty + (lineR b (unionR a b).fst[i_14.toNat]!.sku).fst.qty ∨ ¬(lineR (unionR a b).fst (unionR a b).fst[i_14.toNat]!.sku).fst.parts = (lineR a (unionR a b).fst[i_14.toNat]!.sku).fst.parts + (lineR b (unionR a b).fst[i_14.toNat]!.sku).fst.parts))) })] [0, 1, 9, 73, 74, 75, 129] [] ⟨(told_neq), (told_false h_20), (told_neq), (told_false h_21), (told_neq), (told_false h_22), (told_i64 ?g7 ?g8), (told_neq), (told_false h_23), (told_i64 ?g9 ?g10), (told_neq), (by simp only [eq_false h_20, eq_false h_21, eq_false h_22, eq_false h_23, told_simp1, told_simp2, and_true, true_and, and_false, false_and, or_true, true_or, or_false, false_or, not_true_eq_false, not_false_eq_true, decide_true, decide_false, Bool.decide_eq_true])⟩ ?_; rotate_left 4
  exact ⟨rfl, by kernel_rfl⟩
  refine sn ?_
  refine st_dec (¬(lineR a (unionR a b).fst[i_14.toNat]!.sku).snd = (0 : Int) ∨ ¬(lineR b (unionR a b).fst[i_14.toNat]!.sku).snd = (0 : Int) ∨ ¬(lineR (unionR a b).fst (unionR a b).fst[i_14.toNat]!.sku).snd = (0 : Int) ∨ ¬(lineR (unionR a b).fst (unionR a b).fst[i_14.toNat]!.sku).fst.qty = (lineR a (unionR a b).fst[i_14.toNat]!.sku).fst.qty + (lineR b (unionR a b).fst[i_14.toNat]!.sku).fst.qty ∨ ¬(lineR (unionR a b).fst (unionR a b).fst[i_14.toNat]!.sku).fst.parts = (lineR a (unionR a b).fst[i_14.toNat]!.sku).fst.parts + (lineR b (unionR a b).fst[i_14.toNat]!.sku).fst.parts) (by kernel_rfl) (by kernel_rfl) (fun h_24 => ?_) (fun h_24 => ?_)
  refine sq ?_
  refine rg (A := True) cx [] [4] [] trivial ?_
  refine sn ?_
  refine st_ret (by kernel_rfl) ?_
  refine q_blk_ret ?_
  refine q_seq_ret ?_
  refine q_seq_ret ?_
  refine q_blk_ret ?_
  refine q_seq_ret ?_
  refine q_ret (r := .b (false)) (obl := []) (by kernel_rfl) trivial (AVle.eq (show AV.b false = AV.b true from ?g11)); rotate_left 1
  refine st_skip (by kernel_rfl) ?_
  refine q_blk_normal ?_
  refine sn ?_
  refine rg (A := (AV.i IntKind.i64 (IntKind.i64.wrap (i_14 + (1 : Int))) = AV.i IntKind.i64 (i_14 + (1 : Int)))) cx [(0, { tell := some (.i .i64 (i_14 + (1 : Int))) })] [0, 1, 9, 73, 74, 75] [] (told_i64 (by omega) (by omega)) ?_
  refine sn ?_
  refine loop_next (i_14 + (1 : Int)) (by kernel_rfl) (show ((↑(unionR a b).fst.length : Int) - (i_14 + (1 : Int))).toNat < ((↑(unionR a b).fst.length : Int) - i_14).toNat from (by omega)) (show invB (unionR a b).fst (i_14 + (1 : Int)) from ?g12); rotate_left 1
  refine st_exit 2 (by kernel_rfl) ?_
  refine q_seq_exit ?_
  refine q_seq_exit ?_
  refine q_blk_hit ?_
  refine sn ?_
  refine sq ?_
  refine rg (A := _) cx [(1, { val := some (.tup [.i .i64 ((totR a).fst), .i .i64 ((totR a).snd)]) })] [1, 9, 19, 20] [] (con38 (a) (by (with_reducible assumption))) ?_
  refine sn ?_
  refine sq ?_
  refine rg (A := _) cx [(1, { val := some (.tup [.i .i64 ((totR b).fst), .i .i64 ((totR b).snd)]) })] [9, 19, 20, 21, 22] [] (con38 (b) (by (with_reducible assumption))) ?_
  refine sn ?_
  refine sq ?_
  refine rg (A := _) cx [(1, { val := some (.tup [.i .i64 ((totR (unionR a b).fst).fst), .i .i64 ((totR (unionR a b).fst).snd)]) })] [19, 20, 21, 22, 23, 24] [] (con38 ((unionR a b).fst) ?g13) ?_; rotate_left 1
  refine sn ?_
  refine sq ?_
  refine st_join (σ' := ⟨[(4, .b (decide ((totR a).snd = (0 : Int) ∧ (totR b).snd = (0 : Int) ∧ (totR (unionR a b).fst).snd = (0 : Int) ∧ (totR (unionR a b).fst).fst = (totR a).fst + (totR b).fst)))], []⟩) ?_ ?_
  refine st_split ((totR a).snd = (0 : Int)) (fun h_26 => ?_) (fun h_26 => ?_)
  refine st_split ((totR b).snd = (0 : Int)) (fun h_27 => ?_) (fun h_27 => ?_)
  refine st_split ((totR (unionR a b).fst).snd = (0 : Int)) (fun h_28 => ?_) (fun h_28 => ?_)
  refine rg (A := _ ∧ _ ∧ _ ∧ (AV.i IntKind.i64 (IntKind.i64.wrap ((totR a).fst + (totR b).fst)) = AV.i IntKind.i64 ((totR a).fst + (totR b).fst)) ∧ (AV.b ((totR (unionR a b).fst).fst == (totR a).fst + (totR b).fst) = AV.b (decide ((totR (unionR a b).fst).fst = (totR a).fst + (totR b).fst))) ∧ (AV.b (decide ((totR (unionR a b).fst).fst = (totR a).fst + (totR b).fst)) = AV.b (decide ((totR a).snd = (0 : Int) ∧ (totR b).snd = (0 : Int) ∧ (totR (unionR a b).fst).snd = (0 : Int) ∧ (totR (unionR a b).fst).fst = (totR a).fst + (totR b).fst)))) cx [(1, { tell := some (.b (true)) }), (4, { tell := some (.b (true)) }), (8, { tell := some (.b (true)) }), (14, { tell := some (.i .i64 ((totR a).fst + (totR b).fst)) }), (15, { tell := some (.b (decide ((totR (unionR a b).fst).fst = (totR a).fst + (totR b).fst))) }), (17, { tell := some (.b (decide ((totR a).snd = (0 : Int) ∧ (totR b).snd = (0 : Int) ∧ (totR (unionR a b).fst).snd = (0 : Int) ∧ (totR (unionR a b).fst).fst = (totR a).fst + (totR b).fst))) })] [4] [] ⟨(told_true h_26), (told_true h_27), (told_true h_28), (told_i64 ?g14 ?g15), (by kernel_rfl), (by simp only [eq_true h_26, eq_true h_27, eq_true h_28, told_simp1, told_simp2, and_true, true_and, and_false, false_and, or_true, true_or, or_false, false_or, not_true_eq_false, not_false_eq_true, decide_true, decide_false, Bool.decide_eq_true])⟩ ?_; rotate_left 2
  exact ⟨rfl, by kernel_rfl⟩
  refine rg (A := _ ∧ _ ∧ _ ∧ (AV.b false = AV.b (decide ((totR a).snd = (0 : Int) ∧ (totR b).snd = (0 : Int) ∧ (totR (unionR a b).fst).snd = (0 : Int) ∧ (totR (unionR a b).fst).fst = (totR a).fst + (totR b).fst)))) cx [(1, { tell := some (.b (true)) }), (4, { tell := some (.b (true)) }), (8, { tell := some (.b (false)) }), (17, { tell := some (.b (decide ((totR a).snd = (0 : Int) ∧ (totR b).snd = (0 : Int) ∧ (totR (unionR a b).fst).snd = (0 : Int) ∧ (totR (unionR a b).fst).fst = (totR a).fst + (totR b).fst))) })] [4] [] ⟨(told_true h_26), (told_true h_27), (told_false h_28), (by simp only [eq_true h_26, eq_true h_27, eq_false h_28, told_simp1, told_simp2, and_true, true_and, and_false, false_and, or_true, true_or, or_false, false_or, not_true_eq_false, not_false_eq_true, decide_true, decide_false, Bool.decide_eq_true])⟩ ?_
  exact ⟨rfl, by kernel_rfl⟩
  refine rg (A := _ ∧ _ ∧ (AV.b false = AV.b (decide ((totR a).snd = (0 : Int) ∧ (totR b).snd = (0 : Int) ∧ (totR (unionR a b).fst).snd = (0 : Int) ∧ (totR (unionR a b).fst).fst = (totR a).fst + (totR b).fst)))) cx [(1, { tell := some (.b (true)) }), (4, { tell := some (.b (false)) }), (17, { tell := some (.b (decide ((totR a).snd = (0 : Int) ∧ (totR b).snd = (0 : Int) ∧ (totR (unionR a b).fst).snd = (0 : Int) ∧ (totR (unionR a b).fst).fst = (totR a).fst + (totR b).fst))) })] [4] [] ⟨(told_true h_26), (told_false h_27), (by simp only [eq_true h_26, eq_false h_27, told_simp1, told_simp2, and_true, true_and, and_false, false_and, or_true, true_or, or_false, false_or, not_true_eq_false, not_false_eq_true, decide_true, decide_false, Bool.decide_eq_true])⟩ ?_
  exact ⟨rfl, by kernel_rfl⟩
  refine rg (A := _ ∧ (AV.b false = AV.b (decide ((totR a).snd = (0 : Int) ∧ (totR b).snd = (0 : Int) ∧ (totR (unionR a b).fst).snd = (0 : Int) ∧ (totR (unionR a b).fst).fst = (totR a).fst + (totR b).fst)))) cx [(1, { tell := some (.b (false)) }), (17, { tell := some (.b (decide ((totR a).snd = (0 : Int) ∧ (totR b).snd = (0 : Int) ∧ (totR (unionR a b).fst).snd = (0 : Int) ∧ (totR (unionR a b).fst).fst = (totR a).fst + (totR b).fst))) })] [4] [] ⟨(told_false h_26), (by simp only [eq_false h_26, told_simp1, told_simp2, and_true, true_and, and_false, false_and, or_true, true_or, or_false, false_or, not_true_eq_false, not_false_eq_true, decide_true, decide_false, Bool.decide_eq_true])⟩ ?_
  exact ⟨rfl, by kernel_rfl⟩
  refine sn ?_
  refine st_ret (by kernel_rfl) ?_
  refine q_ret (r := .b (decide ((totR a).snd = (0 : Int) ∧ (totR b).snd = (0 : Int) ∧ (totR (unionR a b).fst).snd = (0 : Int) ∧ (totR (unionR a b).fst).fst = (totR a).fst + (totR b).fst))) (obl := []) (by kernel_rfl) trivial (AVle.eq (show AV.b (decide ((totR a).snd = (0 : Int) ∧ (totR b).snd = (0 : Int) ∧ (totR (unionR a b).fst).snd = (0 : Int) ∧ (totR (unionR a b).fst).fst = (totR a).fst + (totR b).fst)) = AV.b true from ?g16)); rotate_left 1
  revert h_2; rotate_left
  revert h_2 i_3 h_5 h_6 h_7 h_8 h_9; rotate_left
  revert h_2 i_3 h_5 h_6 h_7 h_8 h_13; rotate_left
  revert h_2 i_3 h_5 h_6 h_7 h_8 h_13; rotate_left
  revert h_2 i_3 h_5 h_6 h_7 h_8 h_13 i_14 h_16 h_17 h_18; rotate_left
  revert h_2 i_3 h_5 h_6 h_7 h_8 h_13 i_14 h_16 h_17 h_18 h_20 h_21 h_22 h_23; rotate_left
  revert h_2 i_3 h_5 h_6 h_7 h_8 h_13 i_14 h_16 h_17 h_18 h_20 h_21 h_22 h_23; rotate_left
  revert h_2 i_3 h_5 h_6 h_7 h_8 h_13 i_14 h_16 h_17 h_18 h_20 h_21 h_22 h_23; rotate_left
  revert h_2 i_3 h_5 h_6 h_7 h_8 h_13 i_14 h_16 h_17 h_18 h_20 h_21 h_22 h_23; rotate_left
  revert h_2 i_3 h_5 h_6 h_7 h_8 h_13 i_14 h_16 h_17 h_18 h_20 h_21 h_22 h_23; rotate_left
  revert h_2 i_3 h_5 h_6 h_7 h_8 h_13 i_14 h_16 h_17 h_18 h_20 h_21 h_22 h_23; rotate_left
  revert h_2 i_3 h_5 h_6 h_7 h_8 h_13 i_14 h_16 h_17 h_18 h_24; rotate_left
  revert h_2 i_3 h_5 h_6 h_7 h_8 h_13 i_14 h_16 h_17 h_18 h_24; rotate_left
  revert h_2 i_3 h_5 h_6 h_7 h_8 h_13 i_14 h_16 h_17 h_18; rotate_left
  revert h_2 i_3 h_5 h_6 h_7 h_8 h_13 i_14 h_16 h_17 h_18 h_26 h_27 h_28; rotate_left
  revert h_2 i_3 h_5 h_6 h_7 h_8 h_13 i_14 h_16 h_17 h_18 h_26 h_27 h_28; rotate_left
  revert h_2 i_3 h_5 h_6 h_7 h_8 h_13 i_14 h_16 h_17 h_18; rotate_left
  case g0 => intro _; exact ⟨by omega, by omega, fun j hj => by omega⟩
  case g1 =>
    intro _ i h0 h1 h2 h3 h4
    refine ⟨by omega, by omega, fun j hj => ?_⟩
    by_cases e : j = i.toNat
    · rw [e, h4]; simp
    · exact h2 j (by omega)
  case g2 =>
    intro h i h0 h1 h2 h3 h4
    obtain ⟨u, u1, u2, u3⟩ := fold_all h h2 h3
    rw [u1] at h4
    have := u3.length_eq
    rw [List.length_append] at this
    rcases h4 with h4 | h4 | h4
    · exact absurd rfl h4
    · exact absurd (by simp only; omega) h4
    · exact absurd u2 h4
  case g3 => intros; exact ⟨by omega, by omega⟩
  case g4 => intro h i h0 h1 h2 h3 _ j k0 k1 k2; obtain ⟨u, u1, u2, u3⟩ := fold_all h h2 h3; have := okL_len (lst_ok u2); rw [u1]; simp only; omega
  case g5 => intro h i h0 h1 h2 h3 _ j k0 k1 k2; intros; obtain ⟨u, u1, u2, u3⟩ := fold_all h h2 h3; rw [u1] at k2 ⊢; have := line_small (both_form h).1 (u_good u2 k0 k2); have := line_small (both_form h).2 (u_good u2 k0 k2); simp only; omega
  case g6 => intro h i h0 h1 h2 h3 _ j k0 k1 k2; intros; obtain ⟨u, u1, u2, u3⟩ := fold_all h h2 h3; rw [u1] at k2 ⊢; have := line_small (both_form h).1 (u_good u2 k0 k2); have := line_small (both_form h).2 (u_good u2 k0 k2); simp only; omega
  case g7 => intro h i h0 h1 h2 h3 _ j k0 k1 k2; intros; obtain ⟨u, u1, u2, u3⟩ := fold_all h h2 h3; rw [u1] at k2 ⊢; have := line_small (both_form h).1 (u_good u2 k0 k2); have := line_small (both_form h).2 (u_good u2 k0 k2); simp only; omega
  case g8 => intro h i h0 h1 h2 h3 _ j k0 k1 k2; intros; obtain ⟨u, u1, u2, u3⟩ := fold_all h h2 h3; rw [u1] at k2 ⊢; have := line_small (both_form h).1 (u_good u2 k0 k2); have := line_small (both_form h).2 (u_good u2 k0 k2); simp only; omega
  case g9 => intro h i h0 h1 h2 h3 _ j k0 k1 k2; intros; obtain ⟨u, u1, u2, u3⟩ := fold_all h h2 h3; rw [u1] at k2 ⊢; have := line_small (both_form h).1 (u_good u2 k0 k2); have := line_small (both_form h).2 (u_good u2 k0 k2); simp only; omega
  case g10 => intro h i h0 h1 h2 h3 _ j k0 k1 k2; intros; obtain ⟨u, u1, u2, u3⟩ := fold_all h h2 h3; rw [u1] at k2 ⊢; have := line_small (both_form h).1 (u_good u2 k0 k2); have := line_small (both_form h).2 (u_good u2 k0 k2); simp only; omega
  case g11 =>
    intro h i h0 h1 h2 h3 _ j k0 k1 k2 h4
    obtain ⟨u, u1, u2, u3⟩ := fold_all h h2 h3
    rw [u1] at k2 h4
    have g := u_good u2 k0 k2
    simp only at h4 g
    obtain ⟨a1, a2, a3⟩ := line_good (both_form h).1 g
    obtain ⟨b1, b2, b3⟩ := line_good (both_form h).2 g
    obtain ⟨c1, c2, c3⟩ := line_good u2 g
    obtain ⟨d1, d2⟩ := lineOf_app a b u[j.toNat]!.sku
    rw [lineOf_perm u3] at c2 c3
    rcases h4 with h4 | h4 | h4 | h4 | h4
    · exact absurd a1 h4
    · exact absurd b1 h4
    · exact absurd c1 h4
    · exact absurd (by rw [c2, d1, a2, b2]) h4
    · exact absurd (by rw [c3, d2, a3, b3]) h4
  case g12 => intro h i h0 h1 h2 h3 _ j k0 k1 k2 _; exact ⟨by omega, by omega⟩
  case g13 => intro h i h0 h1 h2 h3 _ j k0 k1 k2; obtain ⟨u, u1, u2, u3⟩ := fold_all h h2 h3; have := okL_len (lst_ok u2); rw [u1]; simp only; omega
  case g14 => intro h i h0 h1 h2 h3 _ j k0 k1 k2; intros; rw [totR_ok (both_form h).1, totR_ok (both_form h).2]; have := tot_small (both_form h).1; have := tot_small (both_form h).2; simp only; omega
  case g15 => intro h i h0 h1 h2 h3 _ j k0 k1 k2; intros; rw [totR_ok (both_form h).1, totR_ok (both_form h).2]; have := tot_small (both_form h).1; have := tot_small (both_form h).2; simp only; omega
  case g16 =>
    intro h i h0 h1 h2 h3 _ j k0 k1 k2
    obtain ⟨u, u1, u2, u3⟩ := fold_all h h2 h3
    rw [u1, totR_ok (both_form h).1, totR_ok (both_form h).2, totR_ok u2]
    congr 1
    rw [decide_eq_true_iff]
    exact ⟨rfl, rfl, rfl, by rw [sumE_perm u3, sumE_app]⟩
end Go.Proofs.Ytjngmlkaijpbgaa
namespace Go.E
open Go.RowKit Go.ChangeShapes Go.WideShapes Go.ChangeAt
/-- An argument of a type. -/
def TyA (T : Tab) (L n t : Nat) (av : AV) : Prop :=
  match look T t with
  | some ti => if ti.isAgg then ∃ cs, av = .agg cs ∧ TyC T L n t cs else TyC T L n t [av]
  | none => False
def TyAll (T : Tab) (L n : Nat) : List Nat → List AV → Prop
  | [], [] => True
  | t :: ts, a :: aL => TyA T L n t a ∧ TyAll T L n ts aL
  | _, _ => False
section
variable {P : Program} {T : Tab} {H : Type} {enc : TypeId × Value → H} {W : World} {spare : Nat → Bool} {held : Bool}
theorem plain_not_cell (hT : TabOk P T) {n t : Nat} {ti : TI} (hti : look T t = some ti) (hp : plainT T n t = true) (hg : ti.isAgg = false) {r : Reach} {base : Nat} {v : Value} (hv : Value.okWide P W r base t v) : v.oneCell' = true ∨ ∃ x, v = x ∧ v.cells = #[v] := by
  have hu := (hT t ti hti).1
  unfold Value.okWide at hv
  rw [hu] at hv
  cases n with
  | zero => simp [plainT] at hp
  | succ n =>
    unfold plainT at hp
    rw [hti] at hp
    simp only at hp
    unfold TI.isAgg at hg
    cases hd : ti.desc with
    | bool => rw [hd] at hv; simp only [Cell.okWide, hu, hd, Cell.ok] at hv; cases v <;> simp_all [Value.oneCell', Value.cells]
    | int k => rw [hd] at hv; simp only [Cell.okWide, hu, hd, Cell.ok] at hv; cases v <;> simp_all [Value.oneCell', Value.cells]
    | string => rw [hd] at hv; simp only [Cell.okWide, hu, hd, Cell.ok] at hv; cases v <;> simp_all [Value.oneCell', Value.cells]
    | slice e => rw [hd] at hv; simp only [Cell.okWide, hu, hd, Cell.ok] at hv; cases v <;> simp_all [Value.oneCell', Value.cells]
    | struct fs => rw [hd] at hg; simp at hg
    | array k e => rw [hd] at hg; simp at hg
    | _ => rw [hd] at hp; first | exact absurd hp Bool.false_ne_true | cases hp
theorem open_arg (hT : TabOk P T) {n t : Nat} (hp : plainT T n t = true) {r : Reach} {base : Nat} {v : Value} {d : DataW H} {ps : List MemPlace} (hv : Value.okWide P W r base t v)
    (hd : DataW.Trod enc P W 0 spare held t v d ps) (hw : ∀ m ∈ d.weights P t, m ≤ reachBytes) {L : Nat} (hL : bulkD d ≤ L) : ∃ av, RelV0 (fun k => k < W.heap.size) W av v ∧ TyA T L n t av := by
  obtain ⟨ti, hti⟩ := plain_look hp
  obtain ⟨fuel, hf⟩ := hd
  obtain ⟨avs, hc, hty⟩ := opens hT n t hp fuel _ _ _ hf hw L hL
  by_cases hg : ti.isAgg = true
  · have hu := (hT t ti hti).1
    have hv' := hv
    unfold Value.okWide at hv'
    rw [hu] at hv'
    have : ∃ cs, v = .agg cs := by
      unfold TI.isAgg at hg
      split at hg
      · rename_i fs hd; rw [hd] at hv'; obtain ⟨cs, h, _⟩ := hv'; exact ⟨cs, h⟩
      · rename_i k e hd; rw [hd] at hv'; obtain ⟨cs, h, _⟩ := hv'; exact ⟨cs, h⟩
      · cases hg
    obtain ⟨cs, rfl⟩ := this
    refine ⟨.agg avs, ?_, by unfold TyA; rw [hti]; simp only [hg, if_true]; exact ⟨avs, rfl, hty⟩⟩
    have := RelV0.agg (S := fun k => k < W.heap.size) (w := W) avs cs.toList (by rw [hc.1]; simp [Value.cells]) (fun u hu => hc.2.1 u (by simpa [Value.cells] using hu)) (fun j a u ha hu => hc.2.2 j a u ha (by simpa [Value.cells] using hu))
    simpa using this
  · have hg' : ti.isAgg = false := by simpa using hg
    have h1 : v.cells.toList = [v] := by
      rcases plain_not_cell hT hti hp hg' hv with h | ⟨_, _, h⟩
      · cases v <;> simp_all [Value.oneCell', Value.cells]
      · rw [h]
    rw [h1] at hc
    obtain ⟨c1, _, c3⟩ := hc
    match avs, c1, c3, hty with
    | [a], _, c3, hty => exact ⟨a, c3 0 a v rfl rfl, by unfold TyA; rw [hti]; simp only [hg', Bool.false_eq_true, if_false]; exact hty⟩
theorem open_args (hT : TabOk P T) {L n : Nat} {r : Reach} {base : Nat} : ∀ (ts : List Nat) (vs : List Value) (ds : List (DataW H)) (ps : List MemPlace), (∀ t ∈ ts, plainT T n t = true) →
    (∀ (j : Nat) t v, ts[j]? = some t → vs[j]? = some v → Value.okWide P W r base t v) → DataW.TrodAll enc P W 0 spare held ts vs ds ps → (∀ m ∈ DataW.weightsEach P ts ds, m ≤ reachBytes) → bulkDs ds ≤ L →
    ∃ avs : List AV, avs.length = vs.length ∧ (∀ (j : Nat) (a : AV) (u : Value), avs[j]? = some a → vs[j]? = some u → RelV0 (fun k => k < W.heap.size) W a u) ∧ TyAll T L n ts avs ∧ ds.length = ts.length
  | [], [], [], ps, _, _, _, _, _ => ⟨[], rfl, fun j a u ha => by simp at ha, trivial, rfl⟩
  | t :: ts, v :: vs, d :: ds, ps, hp, hv, hA, hw, hL => by
    simp only [bulkDs] at hL
    obtain ⟨p, q, h1, h2, _⟩ := hA
    obtain ⟨a, e1, e2⟩ := open_arg hT (hp t (by simp)) (hv 0 t v rfl rfl) h1 (fun m hm => hw m (by simp only [DataW.weightsEach, List.mem_append]; exact .inl hm)) (L := L) (by omega)
    obtain ⟨aL, f1, f2, f3, f4⟩ := open_args (L := L) hT ts vs ds q (fun t ht => hp t (List.mem_cons_of_mem _ ht)) (fun j t v ht hv' => hv (j + 1) t v (by simpa using ht) (by simpa using hv')) h2 (fun m hm => hw m (by simp only [DataW.weightsEach, List.mem_append]; exact .inr hm)) (by omega)
    refine ⟨a :: aL, by simp [f1], fun j b u hb hu => ?_, ⟨e2, f3⟩, by simp [f4]⟩
    cases j with
    | zero => simp at hb hu; subst hb hu; exact e1
    | succ j => exact f2 j b u (by simpa using hb) (by simpa using hu)
  | [], _ :: _, _, _, _, _, hA, _, _ => hA.elim
  | [], [], _ :: _, _, _, _, hA, _, _ => hA.elim
  | _ :: _, [], _, _, _, _, hA, _, _ => hA.elim
  | _ :: _, _ :: _, [], _, _, _, hA, _, _ => hA.elim
theorem trodAll_stays (hl : laidOutB P = true) {W' : World} (hb : Below W.heap.size W W') : ∀ (ts : List Nat) (vs : List Value) (ds : List (DataW H)) (ps : List MemPlace), (∀ t ∈ ts, P.readableRec t = true ∧ t < P.types.size) →
    (∀ x ∈ ps, x.block < W.heap.size) → DataW.TrodAll enc P W 0 (fun _ => true) true ts vs ds ps → DataW.TrodAll enc P W' 0 (fun b => decide (b < W.heap.size)) true ts vs ds ps
  | [], [], [], ps, _, _, h => h
  | t :: ts, v :: vs, d :: ds, ps, hr, hlt, h => by
    obtain ⟨p, q, h1, h2, rfl⟩ := h
    exact ⟨p, q, Below.trod hl (hr t (by simp)).1 (hr t (by simp)).2 h1 hb (fun x hx => hlt x (List.mem_append_left _ hx)),
      trodAll_stays hl hb ts vs ds q (fun t ht => hr t (List.mem_cons_of_mem _ ht)) (fun x hx => hlt x (List.mem_append_right _ hx)) h2, rfl⟩
  | [], _ :: _, _, _, _, _, hA => hA.elim
  | [], [], _ :: _, _, _, _, hA => hA.elim
  | _ :: _, [], _, _, _, _, hA => hA.elim
  | _ :: _, _ :: _, [], _, _, _, hA => hA.elim
end
/-- What the contract gives, of one reading. -/
theorem law_core {T : Tab} {C : Checked} {f : FuncId} {fn : Func} {s : ChangeSpec} {H : Type} {enc : TypeId × Value → H} (ts : List Nat) (tb L n : Nat)
    (hT : TabOk C.prog T) (hl : laidOutB C.prog = true)
    (hts : fn.params = ts.toArray) (htb : fn.resultTypes = #[tb]) (hub : C.prog.underlying tb = some .bool) (hpl : ts.all (fun t => plainT T n t && C.prog.readableRec t && Nat.blt t C.prog.types.size) = true)
    (hvars : s.vars = []) (hspec : ∀ ds : List (DataW H), ds.length = ts.length → s.fn H (ds ++ []) = { results := [.lit (.bool true)], args := ds })
    (hcon : ∀ avs, TyAll T L n ts avs → Con C.prog f avs (.b true)) {W : World} {base : Nat} {args : Array Value} {ds gs : List (DataW H)} {before : List MemPlace} {us : List Nat}
    (hval : ∀ (j : Nat) t v, fn.params[j]? = some t → args[j]? = some v → Value.okWide C.prog W .any base t v) (hW : DataW.Whole enc C.prog fn.params.toList s.vars false W args.toList ds gs before)
    (hsz : (DataW.weightsEach C.prog (fn.params.toList ++ us) (ds ++ gs)).all (· ≤ reachBytes) = true) (hbk : bulkDs (ds ++ gs) ≤ L) :
    Calls C.prog f args W fun e W' => ∃ v, e = .returned v ∧ s.post enc C.prog fn false true false false W args v W' := by
  have hW' := hW
  obtain ⟨p, q, hA, hV, rfl, _, _⟩ := hW
  rw [hvars] at hV
  obtain ⟨rfl, rfl⟩ := trodVars_none hV
  rw [List.append_nil] at hW' hbk
  have hpars : fn.params.toList = ts := by rw [hts]
  have hA' : DataW.TrodAll enc C.prog W 0 (fun _ => true) true ts args.toList ds p := by rw [← hpars]; exact hA
  have hpl' : ∀ t ∈ ts, plainT T n t = true ∧ C.prog.readableRec t = true ∧ t < C.prog.types.size := by
    intro t ht
    have := List.all_eq_true.1 hpl t ht
    simp only [Bool.and_eq_true] at this
    exact ⟨this.1.1, this.1.2, by simpa using this.2⟩
  have hw : ∀ m ∈ DataW.weightsEach C.prog ts ds, m ≤ reachBytes := by
    intro m hm
    have hsz' := hsz
    rw [List.append_nil, hpars] at hsz'
    have hsub : ∀ (ts us : List Nat) (ds : List (DataW H)), ∀ m ∈ DataW.weightsEach C.prog ts ds, m ∈ DataW.weightsEach C.prog (ts ++ us) ds := by
      intro ts us ds
      induction ts generalizing ds with
      | nil => intro m hm; cases ds <;> simp [DataW.weightsEach] at hm
      | cons t ts ih =>
        intro m hm
        cases ds with
        | nil => simp [DataW.weightsEach] at hm
        | cons d ds =>
          simp only [DataW.weightsEach, List.cons_append, List.mem_append] at hm ⊢
          rcases hm with hm | hm
          · exact .inl hm
          · exact .inr (ih ds m hm)
    have := List.all_eq_true.1 hsz' m (hsub ts _ ds m hm)
    simpa using this
  obtain ⟨avs, h1, h2, h3, h4⟩ := open_args hT ts args.toList ds p (fun t ht => (hpl' t ht).1) (fun j t v ht hv => hval j t v (by rw [hts]; simpa using ht) (by simpa using hv)) hA' hw hbk
  have hlt : ∀ x ∈ p, x.block < W.heap.size := fun x hx => hW'.lt x hx
  have hsp := hspec ds h4
  have := (hcon avs h3).2 W (fun k => k < W.heap.size) args.toList (fun _ h => h) (by rw [h1]) h2
  rw [Array.toArray_toList] at this
  refine this.mono fun e W' ⟨v, he, hr, hb⟩ => ?_
  cases hr with
  | b =>
    refine ⟨_, he, ds, [], p, [], p, [], hW', ?_, ?_, ?_, hb.frame _, fun h => by cases h⟩
    · rw [hsp, htb]
      exact trodAll_mk1 (shut_bool hub true)
    · rw [hsp, hpars]
      exact trodAll_stays hl hb ts args.toList ds p (fun t ht => (hpl' t ht).2) hlt hA'
    · rw [hsp, hvars]
      rfl
/-- **A law's row, from its contract.** -/
theorem law_lifted {T : Tab} {C : Checked} {os : Os} {f : FuncId} {fn : Func} {s : ChangeSpec} {conds : List PathCond} {H : Type} {enc : TypeId × Value → H} (ts : List Nat) (tb n : Nat)
    (hT : TabOk C.prog T) (hl : laidOutB C.prog = true) (own : ownKnob C.prog.godebug = none) (started : os.Started) (noInit : C.prog.inits.idxOf? f = none) (hfn : C.prog.funcs[f]? = some fn)
    (hts : fn.params = ts.toArray) (htb : fn.resultTypes = #[tb]) (hub : C.prog.underlying tb = some .bool) (hpl : ts.all (fun t => plainT T n t && C.prog.readableRec t && Nat.blt t C.prog.types.size) = true)
    (hvars : s.vars = []) (hspec : ∀ ds : List (DataW H), ds.length = ts.length → s.fn H (ds ++ []) = { results := [.lit (.bool true)], args := ds })
    (witness : ∃ (w : World) (tape : Tape) (i : Input), w.os = os ∧ (w.forCall tape i).Shaped C.prog ∧ i.vars = [] ∧ Input.okWide C.prog (w.forCall tape i) .any w.heap.size f i ∧
      s.pre6 enc C.prog fn conds false (w.forCall tape i).memory i.args ∧ ({} : Assume).holds C.prog (lone (Frame.enter C.prog f i.args .normal) [] (w.forCall tape i)))
    (hcon : ∀ L avs, TyAll T L n ts avs → Con C.prog f avs (.b true)) :
    ReturnsInHanded {} C os f .any (s.pre6 enc C.prog fn conds false) (s.post enc C.prog fn false true false false) := by
  refine returnsInHanded_of_change_sized own started noInit hfn witness ?_
  intro W base args ds gs before hval hW _ hsz _
  exact law_core ts tb (bulkDs (ds ++ gs)) n hT hl hts htb hub hpl hvars hspec (hcon _) hval hW hsz (Nat.le_refl _)
/-- **The same of the second form**: where what is read is of a bounded bulk. -/
theorem law_lifted_upto {T : Tab} {C : Checked} {os : Os} {f : FuncId} {fn : Func} {s : ChangeSpec} {u : OpenSpec} {k : (H : Type) → List (DataW H) → Bool} {conds : List PathCond} {H : Type} {enc : TypeId × Value → H} (F : Stop.Interp) (ts : List Nat) (tb L n : Nat)
    (hu : u = { OpenSpec.ofChange s with cond := some k }) (hk : ∀ ds : List (DataW H), k H ds = true → bulkDs ds ≤ L)
    (hT : TabOk C.prog T) (hl : laidOutB C.prog = true) (own : ownKnob C.prog.godebug = none) (started : os.Started) (noInit : C.prog.inits.idxOf? f = none) (hfn : C.prog.funcs[f]? = some fn)
    (hts : fn.params = ts.toArray) (htb : fn.resultTypes = #[tb]) (hub : C.prog.underlying tb = some .bool) (hpl : ts.all (fun t => plainT T n t && C.prog.readableRec t && Nat.blt t C.prog.types.size) = true)
    (hvars : s.vars = []) (hspec : ∀ ds : List (DataW H), ds.length = ts.length → s.fn H (ds ++ []) = { results := [.lit (.bool true)], args := ds })
    (witness : ∃ (w : World) (tape : Tape) (i : Input), w.os = os ∧ (w.forCall tape i).Shaped C.prog ∧ i.vars = [] ∧ Input.okWide C.prog (w.forCall tape i) .any w.heap.size f i ∧
      u.pre6 enc C.prog fn conds false (w.forCall tape i).memory i.args ∧ ({} : Assume).holds C.prog (lone (Frame.enter C.prog f i.args .normal) [] (w.forCall tape i)))
    (hcon : ∀ avs, TyAll T L n ts avs → Con C.prog f avs (.b true)) :
    ReturnsInHanded {} C os f .any (u.pre6 enc C.prog fn conds false) ((u.at F).post enc C.prog fn false true false false) := by
  subst hu
  refine returnsInHanded_of_cond_sized (k := k) rfl own started noInit hfn witness ?_
  intro W base args ds gs before hval hW _ hkk hsz _
  exact law_core ts tb L n hT hl hts htb hub hpl hvars hspec hcon hval hW hsz (hk _ hkk)
theorem rows_typed {α : Type} {g : α → List AV} {Q : α → Prop} {C : List AV → Prop} (h : ∀ r, C r → ∃ x, r = g x ∧ Q x) : ∀ (rows : List (List AV)), (∀ r ∈ rows, C r) → ∃ xs : List α, rows = xs.map g ∧ ∀ x ∈ xs, Q x
  | [], _ => ⟨[], rfl, fun x hx => by simp at hx⟩
  | r :: rows, hr => by
    obtain ⟨x, h1, h2⟩ := h r (hr r (by simp))
    obtain ⟨xs, h3, h4⟩ := rows_typed h rows fun q hq => hr q (List.mem_cons_of_mem _ hq)
    refine ⟨x :: xs, by rw [h1, h3]; rfl, fun y hy => ?_⟩
    rcases List.mem_cons.1 hy with rfl | hy
    · exact h2
    · exact h4 y hy
end Go.E
namespace Go.Proofs.Ytjngmlkaijpbgaa
open Go.E
set_option maxRecDepth 100000
set_option maxHeartbeats 4000000
open Go.ChangeShapes Go.WideShapes Go.ChangeAt Go.RowKit Go
theorem Try.own : Go.ownKnob Try.prog.godebug = none := by kernel_rfl
theorem Try.laidOut : laidOutB Try.prog = true := by kernel_rfl
def inr (n : Int) : Prop := -9223372036854775808 ≤ n ∧ n ≤ 9223372036854775807
theorem ty3 {L n : Nat} {cs : List AV} (h : TyC tab L (n + 1) 3 cs) : ∃ x, cs = c3 x ∧ inr x := by
  obtain ⟨x, rfl, h1, h2⟩ := h
  exact ⟨x, rfl, h1, h2⟩
theorem ty33 {L n : Nat} {cs : List AV} (h : TyC tab L (n + 2) 33 cs) : ∃ xs : List Int, cs = c33 xs ∧ sz22 xs := by
  obtain ⟨rows, rfl, h1, h2, hL, h3⟩ := h
  obtain ⟨xs, rfl, hx⟩ := rows_typed (fun r hr => ty3 hr) rows h3
  exact ⟨xs, rfl, by rw [List.length_map] at h2; exact h2⟩
theorem ty26 {L n : Nat} {cs : List AV} (h : TyC tab L (n + 2) 26 cs) : ∃ d : Dot, cs = c26 d ∧ inr d.rep ∧ inr d.num := by
  obtain ⟨a, b, rfl, ha, c, d, rfl, hc, rfl⟩ := h
  obtain ⟨x, rfl, hx⟩ := ty3 ha
  obtain ⟨y, rfl, hy⟩ := ty3 hc
  exact ⟨⟨x, y⟩, rfl, hx, hy⟩
theorem one_eq {a b : AV} (h : [a] = [b]) : a = b := by simpa using h
theorem ta3 {L : Nat} {a : AV} (h : TyA tab L 9 3 a) : ∃ x, a = .i .i64 x ∧ inr x := by
  obtain ⟨x, hx, k⟩ := ty3 (L := L) (n := 8) (cs := [a]) h
  exact ⟨x, one_eq hx, k⟩
theorem ta33 {L : Nat} {a : AV} (h : TyA tab L 9 33 a) : ∃ x : List Int, a = .sl (x.map c3) ∧ sz22 x := by
  obtain ⟨x, hx, k⟩ := ty33 (L := L) (n := 7) (cs := [a]) h
  exact ⟨x, one_eq hx, k⟩
theorem ta26 {L : Nat} {a : AV} (h : TyA tab L 9 26 a) : ∃ x : Dot, a = .agg (c26 x) ∧ inr x.rep ∧ inr x.num := by
  obtain ⟨cs, rfl, h2⟩ := (show ∃ cs, a = .agg cs ∧ TyC tab L 9 26 cs from h)
  obtain ⟨d, rfl, k⟩ := ty26 (L := L) (n := 7) h2
  exact ⟨d, rfl, k⟩
theorem ty9 {L n : Nat} {cs : List AV} (h : TyC tab L (n + 1) 9 cs) : ∃ s : ByteArray, cs = [.s s] ∧ s.size ≤ 140737488351232 := by
  obtain ⟨s, rfl, _, h2, _⟩ := h
  exact ⟨s, rfl, h2⟩
theorem ta9 {L : Nat} {a : AV} (h : TyA tab L 9 9 a) : ∃ s : ByteArray, a = .s s ∧ s.size ≤ 140737488351232 := by
  obtain ⟨x, hx, k⟩ := ty9 (L := L) (n := 8) (cs := [a]) h
  exact ⟨x, one_eq hx, k⟩
theorem ty81 {L n : Nat} {cs : List AV} (h : TyC tab L (n + 2) 81 cs) : ∃ d : Span, cs = c81 d ∧ inr d.rep ∧ inr d.lo ∧ inr d.hi := by
  obtain ⟨a, b, rfl, ha, c, d, rfl, hc, e, f, rfl, he, rfl⟩ := h
  obtain ⟨x, rfl, hx⟩ := ty3 ha
  obtain ⟨y, rfl, hy⟩ := ty3 hc
  obtain ⟨z, rfl, hz⟩ := ty3 he
  exact ⟨⟨x, y, z⟩, rfl, hx, hy, hz⟩
def inE (e : Entry) : Prop := inr e.dot.rep ∧ inr e.dot.num ∧ e.sku.size ≤ 140737488351232 ∧ inr e.qty
theorem ty28 {L n : Nat} {cs : List AV} (h : TyC tab L (n + 3) 28 cs) : ∃ e : Entry, cs = c28 e ∧ inE e := by
  obtain ⟨a, b, rfl, ha, c, d, rfl, hc, e, f, rfl, he, rfl⟩ := h
  obtain ⟨x, rfl, hx⟩ := ty26 ha
  obtain ⟨y, rfl, hy⟩ := ty9 hc
  obtain ⟨z, rfl, hz⟩ := ty3 he
  exact ⟨⟨x, y, z⟩, rfl, hx.1, hx.2, hy, hz⟩
theorem ty22 {L n : Nat} {cs : List AV} (h : TyC tab L (n + 4) 22 cs) : ∃ xs : List Entry, cs = [.sl (xs.map c28)] ∧ ((∀ x ∈ xs, inE x) ∧ xs.length * 40 ≤ 140737488351232) ∧ xs.length ≤ L := by
  obtain ⟨rows, rfl, h1, h2, hL, h3⟩ := h
  obtain ⟨xs, rfl, hx⟩ := rows_typed (fun r hr => ty28 hr) rows h3
  exact ⟨xs, rfl, ⟨hx, by rw [List.length_map] at h2; exact h2⟩, by rw [List.length_map] at hL; exact hL⟩
theorem ta22 {L : Nat} {a : AV} (h : TyA tab L 9 22 a) : ∃ xs : List Entry, a = .sl (xs.map c28) ∧ ((∀ x ∈ xs, inE x) ∧ xs.length * 40 ≤ 140737488351232) ∧ xs.length ≤ L := by
  obtain ⟨x, hx, k⟩ := ty22 (L := L) (n := 5) (cs := [a]) h
  exact ⟨x, one_eq hx, k⟩
theorem ty34 {L n : Nat} {cs : List AV} (h : TyC tab L (n + 3) 34 cs) : ∃ xs : List Span, cs = [.sl (xs.map c81)] ∧ (∀ x ∈ xs, inr x.rep ∧ inr x.lo ∧ inr x.hi) ∧ xs.length * 24 ≤ 140737488351232 := by
  obtain ⟨rows, rfl, h1, h2, hL, h3⟩ := h
  obtain ⟨xs, rfl, hx⟩ := rows_typed (fun r hr => ty81 hr) rows h3
  exact ⟨xs, rfl, hx, by rw [List.length_map] at h2; exact h2⟩
def inP (p : Past) : Prop := p.vec.length * 8 ≤ 140737488351232 ∧ (∀ x ∈ p.cloud, inr x.rep ∧ inr x.lo ∧ inr x.hi) ∧ p.cloud.length * 24 ≤ 140737488351232
theorem ty36 {L n : Nat} {cs : List AV} (h : TyC tab L (n + 4) 36 cs) : ∃ p : Past, cs = c36 p ∧ inP p := by
  obtain ⟨a, b, rfl, ha, c, d, rfl, hc, rfl⟩ := h
  obtain ⟨x, rfl, hx⟩ := ty33 (L := L) (n := n + 1) ha
  obtain ⟨y, rfl, hy⟩ := ty34 hc
  exact ⟨⟨x, y⟩, rfl, hx, hy⟩
def inC (c : Case) : Prop := ((∀ x ∈ c.a, inE x) ∧ c.a.length * 40 ≤ 140737488351232) ∧ ((∀ x ∈ c.b, inE x) ∧ c.b.length * 40 ≤ 140737488351232) ∧ inP c.p ∧ c.sku.size ≤ 140737488351232
theorem ty38 {L n : Nat} {cs : List AV} (h : TyC tab L (n + 5) 38 cs) : ∃ c : Case, cs = c38 c ∧ inC c ∧ c.a.length ≤ L ∧ c.b.length ≤ L := by
  obtain ⟨a, b, rfl, ha, a2, b2, rfl, ha2, a3, b3, rfl, ha3, a4, b4, rfl, ha4, a5, b5, rfl, ha5, a6, b6, rfl, ha6, rfl⟩ := h
  obtain ⟨x1, rfl, h1⟩ := ty22 ha
  obtain ⟨x2, rfl, h2⟩ := ty22 ha2
  obtain ⟨x3, rfl, h3⟩ := ty36 ha3
  obtain ⟨x4, rfl, h4⟩ := ty26 (L := L) (n := n + 2) ha4
  obtain ⟨x5, rfl, h5⟩ := ty3 (L := L) (n := n + 3) ha5
  obtain ⟨x6, rfl, h6⟩ := ty9 (L := L) (n := n + 3) ha6
  exact ⟨⟨x1, x2, x3, x4, x5, x6⟩, rfl, ⟨h1.1, h2.1, h3, h6⟩, h1.2, h2.2⟩
theorem ta38 {L : Nat} {a : AV} (h : TyA tab L 9 38 a) : ∃ c : Case, a = .agg (c38 c) ∧ inC c ∧ c.a.length ≤ L ∧ c.b.length ≤ L := by
  obtain ⟨cs, rfl, h2⟩ := (show ∃ cs, a = .agg cs ∧ TyC tab L 9 38 cs from h)
  obtain ⟨d, rfl, k⟩ := ty38 (L := L) (n := 4) h2
  exact ⟨d, rfl, k⟩
mutual
theorem bulk_eq {H : Type} : ∀ d : DataW H, Rows.uptoBulk d = bulkD d
  | .lit l => by cases l <;> simp [Rows.uptoBulk, bulkD]
  | .nil => by simp [Rows.uptoBulk, bulkD]
  | .ptr d => by simp only [Rows.uptoBulk, bulkD, bulk_eq d]
  | .slice elems spare => by simp only [Rows.uptoBulk, bulkD, bulks_eq elems, bulks_eq spare]
  | .agg parts => by simp only [Rows.uptoBulk, bulkD, bulks_eq parts]
  | .iface _ d => by simp only [Rows.uptoBulk, bulkD, bulk_eq d]
  | .map entries => by simp only [Rows.uptoBulk, bulkD, bulkm_eq entries]
  | .held _ => by simp [Rows.uptoBulk, bulkD]
theorem bulks_eq {H : Type} : ∀ l : List (DataW H), Rows.uptoBulkAll l = bulkDs l
  | [] => by simp [Rows.uptoBulkAll, bulkDs]
  | d :: r => by simp only [Rows.uptoBulkAll, bulkDs, bulk_eq d, bulks_eq r]
theorem bulkm_eq {H : Type} : ∀ l : List (Lit × DataW H), Rows.uptoBulkEntries l = bulkDm l
  | [] => by simp [Rows.uptoBulkEntries, bulkDm]
  | x :: r => by simp only [Rows.uptoBulkEntries, bulkDm, bulke_eq x, bulkm_eq r]
theorem bulke_eq {H : Type} : ∀ x : Lit × DataW H, Rows.uptoBulkEntry x = bulkDe x
  | (l, d) => by cases l <;> simp only [Rows.uptoBulkEntry, bulkDe, bulk_eq d]
end
theorem bulk_small {H : Type} (ds : List (DataW H)) (h : Rows.uptoSmall H ds = true) : bulkDs ds ≤ 1048576 := by
  rw [← bulks_eq]
  exact of_decide_eq_true h
end Go.Proofs.Ytjngmlkaijpbgaa
namespace Go.Proofs.Ytjngmlkaijpbgaa
open Go.E Go.ChangeShapes Go.WideShapes Go.ChangeAt Go.RowKit
set_option maxRecDepth 100000
theorem law12 {L : Nat} {a1 : AV} (h1 : TyA tab L 9 22 a1) {a2 : AV} (h2 : TyA tab L 9 22 a2) : Con Try.prog 12 [a1, a2] (.b true) := by
  obtain ⟨x1, rfl, k1⟩ := ta22 h1
  obtain ⟨x2, rfl, k2⟩ := ta22 h2
  exact con12 x1 x2 k1.1.2 k2.1.2
theorem LinesFolds_lifted (os : Os) (started : os.Started) (H : Type) (enc : TypeId × Value → H) :
    ReturnsInHanded {} Try.checked os 12 .any (Rows.linesFoldsSpec.pre6 enc Try.prog Try.f12 Rows.linesFoldsRow.domain false) (Rows.linesFoldsSpec.post enc Try.prog Try.f12 false true false false) := by
  refine law_lifted (C := Try.checked) [22, 22] 4 9 tab_ok Try.laidOut Try.own started (by kernel_rfl) Try.func12 rfl rfl (by kernel_rfl) (by kernel_rfl) rfl ?_
    (ChangeSpec.witness6 (enc := enc) (C := Try.checked) false ⟨#[], #[.slice none 0 0, .slice none 0 0], []⟩ 8 (by kernel_rfl) (by kernel_rfl) (by kernel_rfl) (by kernel_rfl)) ?_
  · intro ds hds
    rcases ds with _ | ⟨d1, _ | ⟨d2, _ | ⟨d3, l⟩⟩⟩
    · exact absurd hds (by simp)
    · exact absurd hds (by simp)
    · kernel_rfl
    · exact absurd hds (by simp)
  · intro L avs h
    rcases avs with _ | ⟨a1, _ | ⟨a2, _ | ⟨a3, l⟩⟩⟩
    · exact h.elim
    · exact h.2.elim
    · exact law12 h.1 h.2.1
    · exact h.2.2.elim
theorem LinesFolds_holds : Rows.LinesFoldsSaid :=
  OpenClaim.holds_of_wide 12 Try.f12 rfl rfl rfl rfl rfl rfl rfl ⟨rfl, rfl, rfl, rfl, rfl⟩ rfl rfl rfl rfl rfl (by kernel_rfl) Try.func12 (by kernel_rfl)
    (of_decide_eq_true (by kernel_rfl)) (by unfold Func.isWrapper; first | (rw [if_pos (by decide +kernel)]; kernel_rfl) | (rw [if_neg (by decide +kernel)]; exact ⟨rfl, rfl⟩))
    (fun os started H enc _ => LinesFolds_lifted os started H enc)
end Go.Proofs.Ytjngmlkaijpbgaa
