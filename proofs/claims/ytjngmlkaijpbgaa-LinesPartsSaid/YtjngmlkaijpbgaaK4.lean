/- Pe: past: what the sets come to. Conditions: sizes. Pf: past: dots, and the set of dots. Conditions: sizes. Pg: past: the sets that pasts mean. Conditions: sizes. Ph: past: Norm. Conditions: sizes. Pi: past: the library's Equal, IsNorm. Conditions: sizes. Pj: past: Has. Conditions: none. Rh: the past in plain words: what is in a set in form. Conditions: none. Lm: lines: Dots, Inside, Outside. Conditions: sizes. Ya: the library's stable sort, piece by piece: what each function of it does to the row. Conditions: what is asked of 'less' and of 'swap'. Yb: the library's stable sort: symMerge puts two sorted runs into one. Conditions: what is asked of 'less' and of 'swap'; the order. Yc: the library's stable sort, whole: blocks of 20 by insertion, then merged by pairs. Conditions: what is asked of 'less' and of 'swap'; the order. Yd: the library's stable sort: the one order that it gives (by tags: each element with its place), and sort.SliceStable. Conditions: what is asked of 'less'; the order; the types. Ye: sort.SliceStable, walked. Conditions: what is asked of 'less'; the order; the types. Yg: sort.SliceStable as a call that puts a row of one's own into the stable order. Conditions: 'less' by its contract; the order; the types. -/
import Derived.WalkKit
import Derived.Shelf.SlSortFuncK.SWK
import Derived.Deep.Cut
import Derived.Deep.CutRange
import Derived.Deep.DeepCutAuto
import Derived.Lib.ReflectliteSwap
import Derived.Laws.Externs
import Derived.Lib.ReflectliteSlice
import Derived.Test.YtjngmlkaijpbgaaK3
set_option linter.unusedVariables false
set_option linter.unusedSimpArgs false
set_option linter.unusedSectionVars false
namespace Go.Proofs.Ytjngmlkaijpbgaa
open Go.E
set_option maxRecDepth 100000
set_option maxHeartbeats 4000000
def leadT (T : Nat → List Run) (r : Nat) : Int := (leadR (nrm (T r))).1
def restT (T : Nat → List Run) (r : Nat) : List Span := (leadR (nrm (T r))).2.map fun x => ⟨r, x.lo, x.hi⟩
def szT (T : Nat → List Run) : Nat → Int
  | 0 => 0
  | n + 1 => if 0 < leadT T n then n + 1 else szT T n
def cloudT (T : Nat → List Run) : Nat → List Span
  | 0 => []
  | n + 1 => cloudT T n ++ restT T n
def vecT (T : Nat → List Run) (n : Nat) : List Int := (List.range n).map (leadT T) ++ List.replicate (16 - n) 0
def tabP (T : Nat → List Run) : Past := ⟨(vecT T 16).take (szT T 16).toNat, cloudT T 16⟩
def isSz (T : Nat → List Run) (r s : Int) : Prop := s = szT T r.toNat
def isVec (T : Nat → List Run) (r : Int) (v : List Int) : Prop := v = vecT T r.toNat
def isCloud (T : Nat → List Run) (r : Int) (c : List Span) : Prop := c = cloudT T r.toNat
def isCloud2 (T : Nat → List Run) (r j : Int) (c : List Span) : Prop := c = cloudT T r.toNat ++ (restT T r.toNat).take j.toNat
def inv81a (T : Nat → List Run) (s r : Int) (v : List Int) (c : List Span) : Prop := 0 ≤ r ∧ r ≤ 16 ∧ 0 ≤ s ∧ s ≤ r ∧ v.length = 16 ∧ isSz T r s ∧ isVec T r v ∧ isCloud T r c
def dec81a (s r : Int) (v : List Int) (c : List Span) : Nat := (16 - r).toNat
def inv81b (T : Nat → List Run) (r : Int) (w : List Int) (j : Int) (v : List Int) (c : List Span) : Prop := v = w ∧ 0 ≤ j ∧ j ≤ (leadR (nrm (T r.toNat))).2.length ∧ isCloud2 T r j c
def dec81b (T : Nat → List Run) (r : Int) (j : Int) (v : List Int) (c : List Span) : Nat := ((leadR (nrm (T r.toNat))).2.length - j).toNat
theorem rest_len (T : Nat → List Run) (r : Nat) : (leadR (nrm (T r))).2.length ≤ 500000000 := by
  have h := sepR_len (nrm_sep (T r))
  unfold leadR
  split
  · exact h
  · simp only [List.length_drop]; omega
theorem cloud_len (T : Nat → List Run) : ∀ n : Nat, (cloudT T n).length ≤ n * 500000000
  | 0 => by simp [cloudT]
  | n + 1 => by
    have h1 := cloud_len T n
    have h2 := rest_len T n
    rw [cloudT, List.length_append, restT, List.length_map]
    omega
theorem cloud2_len {T : Nat → List Run} {r j : Int} {c : List Span} (h0 : 0 ≤ r) (h1 : r < 16) (hc : isCloud2 T r j c) : c.length ≤ 8000000000 := by
  unfold isCloud2 at hc
  have h2 := cloud_len T r.toNat
  have h3 := rest_len T r.toNat
  rw [hc, List.length_append, List.length_take, restT, List.length_map]
  omega
theorem cloud2_start {T : Nat → List Run} {r : Int} {c : List Span} (hc : isCloud T r c) : isCloud2 T r 0 c := by
  unfold isCloud isCloud2 at *
  simpa using hc
theorem cloud2_next {T : Nat → List Run} {r j : Int} {c : List Span} (h0 : 0 ≤ r) (j0 : 0 ≤ j) (jl : j < (leadR (nrm (T r.toNat))).2.length) (hc : isCloud2 T r j c) :
    isCloud2 T r (j + 1) (c ++ [⟨r, ((leadR (nrm (T r.toNat))).2[j.toNat]!).lo, ((leadR (nrm (T r.toNat))).2[j.toNat]!).hi⟩]) := by
  unfold isCloud2 at *
  have hl : (j : Int) < (restT T r.toNat).length := by rw [restT, List.length_map]; exact jl
  rw [← take_step j0 hl, ← List.append_assoc, ← hc]
  have e : (restT T r.toNat)[j.toNat]! = ⟨r, ((leadR (nrm (T r.toNat))).2[j.toNat]!).lo, ((leadR (nrm (T r.toNat))).2[j.toNat]!).hi⟩ := by
    have hj : j.toNat < (leadR (nrm (T r.toNat))).2.length := by omega
    rw [getElem!_pos (restT T r.toNat) j.toNat (by omega), getElem!_pos (leadR (nrm (T r.toNat))).2 j.toNat hj]
    simp only [restT, List.getElem_map]
    congr 1
    omega
  rw [e]
theorem cloud_next {T : Nat → List Run} {r j : Int} {c : List Span} (h0 : 0 ≤ r) (jl : ¬ j < (leadR (nrm (T r.toNat))).2.length) (hc : isCloud2 T r j c) : isCloud T (r + 1) c := by
  unfold isCloud2 isCloud at *
  rw [hc, show (r + 1).toNat = r.toNat + 1 by omega, cloudT, List.take_of_length_le (by rw [restT, List.length_map]; omega)]
theorem vec_next {T : Nat → List Run} {r : Int} {v : List Int} (h0 : 0 ≤ r) (h1 : r < 16) (hv : isVec T r v) : isVec T (r + 1) (v.set r.toNat (leadR (nrm (T r.toNat))).1) := by
  unfold isVec at *
  rw [hv, show (r + 1).toNat = r.toNat + 1 by omega]
  unfold vecT
  generalize hn : r.toNat = n
  have hn' : n < 16 := by omega
  rw [List.set_append_right _ _ (by simp), List.length_map, List.length_range, Nat.sub_self, show 16 - n = (16 - (n + 1)) + 1 by omega, List.replicate_succ, List.set_cons_zero, List.range_succ, List.map_append, List.append_assoc]
  rfl
theorem sz_next {T : Nat → List Run} {r s : Int} (h0 : 0 ≤ r) (hs : isSz T r s) : isSz T (r + 1) (if 0 < (leadR (nrm (T r.toNat))).1 then r + 1 else s) := by
  unfold isSz at *
  rw [show (r + 1).toNat = r.toNat + 1 by omega, szT, leadT, hs]
  split
  · omega
  · rfl
theorem tab_end {T : Nat → List Run} {r s : Int} {v : List Int} {c : List Span} (h1 : r ≤ 16) (h : ¬ r < 16) (hs : isSz T r s) (hv : isVec T r v) (hc : isCloud T r c) : tabP T = ⟨v.take s.toNat, c⟩ := by
  unfold isSz isVec isCloud at *
  have : r.toNat = 16 := by omega
  rw [this] at hs hv hc
  unfold tabP
  rw [hs, hv, hc]
theorem con81 (t : Nat → List Run) (hb : ∀ r : Nat, r < 16 → (t r).length * 16 ≤ 140737488351232) : Con Try.prog 81 [.eptr (tabC c108 16 t)] (.agg (c36 (tabP t))) :=
  by
  refine st_con tab_ok (by kernel_rfl) [.cell 2 36] 59 Go.Proofs.Try.func81 (by kernel_rfl) (by kernel_rfl) ?_
  intro e0 cx
  refine sq ?_
  refine rg (A := True) cx [] [0, 2] [2] trivial ?_
  refine sn ?_
  refine sq ?_
  refine rg (A := True) cx [] [0, 2, 3] [2, 3] trivial ?_
  refine sn ?_
  refine sq ?_
  refine rg (A := ((16 : Int) = (↑(16 : Nat) : Int)) ∧ ((16 : Int) = (↑(16 : Nat) : Int)) ∧ ((8 : Nat) * (16 : Nat) ≤ (281474976710656 : Nat)) ∧ ((16 : Nat) ≤ maxLen) ∧ ([AV.i IntKind.i64 (0 : Int)].length = (1 : Nat)) ∧ (ZLe [AV.i IntKind.i64 (0 : Int)] [AV.i IntKind.i64 (0 : Int)]) ∧ (List.replicate (16 : Nat) [AV.i IntKind.i64 (0 : Int)] = List.map c3 (List.replicate (16 : Nat) (0 : Int)))) cx [(0, { row := [.i .i64 ((0 : Int))], rows := some (List.map c3 (List.replicate (16 : Nat) (0 : Int))), n := (16 : Nat) })] [0, 2, 3, 4] [2, 3, 11] ⟨(by kernel_rfl), (by kernel_rfl), (by omega), (by (simp only [Go.maxLen]; omega)), (by kernel_rfl), (by (with_reducible exact ZLe.refl _)), (by (with_reducible refine rep_map ?_; kernel_rfl))⟩ ?_
  refine sn ?_
  refine sq ?_
  refine rg (A := True) cx [] [0, 2, 3, 4, 5] [2, 3, 11] trivial ?_
  refine sn ?_
  refine sq ?_
  refine sq ?_
  refine rg (A := True) cx [] [0, 2, 3, 4, 5, 12] [2, 3, 11] trivial ?_
  refine sn ?_
  refine st_block 0 (by kernel_rfl) ?_
  refine awp_cellIn 3 81 3 1 5301 (σ' := ⟨[(0, .eptr (tabC c108 (16 : Nat) t)), (2, .ptr (2) (0) (0) (0)), (3, .ptr (3) (0) (0) (0)), (4, .own 11 0), (5, .i .i64 ((0 : Int))), (12, .i .i64 ((0 : Int)))], [(2, ⟨0, 36, .var [.nl, .nl]⟩), (3, ⟨0, 36, .var [.nl, .own 5301 0]⟩), (11, ⟨0, 3, .row 1 (List.map c3 (List.replicate (16 : Nat) (0 : Int)))⟩), (5301, ⟨0, 81, .row 3 (List.map c81 [])⟩)]⟩) (by kernel_rfl) ?_
  refine st_loop (X := Int × Int × List Int × List Span) (fun x => ⟨[(0, .eptr (tabC c108 (16 : Nat) t)), (2, .ptr (2) (0) (0) (0)), (3, .ptr (3) (0) (0) (0)), (4, .own 11 0), (5, .i .i64 (x.fst)), (12, .i .i64 (x.snd.fst))], [(2, ⟨0, 36, .var [.nl, .nl]⟩), (3, ⟨0, 36, .var [.nl, .own 5301 0]⟩), (11, ⟨0, 3, .row 1 (List.map c3 x.snd.snd.fst)⟩), (5301, ⟨0, 81, .row 3 (List.map c81 x.snd.snd.snd)⟩)]⟩) (fun x ↦ dec81a x.fst x.snd.fst x.snd.snd.fst x.snd.snd.snd) (fun x ↦ inv81a t x.fst x.snd.fst x.snd.snd.fst x.snd.snd.snd) [0, 2, 3, 4, 5, 12] [2, 3, 11, 5301] (((0 : Int), (0 : Int), List.replicate (16 : Nat) (0 : Int), [])) (by kernel_rfl) (by kernel_rfl) (show inv81a t (0 : Int) (0 : Int) (List.replicate (16 : Nat) (0 : Int)) [] from ?g0) ?_; rotate_left 1
  rintro ⟨s_0, r_1, v_2, c_3⟩ h_4
  obtain ⟨h_5, h_6, h_7, h_8, h_9, h_10, h_11, h_12⟩ : (0 : Int) ≤ r_1 ∧ r_1 ≤ (16 : Int) ∧ (0 : Int) ≤ s_0 ∧ s_0 ≤ r_1 ∧ v_2.length = (16 : Nat) ∧ isSz t r_1 s_0 ∧ isVec t r_1 v_2 ∧ isCloud t r_1 c_3 := h_4
  refine sq ?_
  refine rg (A := (AV.b (decide (r_1 < (16 : Int))) = AV.b (decide (r_1 < (16 : Int))))) cx [(0, { tell := some (.b (decide (r_1 < (16 : Int)))) })] [0, 2, 3, 4, 5, 12, 13] [2, 3, 11, 5301] (by kernel_rfl) ?_
  refine sn ?_
  refine sq ?_
  refine st_dec (r_1 < (16 : Int)) (by kernel_rfl) (by kernel_rfl) (fun h_13 => ?_) (fun h_13 => ?_)
  refine st_skip (by kernel_rfl) ?_
  refine sn ?_
  refine sq ?_
  refine st_block 1 (by kernel_rfl) ?_
  refine sq ?_
  refine rg (A := True) cx [] [0, 2, 3, 4, 5, 12, 6] [2, 3, 11, 5301] trivial ?_
  refine sn ?_
  refine sq ?_
  have hl_14 := (rng_nrm (t r_1.toNat))
  refine rg (A := ((0 : Int) ≤ r_1) ∧ (r_1 < (↑(16 : Nat) : Int)) ∧ ((List.drop (r_1.toNat * (1 : Nat)) (tabC c108 (16 : Nat) t))[(0 : Nat)]? = some (AV.sl (List.map c108 (t r_1.toNat)))) ∧ _) cx [(4, { row := [.sl (List.map c108 (t r_1.toNat))] }), (5, { val := some (.tup [.i .i64 ((leadR (nrm (t r_1.toNat))).fst), .sl (List.map c108 (leadR (nrm (t r_1.toNat))).snd)]) })] [0, 2, 3, 4, 5, 12, 6, 7, 8] [2, 3, 11, 5301] ⟨(by (with_reducible assumption)), (by omega), (by (exact get_tabC_drop (by omega))), (con113 (t r_1.toNat) ?g1)⟩ ?_; rotate_left 1
  refine sn ?_
  refine sq ?_
  refine rg (A := ((0 : Int) ≤ r_1) ∧ (r_1.toNat < (List.map c3 v_2).length) ∧ ((1 : Nat) = 1) ∧ ((List.map c3 v_2)[r_1.toNat]? = some (c3 v_2[r_1.toNat]!)) ∧ ((cellsA (AV.i IntKind.i64 (leadR (nrm (t r_1.toNat))).fst)).length = (1 : Nat)) ∧ (0 + (1 : Nat) ≤ 1) ∧ ((List.map c3 v_2).set r_1.toNat (List.take (0) (c3 v_2[r_1.toNat]!) ++ cellsA (AV.i IntKind.i64 (leadR (nrm (t r_1.toNat))).fst) ++ List.drop (0 + (1 : Nat)) (c3 v_2[r_1.toNat]!)) = List.map c3 (v_2.set r_1.toNat (leadR (nrm (t r_1.toNat))).fst))) cx [(4, { row := (c3 v_2[r_1.toNat]!), rows := some (List.map c3 (v_2.set r_1.toNat (leadR (nrm (t r_1.toNat))).fst)) })] [0, 2, 3, 4, 5, 12, 6, 7, 8] [2, 3, 11, 5301] ⟨(by (with_reducible assumption)), (by (first | omega | (simp only [List.length_map]; omega))), (by kernel_rfl), (by (with_reducible refine get_map ?_; omega)), (by kernel_rfl), (by (first | omega | (simp only [List.length_map]; omega))), (by (with_reducible refine set_map ?_; kernel_rfl))⟩ ?_
  refine sn ?_
  refine sq ?_
  refine sq ?_
  refine rg (A := (AV.b (decide ((leadR (nrm (t r_1.toNat))).fst > (0 : Int))) = AV.b (decide ((0 : Int) < (leadR (nrm (t r_1.toNat))).fst)))) cx [(1, { tell := some (.b (decide ((0 : Int) < (leadR (nrm (t r_1.toNat))).fst))) })] [0, 2, 3, 4, 5, 12, 6, 8, 29] [2, 3, 11, 5301] (by kernel_rfl) ?_
  refine sn ?_
  refine st_dec ((0 : Int) < (leadR (nrm (t r_1.toNat))).fst) (by kernel_rfl) (by kernel_rfl) (fun h_15 => ?_) (fun h_15 => ?_)
  refine rg (A := (AV.i IntKind.i64 (IntKind.i64.wrap (r_1 + (1 : Int))) = AV.i IntKind.i64 (r_1 + (1 : Int)))) cx [(1, { tell := some (.i .i64 (r_1 + (1 : Int))) })] [0, 2, 3, 4, 5, 12, 6, 8] [2, 3, 11, 5301] (told_i64 (by omega) (by omega)) ?_
  refine sn ?_
  refine sq ?_
  refine rg (A := _) cx [(1, { tell := some (.i .i64 ((↑(leadR (nrm (t r_1.toNat))).snd.length : Int))) })] [0, 2, 3, 4, 5, 12, 6, 32, 33, 34] [2, 3, 11, 5301] (told_len c108 (leadR (nrm (t r_1.toNat))).snd) ?_
  refine sn ?_
  refine st_block 2 (by kernel_rfl) ?_
  refine st_loop (X := Int × List Int × List Span) (fun x => ⟨[(0, .eptr (tabC c108 (16 : Nat) t)), (2, .ptr (2) (0) (0) (0)), (3, .ptr (3) (0) (0) (0)), (4, .own 11 0), (5, .i .i64 (r_1 + (1 : Int))), (12, .i .i64 (r_1)), (6, .i .i64 (r_1)), (32, .sl (List.map c108 (leadR (nrm (t r_1.toNat))).snd)), (33, .i .i64 ((↑(leadR (nrm (t r_1.toNat))).snd.length : Int))), (34, .i .i64 (x.fst))], [(2, ⟨0, 36, .var [.nl, .nl]⟩), (3, ⟨0, 36, .var [.nl, .own 5301 0]⟩), (11, ⟨0, 3, .row 1 (List.map c3 x.snd.fst)⟩), (5301, ⟨0, 81, .row 3 (List.map c81 x.snd.snd)⟩)]⟩) (fun x ↦ dec81b t r_1 x.fst x.snd.fst x.snd.snd) (fun x ↦ inv81b t r_1 (v_2.set r_1.toNat (leadR (nrm (t r_1.toNat))).fst) x.fst x.snd.fst x.snd.snd) [0, 2, 3, 4, 5, 12, 6, 32, 33, 34] [2, 3, 11, 5301] (((0 : Int), v_2.set r_1.toNat (leadR (nrm (t r_1.toNat))).fst, c_3)) (by kernel_rfl) (by kernel_rfl) (show inv81b t r_1 (v_2.set r_1.toNat (leadR (nrm (t r_1.toNat))).fst) (0 : Int) (v_2.set r_1.toNat (leadR (nrm (t r_1.toNat))).fst) c_3 from ?g2) ?_; rotate_left 1
  rintro ⟨j_16, v_17, c_18⟩ h_19
  obtain ⟨h_20, h_21, h_22, h_23⟩ : v_17 = v_2.set r_1.toNat (leadR (nrm (t r_1.toNat))).fst ∧ (0 : Int) ≤ j_16 ∧ j_16 ≤ (↑(leadR (nrm (t r_1.toNat))).snd.length : Int) ∧ isCloud2 t r_1 j_16 c_18 := h_19
  refine sq ?_
  refine rg (A := (AV.b (decide (j_16 < (↑(leadR (nrm (t r_1.toNat))).snd.length : Int))) = AV.b (decide (j_16 < (↑(leadR (nrm (t r_1.toNat))).snd.length : Int))))) cx [(0, { tell := some (.b (decide (j_16 < (↑(leadR (nrm (t r_1.toNat))).snd.length : Int)))) })] [0, 2, 3, 4, 5, 12, 6, 32, 33, 34, 35] [2, 3, 11, 5301] (by kernel_rfl) ?_
  refine sn ?_
  refine sq ?_
  refine st_dec (j_16 < (↑(leadR (nrm (t r_1.toNat))).snd.length : Int)) (by kernel_rfl) (by kernel_rfl) (fun h_24 => ?_) (fun h_24 => ?_)
  refine st_skip (by kernel_rfl) ?_
  refine sn ?_
  refine sq ?_
  refine st_block 3 (by kernel_rfl) ?_
  refine sq ?_
  refine rg (A := ((0 : Int) ≤ j_16) ∧ ((List.map c108 (leadR (nrm (t r_1.toNat))).snd)[j_16.toNat]? = some (c108 (leadR (nrm (t r_1.toNat))).snd[j_16.toNat]!)) ∧ ((c108 (leadR (nrm (t r_1.toNat))).snd[j_16.toNat]!).length = (2 : Nat)) ∧ ((2 : Nat) ≤ [AV.i IntKind.i64 (leadR (nrm (t r_1.toNat))).snd[j_16.toNat]!.lo, AV.i IntKind.i64 (leadR (nrm (t r_1.toNat))).snd[j_16.toNat]!.hi].length)) cx [(0, { row := (c108 (leadR (nrm (t r_1.toNat))).snd[j_16.toNat]!) })] [0, 2, 3, 4, 5, 12, 6, 32, 33, 34, 10] [2, 3, 11, 5301, 10] ⟨(by (with_reducible assumption)), (by (with_reducible refine get_map ?_; omega)), (by kernel_rfl), (by (simp only [List.length_append, List.length_cons, List.length_nil]; omega))⟩ ?_
  refine sn ?_
  refine rg (A := (81 = (81 : Nat)) ∧ ((3 : Nat) = 3) ∧ ([AV.i IntKind.i64 (0 : Int), AV.i IntKind.i64 (0 : Int), AV.i IntKind.i64 (0 : Int)].length = (3 : Nat)) ∧ (∀ (r : List AV), r ∈ List.map c81 [{ rep := r_1, lo := (leadR (nrm (t r_1.toNat))).snd[j_16.toNat]!.lo, hi := (leadR (nrm (t r_1.toNat))).snd[j_16.toNat]!.hi : Span }] → r.length = 3) ∧ ((List.map c81 c_18).length + (List.map c81 [{ rep := r_1, lo := (leadR (nrm (t r_1.toNat))).snd[j_16.toNat]!.lo, hi := (leadR (nrm (t r_1.toNat))).snd[j_16.toNat]!.hi : Span }]).length ≤ maxLen) ∧ (((List.map c81 c_18).length + (List.map c81 [{ rep := r_1, lo := (leadR (nrm (t r_1.toNat))).snd[j_16.toNat]!.lo, hi := (leadR (nrm (t r_1.toNat))).snd[j_16.toNat]!.hi : Span }]).length) * (24 : Nat) ≤ (140737488355328 : Nat)) ∧ (List.map c81 c_18 ++ List.map c81 [{ rep := r_1, lo := (leadR (nrm (t r_1.toNat))).snd[j_16.toNat]!.lo, hi := (leadR (nrm (t r_1.toNat))).snd[j_16.toNat]!.hi : Span }] = List.map c81 (c_18 ++ [{ rep := r_1, lo := (leadR (nrm (t r_1.toNat))).snd[j_16.toNat]!.lo, hi := (leadR (nrm (t r_1.toNat))).snd[j_16.toNat]!.hi : Span }]))) cx [(9, { rows := some (List.map c81 (c_18 ++ [{ rep := r_1, lo := (leadR (nrm (t r_1.toNat))).snd[j_16.toNat]!.lo, hi := (leadR (nrm (t r_1.toNat))).snd[j_16.toNat]!.hi : Span }])) })] [0, 2, 3, 4, 5, 12, 6, 32, 33, 34] [2, 3, 11, 5301] ⟨(by kernel_rfl), (by kernel_rfl), (by kernel_rfl), (by (with_reducible refine len_map (fun _ => ?_) _; kernel_rfl)), ?g3, ?g4, (by (with_reducible refine app_map ?_; kernel_rfl))⟩ ?_; rotate_left 2
  refine q_blk_normal ?_
  refine sn ?_
  refine rg (A := (AV.i IntKind.i64 (IntKind.i64.wrap (j_16 + (1 : Int))) = AV.i IntKind.i64 (j_16 + (1 : Int)))) cx [(0, { tell := some (.i .i64 (j_16 + (1 : Int))) })] [0, 2, 3, 4, 5, 12, 6, 32, 33, 34] [2, 3, 11, 5301] (told_i64 (by omega) ?g5) ?_; rotate_left 1
  refine sn ?_
  refine loop_next ((j_16 + (1 : Int), v_17, c_18 ++ [{ rep := r_1, lo := (leadR (nrm (t r_1.toNat))).snd[j_16.toNat]!.lo, hi := (leadR (nrm (t r_1.toNat))).snd[j_16.toNat]!.hi : Span }])) (by kernel_rfl) (show ((↑(leadR (nrm (t r_1.toNat))).snd.length : Int) - (j_16 + (1 : Int))).toNat < ((↑(leadR (nrm (t r_1.toNat))).snd.length : Int) - j_16).toNat from (by omega)) (show inv81b t r_1 (v_2.set r_1.toNat (leadR (nrm (t r_1.toNat))).fst) (j_16 + (1 : Int)) v_17 (c_18 ++ [{ rep := r_1, lo := (leadR (nrm (t r_1.toNat))).snd[j_16.toNat]!.lo, hi := (leadR (nrm (t r_1.toNat))).snd[j_16.toNat]!.hi : Span }]) from ?g6); rotate_left 1
  refine st_exit 2 (by kernel_rfl) ?_
  refine q_seq_exit ?_
  refine q_seq_exit ?_
  refine q_blk_hit ?_
  refine q_blk_normal ?_
  refine sn ?_
  refine rg (A := (AV.i IntKind.i64 (IntKind.i64.wrap (r_1 + (1 : Int))) = AV.i IntKind.i64 (r_1 + (1 : Int)))) cx [(0, { tell := some (.i .i64 (r_1 + (1 : Int))) })] [0, 2, 3, 4, 5, 12] [2, 3, 11, 5301] (told_i64 (by omega) (by omega)) ?_
  refine sn ?_
  refine loop_next ((r_1 + (1 : Int), r_1 + (1 : Int), v_17, c_18)) (by kernel_rfl) (show ((16 : Int) - (r_1 + (1 : Int))).toNat < ((16 : Int) - r_1).toNat from (by omega)) (show inv81a t (r_1 + (1 : Int)) (r_1 + (1 : Int)) v_17 c_18 from ?g7); rotate_left 1
  refine st_skip (by kernel_rfl) ?_
  refine sn ?_
  refine sq ?_
  refine rg (A := _) cx [(1, { tell := some (.i .i64 ((↑(leadR (nrm (t r_1.toNat))).snd.length : Int))) })] [0, 2, 3, 4, 5, 12, 6, 32, 33, 34] [2, 3, 11, 5301] (told_len c108 (leadR (nrm (t r_1.toNat))).snd) ?_
  refine sn ?_
  refine st_block 2 (by kernel_rfl) ?_
  refine st_loop (X := Int × List Int × List Span) (fun x => ⟨[(0, .eptr (tabC c108 (16 : Nat) t)), (2, .ptr (2) (0) (0) (0)), (3, .ptr (3) (0) (0) (0)), (4, .own 11 0), (5, .i .i64 (s_0)), (12, .i .i64 (r_1)), (6, .i .i64 (r_1)), (32, .sl (List.map c108 (leadR (nrm (t r_1.toNat))).snd)), (33, .i .i64 ((↑(leadR (nrm (t r_1.toNat))).snd.length : Int))), (34, .i .i64 (x.fst))], [(2, ⟨0, 36, .var [.nl, .nl]⟩), (3, ⟨0, 36, .var [.nl, .own 5301 0]⟩), (11, ⟨0, 3, .row 1 (List.map c3 x.snd.fst)⟩), (5301, ⟨0, 81, .row 3 (List.map c81 x.snd.snd)⟩)]⟩) (fun x ↦ dec81b t r_1 x.fst x.snd.fst x.snd.snd) (fun x ↦ inv81b t r_1 (v_2.set r_1.toNat (leadR (nrm (t r_1.toNat))).fst) x.fst x.snd.fst x.snd.snd) [0, 2, 3, 4, 5, 12, 6, 32, 33, 34] [2, 3, 11, 5301] (((0 : Int), v_2.set r_1.toNat (leadR (nrm (t r_1.toNat))).fst, c_3)) (by kernel_rfl) (by kernel_rfl) (show inv81b t r_1 (v_2.set r_1.toNat (leadR (nrm (t r_1.toNat))).fst) (0 : Int) (v_2.set r_1.toNat (leadR (nrm (t r_1.toNat))).fst) c_3 from ?g8) ?_; rotate_left 1
  rintro ⟨j_25, v_26, c_27⟩ h_28
  obtain ⟨h_29, h_30, h_31, h_32⟩ : v_26 = v_2.set r_1.toNat (leadR (nrm (t r_1.toNat))).fst ∧ (0 : Int) ≤ j_25 ∧ j_25 ≤ (↑(leadR (nrm (t r_1.toNat))).snd.length : Int) ∧ isCloud2 t r_1 j_25 c_27 := h_28
  refine sq ?_
  refine rg (A := (AV.b (decide (j_25 < (↑(leadR (nrm (t r_1.toNat))).snd.length : Int))) = AV.b (decide (j_25 < (↑(leadR (nrm (t r_1.toNat))).snd.length : Int))))) cx [(0, { tell := some (.b (decide (j_25 < (↑(leadR (nrm (t r_1.toNat))).snd.length : Int)))) })] [0, 2, 3, 4, 5, 12, 6, 32, 33, 34, 35] [2, 3, 11, 5301] (by kernel_rfl) ?_
  refine sn ?_
  refine sq ?_
  refine st_dec (j_25 < (↑(leadR (nrm (t r_1.toNat))).snd.length : Int)) (by kernel_rfl) (by kernel_rfl) (fun h_33 => ?_) (fun h_33 => ?_)
  refine st_skip (by kernel_rfl) ?_
  refine sn ?_
  refine sq ?_
  refine st_block 3 (by kernel_rfl) ?_
  refine sq ?_
  refine rg (A := ((0 : Int) ≤ j_25) ∧ ((List.map c108 (leadR (nrm (t r_1.toNat))).snd)[j_25.toNat]? = some (c108 (leadR (nrm (t r_1.toNat))).snd[j_25.toNat]!)) ∧ ((c108 (leadR (nrm (t r_1.toNat))).snd[j_25.toNat]!).length = (2 : Nat)) ∧ ((2 : Nat) ≤ [AV.i IntKind.i64 (leadR (nrm (t r_1.toNat))).snd[j_25.toNat]!.lo, AV.i IntKind.i64 (leadR (nrm (t r_1.toNat))).snd[j_25.toNat]!.hi].length)) cx [(0, { row := (c108 (leadR (nrm (t r_1.toNat))).snd[j_25.toNat]!) })] [0, 2, 3, 4, 5, 12, 6, 32, 33, 34, 10] [2, 3, 11, 5301, 10] ⟨(by (with_reducible assumption)), (by (with_reducible refine get_map ?_; omega)), (by kernel_rfl), (by (simp only [List.length_append, List.length_cons, List.length_nil]; omega))⟩ ?_
  refine sn ?_
  refine rg (A := (81 = (81 : Nat)) ∧ ((3 : Nat) = 3) ∧ ([AV.i IntKind.i64 (0 : Int), AV.i IntKind.i64 (0 : Int), AV.i IntKind.i64 (0 : Int)].length = (3 : Nat)) ∧ (∀ (r : List AV), r ∈ List.map c81 [{ rep := r_1, lo := (leadR (nrm (t r_1.toNat))).snd[j_25.toNat]!.lo, hi := (leadR (nrm (t r_1.toNat))).snd[j_25.toNat]!.hi : Span }] → r.length = 3) ∧ ((List.map c81 c_27).length + (List.map c81 [{ rep := r_1, lo := (leadR (nrm (t r_1.toNat))).snd[j_25.toNat]!.lo, hi := (leadR (nrm (t r_1.toNat))).snd[j_25.toNat]!.hi : Span }]).length ≤ maxLen) ∧ (((List.map c81 c_27).length + (List.map c81 [{ rep := r_1, lo := (leadR (nrm (t r_1.toNat))).snd[j_25.toNat]!.lo, hi := (leadR (nrm (t r_1.toNat))).snd[j_25.toNat]!.hi : Span }]).length) * (24 : Nat) ≤ (140737488355328 : Nat)) ∧ (List.map c81 c_27 ++ List.map c81 [{ rep := r_1, lo := (leadR (nrm (t r_1.toNat))).snd[j_25.toNat]!.lo, hi := (leadR (nrm (t r_1.toNat))).snd[j_25.toNat]!.hi : Span }] = List.map c81 (c_27 ++ [{ rep := r_1, lo := (leadR (nrm (t r_1.toNat))).snd[j_25.toNat]!.lo, hi := (leadR (nrm (t r_1.toNat))).snd[j_25.toNat]!.hi : Span }]))) cx [(9, { rows := some (List.map c81 (c_27 ++ [{ rep := r_1, lo := (leadR (nrm (t r_1.toNat))).snd[j_25.toNat]!.lo, hi := (leadR (nrm (t r_1.toNat))).snd[j_25.toNat]!.hi : Span }])) })] [0, 2, 3, 4, 5, 12, 6, 32, 33, 34] [2, 3, 11, 5301] ⟨(by kernel_rfl), (by kernel_rfl), (by kernel_rfl), (by (with_reducible refine len_map (fun _ => ?_) _; kernel_rfl)), ?g9, ?g10, (by (with_reducible refine app_map ?_; kernel_rfl))⟩ ?_; rotate_left 2
  refine q_blk_normal ?_
  refine sn ?_
  refine rg (A := (AV.i IntKind.i64 (IntKind.i64.wrap (j_25 + (1 : Int))) = AV.i IntKind.i64 (j_25 + (1 : Int)))) cx [(0, { tell := some (.i .i64 (j_25 + (1 : Int))) })] [0, 2, 3, 4, 5, 12, 6, 32, 33, 34] [2, 3, 11, 5301] (told_i64 (by omega) ?g11) ?_; rotate_left 1
  refine sn ?_
  refine loop_next ((j_25 + (1 : Int), v_26, c_27 ++ [{ rep := r_1, lo := (leadR (nrm (t r_1.toNat))).snd[j_25.toNat]!.lo, hi := (leadR (nrm (t r_1.toNat))).snd[j_25.toNat]!.hi : Span }])) (by kernel_rfl) (show ((↑(leadR (nrm (t r_1.toNat))).snd.length : Int) - (j_25 + (1 : Int))).toNat < ((↑(leadR (nrm (t r_1.toNat))).snd.length : Int) - j_25).toNat from (by omega)) (show inv81b t r_1 (v_2.set r_1.toNat (leadR (nrm (t r_1.toNat))).fst) (j_25 + (1 : Int)) v_26 (c_27 ++ [{ rep := r_1, lo := (leadR (nrm (t r_1.toNat))).snd[j_25.toNat]!.lo, hi := (leadR (nrm (t r_1.toNat))).snd[j_25.toNat]!.hi : Span }]) from ?g12); rotate_left 1
  refine st_exit 2 (by kernel_rfl) ?_
  refine q_seq_exit ?_
  refine q_seq_exit ?_
  refine q_blk_hit ?_
  refine q_blk_normal ?_
  refine sn ?_
  refine rg (A := (AV.i IntKind.i64 (IntKind.i64.wrap (r_1 + (1 : Int))) = AV.i IntKind.i64 (r_1 + (1 : Int)))) cx [(0, { tell := some (.i .i64 (r_1 + (1 : Int))) })] [0, 2, 3, 4, 5, 12] [2, 3, 11, 5301] (told_i64 (by omega) (by omega)) ?_
  refine sn ?_
  refine loop_next ((s_0, r_1 + (1 : Int), v_26, c_27)) (by kernel_rfl) (show ((16 : Int) - (r_1 + (1 : Int))).toNat < ((16 : Int) - r_1).toNat from (by omega)) (show inv81a t s_0 (r_1 + (1 : Int)) v_26 c_27 from ?g13); rotate_left 1
  refine st_exit 0 (by kernel_rfl) ?_
  refine q_seq_exit ?_
  refine q_seq_exit ?_
  refine q_blk_hit ?_
  refine sn ?_
  refine sq ?_
  refine sq ?_
  refine rg (A := (AV.b (decide (s_0 > (0 : Int))) = AV.b (decide ((0 : Int) < s_0)))) cx [(1, { tell := some (.b (decide ((0 : Int) < s_0))) })] [2, 3, 4, 5, 52] [2, 3, 11, 5301] (by kernel_rfl) ?_
  refine sn ?_
  refine st_dec ((0 : Int) < s_0) (by kernel_rfl) (by kernel_rfl) (fun h_34 => ?_) (fun h_34 => ?_)
  refine rg (A := ((0 : Int) ≤ (0 : Int)) ∧ ((0 : Int) ≤ s_0) ∧ (s_0 ≤ (↑(List.map c3 v_2).length : Int)) ∧ ((0 : Int) < (↑(List.map c3 v_2).length : Int)) ∧ (Option.map TI.size (E.look tab (3 : Nat)) = some (1)) ∧ (ConB Try.prog (114 : Nat) [AV.sl (List.take (s_0 - (0 : Int)).toNat (List.drop (0) (List.map c3 v_2)))] (3 : Nat) (BK.row (1 : Nat) (List.map c3 (List.take (s_0 - (0 : Int)).toNat (List.drop (0) v_2)))))) cx [(3, { val := some (.own (3 : Nat) (1 : Nat)), rows := some (List.map c3 (List.take (s_0 - (0 : Int)).toNat (List.drop (0) v_2))) })] [2, 3] [2, 3, 5301, 56] ⟨(by omega), (by (with_reducible assumption)), (by (first | omega | (simp only [List.length_map]; omega))), (by (first | omega | (simp only [List.length_map]; omega))), (by kernel_rfl), (ConB.le (con114 (List.take (s_0 - (0 : Int)).toNat (List.drop (0) v_2)) ?g14) (ZLe.cons (AVle.eq (by simp only [List.map_take, List.map_drop])) ZLe.nil))⟩ ?_; rotate_left 1
  refine sn ?_
  refine sq ?_
  refine awp_norm [56, 5301] [2, 3] [2, 3] (σ' := ⟨[(2, .ptr (2) (0) (0) (0)), (3, .ptr (3) (0) (0) (0))], [(2, ⟨0, 36, .var [.nl, .nl]⟩), (3, ⟨0, 36, .var [.sl (((E.look [(3, { val := some (AV.own (3 : Nat) (1 : Nat)), rows := some (List.map c3 (List.take (s_0 - (0 : Int)).toNat (List.drop (0) v_2))) : Ov })] (3)).getD { : Ov }).rows.getD []), .sl (List.map c81 c_3)]⟩)]⟩) (by kernel_rfl) ?_
  refine rg (A := True) cx [] [2] [2, 3] trivial ?_
  refine sn ?_
  refine st_ret (by kernel_rfl) ?_
  refine q_ret (r := .agg [.sl (((E.look [(3, { val := some (AV.own (3 : Nat) (1 : Nat)), rows := some (List.map c3 (List.take (s_0 - (0 : Int)).toNat (List.drop (0) v_2))) : Ov })] (3)).getD { : Ov }).rows.getD []), .sl (List.map c81 c_3)]) (obl := []) (by kernel_rfl) trivial (AVle.eq (show AV.agg [AV.sl (((E.look [(3, { val := some (AV.own (3 : Nat) (1 : Nat)), rows := some (List.map c3 (List.take (s_0 - (0 : Int)).toNat (List.drop (0) v_2))) : Ov })] (3)).getD { : Ov }).rows.getD []), AV.sl (List.map c81 c_3)] = AV.agg (c36 (tabP t)) from ?g15)); rotate_left 1
  refine st_skip (by kernel_rfl) ?_
  refine sn ?_
  refine sq ?_
  refine awp_norm [5301] [2, 3, 4, 5, 52] [2, 3, 11] (σ' := ⟨[(2, .ptr (2) (0) (0) (0)), (3, .ptr (3) (0) (0) (0)), (4, .own 11 0), (5, .i .i64 (s_0)), (52, .b (decide ((0 : Int) < s_0)))], [(2, ⟨0, 36, .var [.nl, .nl]⟩), (3, ⟨0, 36, .var [.nl, .sl (List.map c81 c_3)]⟩), (11, ⟨0, 3, .row 1 (List.map c3 v_2)⟩)]⟩) (by kernel_rfl) ?_
  refine rg (A := True) cx [] [2] [2] trivial ?_
  refine sn ?_
  refine st_ret (by kernel_rfl) ?_
  refine q_ret (r := .agg [.nl, .sl (List.map c81 c_3)]) (obl := []) (by kernel_rfl) trivial (AVle.agg (ZLe.cons (AVle.nl' (show List.map c3 (tabP t).vec = [] from ?g17)) (ZLe.cons (AVle.eq (show AV.sl (List.map c81 c_3) = AV.sl (List.map c81 (tabP t).cloud) from ?g16)) ZLe.nil))); rotate_left 2
  rotate_left
  clear hl_14; revert s_0 r_1 v_2 c_3 h_5 h_6 h_7 h_8 h_9 h_10 h_11 h_12 h_13; rotate_left
  clear hl_14; revert s_0 r_1 v_2 c_3 h_5 h_6 h_7 h_8 h_9 h_10 h_11 h_12 h_13 h_15; rotate_left
  clear hl_14; revert s_0 r_1 v_2 c_3 h_5 h_6 h_7 h_8 h_9 h_10 h_11 h_12 h_13 h_15 j_16 v_17 c_18 h_20 h_21 h_22 h_23 h_24; rotate_left
  clear hl_14; revert s_0 r_1 v_2 c_3 h_5 h_6 h_7 h_8 h_9 h_10 h_11 h_12 h_13 h_15 j_16 v_17 c_18 h_20 h_21 h_22 h_23 h_24; rotate_left
  clear hl_14; revert s_0 r_1 v_2 c_3 h_5 h_6 h_7 h_8 h_9 h_10 h_11 h_12 h_13 h_15 j_16 v_17 c_18 h_20 h_21 h_22 h_23 h_24; rotate_left
  clear hl_14; revert s_0 r_1 v_2 c_3 h_5 h_6 h_7 h_8 h_9 h_10 h_11 h_12 h_13 h_15 j_16 v_17 c_18 h_20 h_21 h_22 h_23 h_24; rotate_left
  clear hl_14; revert s_0 r_1 v_2 c_3 h_5 h_6 h_7 h_8 h_9 h_10 h_11 h_12 h_13 h_15 j_16 v_17 c_18 h_20 h_21 h_22 h_23 h_24; rotate_left
  clear hl_14; revert s_0 r_1 v_2 c_3 h_5 h_6 h_7 h_8 h_9 h_10 h_11 h_12 h_13 h_15; rotate_left
  clear hl_14; revert s_0 r_1 v_2 c_3 h_5 h_6 h_7 h_8 h_9 h_10 h_11 h_12 h_13 h_15 j_25 v_26 c_27 h_29 h_30 h_31 h_32 h_33; rotate_left
  clear hl_14; revert s_0 r_1 v_2 c_3 h_5 h_6 h_7 h_8 h_9 h_10 h_11 h_12 h_13 h_15 j_25 v_26 c_27 h_29 h_30 h_31 h_32 h_33; rotate_left
  clear hl_14; revert s_0 r_1 v_2 c_3 h_5 h_6 h_7 h_8 h_9 h_10 h_11 h_12 h_13 h_15 j_25 v_26 c_27 h_29 h_30 h_31 h_32 h_33; rotate_left
  clear hl_14; revert s_0 r_1 v_2 c_3 h_5 h_6 h_7 h_8 h_9 h_10 h_11 h_12 h_13 h_15 j_25 v_26 c_27 h_29 h_30 h_31 h_32 h_33; rotate_left
  clear hl_14; revert s_0 r_1 v_2 c_3 h_5 h_6 h_7 h_8 h_9 h_10 h_11 h_12 h_13 h_15 j_25 v_26 c_27 h_29 h_30 h_31 h_32 h_33; rotate_left
  revert s_0 r_1 v_2 c_3 h_5 h_6 h_7 h_8 h_9 h_10 h_11 h_12 h_13 h_34; rotate_left
  revert s_0 r_1 v_2 c_3 h_5 h_6 h_7 h_8 h_9 h_10 h_11 h_12 h_13 h_34; rotate_left
  revert s_0 r_1 v_2 c_3 h_5 h_6 h_7 h_8 h_9 h_10 h_11 h_12 h_13 h_34; rotate_left
  revert s_0 r_1 v_2 c_3 h_5 h_6 h_7 h_8 h_9 h_10 h_11 h_12 h_13 h_34; rotate_left
  case g0 => exact ⟨by omega, by omega, by omega, by omega, by simp, rfl, by simp [isVec, vecT], rfl⟩
  case g1 => intro s r v c h0 h1 h2 h3 h4 h5 h6 h7 h8; exact hb _ (by omega)
  case g2 => intro s r v c h0 h1 h2 h3 h4 h5 h6 h7 h8 h9; exact ⟨rfl, by omega, by omega, cloud2_start h7⟩
  case g8 => intro s r v c h0 h1 h2 h3 h4 h5 h6 h7 h8 h9; exact ⟨rfl, by omega, by omega, cloud2_start h7⟩
  case g3 => intro s r v c h0 h1 h2 h3 h4 h5 h6 h7 h8 h9 j w d k0 k1 k2 k3 k4; have := cloud2_len h0 h8 k3; simp only [List.length_map, List.length_cons, List.length_nil, Go.maxLen]; omega
  case g9 => intro s r v c h0 h1 h2 h3 h4 h5 h6 h7 h8 h9 j w d k0 k1 k2 k3 k4; have := cloud2_len h0 h8 k3; simp only [List.length_map, List.length_cons, List.length_nil, Go.maxLen]; omega
  case g4 => intro s r v c h0 h1 h2 h3 h4 h5 h6 h7 h8 h9 j w d k0 k1 k2 k3 k4; have := cloud2_len h0 h8 k3; simp only [List.length_map, List.length_cons, List.length_nil]; omega
  case g10 => intro s r v c h0 h1 h2 h3 h4 h5 h6 h7 h8 h9 j w d k0 k1 k2 k3 k4; have := cloud2_len h0 h8 k3; simp only [List.length_map, List.length_cons, List.length_nil]; omega
  case g5 => intro s r v c h0 h1 h2 h3 h4 h5 h6 h7 h8 h9 j w d k0 k1 k2 k3 k4; have := rest_len t r.toNat; omega
  case g11 => intro s r v c h0 h1 h2 h3 h4 h5 h6 h7 h8 h9 j w d k0 k1 k2 k3 k4; have := rest_len t r.toNat; omega
  case g6 => intro s r v c h0 h1 h2 h3 h4 h5 h6 h7 h8 h9 j w d k0 k1 k2 k3 k4; exact ⟨k0, by omega, by omega, cloud2_next h0 k1 k4 k3⟩
  case g12 => intro s r v c h0 h1 h2 h3 h4 h5 h6 h7 h8 h9 j w d k0 k1 k2 k3 k4; exact ⟨k0, by omega, by omega, cloud2_next h0 k1 k4 k3⟩
  case g7 =>
    intro s r v c h0 h1 h2 h3 h4 h5 h6 h7 h8 h9 j w d k0 k1 k2 k3 k4
    have hs := sz_next h0 h5
    rw [if_pos h9] at hs
    subst k0
    exact ⟨by omega, by omega, by omega, by omega, by simpa using h4, hs, vec_next h0 h8 h6, cloud_next h0 k4 k3⟩
  case g13 =>
    intro s r v c h0 h1 h2 h3 h4 h5 h6 h7 h8 h9 j w d k0 k1 k2 k3 k4
    have hs := sz_next h0 h5
    rw [if_neg h9] at hs
    subst k0
    exact ⟨by omega, by omega, by omega, by omega, by simpa using h4, hs, vec_next h0 h8 h6, cloud_next h0 k4 k3⟩
  case g14 => intro s r v c h0 h1 h2 h3 h4 h5 h6 h7 h8 h9; rw [List.drop_zero, List.length_take]; omega
  case g15 =>
    intro s r v c h0 h1 h2 h3 h4 h5 h6 h7 h8 h9
    rw [tab_end h1 h8 h5 h6 h7]
    show AV.agg [AV.sl (List.map c3 (List.take (s - 0).toNat (List.drop 0 v))), AV.sl (List.map c81 c)] = _
    rw [List.drop_zero, Int.sub_zero]
    rfl
  case g16 => intro s r v c h0 h1 h2 h3 h4 h5 h6 h7 h8 h9; rw [tab_end h1 h8 h5 h6 h7]
  case g17 => intro s r v c h0 h1 h2 h3 h4 h5 h6 h7 h8 h9; rw [tab_end h1 h8 h5 h6 h7, show s.toNat = 0 by omega]; rfl
end Go.Proofs.Ytjngmlkaijpbgaa
namespace Go.Proofs.Ytjngmlkaijpbgaa
open Go.E
set_option maxRecDepth 100000
set_option maxHeartbeats 4000000
def dotB (d : Dot) : Bool := decide (0 ≤ d.rep ∧ d.rep < 16 ∧ 1 ≤ d.num ∧ d.num ≤ 1000000000)
def ofT (dots : List Dot) (r : Nat) : List Run := (dots.filter fun d => dotB d && decide (d.rep = r)).map fun d => ⟨d.num, d.num⟩
def isTab (dots : List Dot) (i : Int) (T : Nat → List Run) : Prop := ∀ r : Nat, r < 16 → T r = ofT (dots.take i.toNat) r
def inv62 (dots : List Dot) (i : Int) (T : Nat → List Run) : Prop := 0 ≤ i ∧ i ≤ dots.length ∧ isTab dots i T
def dec62 (dots : List Dot) (i : Int) (T : Nat → List Run) : Nat := (dots.length - i).toNat
theorem tabP_congr {T U : Nat → List Run} (h : ∀ r : Nat, r < 16 → T r = U r) : tabP T = tabP U := by
  have hl : ∀ n : Nat, n ≤ 16 → szT T n = szT U n ∧ cloudT T n = cloudT U n := by
    intro n
    induction n with
    | zero => intro _; exact ⟨rfl, rfl⟩
    | succ n ih =>
      intro hn
      obtain ⟨h1, h2⟩ := ih (by omega)
      have e := h n (by omega)
      exact ⟨by rw [szT, szT, h1, leadT, leadT, e], by rw [cloudT, cloudT, h2, restT, restT, e]⟩
  have hv : vecT T 16 = vecT U 16 := by
    unfold vecT
    congr 1
    refine List.map_congr_left fun r hr => ?_
    have hr : r < 16 := by simpa using hr
    rw [leadT, leadT, h r hr]
  unfold tabP
  rw [(hl 16 (Nat.le_refl _)).1, (hl 16 (Nat.le_refl _)).2, hv]
theorem ofT_len (dots : List Dot) (r : Nat) : (ofT dots r).length ≤ dots.length := by
  unfold ofT
  rw [List.length_map]
  exact List.length_filter_le _ _
theorem ofT_app (a : List Dot) (d : Dot) (r : Nat) : ofT (a ++ [d]) r = ofT a r ++ if dotB d = true ∧ d.rep = (r : Int) then [⟨d.num, d.num⟩] else [] := by
  unfold ofT
  rw [List.filter_append, List.map_append]
  congr 1
  by_cases h : dotB d = true ∧ d.rep = (r : Int)
  · rw [if_pos h]; simp [List.filter_cons, h.1, h.2]
  · rw [if_neg h]
    have : (dotB d && decide (d.rep = (r : Int))) = false := by
      rw [Bool.and_eq_false_iff]
      by_cases h1 : dotB d = true
      · exact .inr (by simpa using fun h2 => h ⟨h1, h2⟩)
      · exact .inl (by simpa using h1)
    simp [List.filter_cons, this]
theorem dotB_in {d : Dot} (h : dotB d = true) : 0 ≤ d.rep ∧ d.rep < 16 ∧ 1 ≤ d.num ∧ d.num ≤ 1000000000 := by
  unfold dotB at h
  simpa using h
theorem tab_len {dots : List Dot} {i : Int} {T : Nat → List Run} (h1 : i ≤ dots.length) (ht : isTab dots i T) {r : Nat} (hr : r < 16) : ((T r).length : Int) ≤ i ∨ (T r).length = 0 := by
  rw [ht r hr]
  have := ofT_len (dots.take i.toNat) r
  rw [List.length_take] at this
  omega
theorem tab_in {dots : List Dot} {i : Int} {T : Nat → List Run} (h0 : 0 ≤ i) (h1 : i < dots.length) (ht : isTab dots i T) (hd : dotB dots[i.toNat]! = true) :
    isTab dots (i + 1) (updF T dots[i.toNat]!.rep.toNat (T dots[i.toNat]!.rep.toNat ++ [⟨dots[i.toNat]!.num, dots[i.toNat]!.num⟩])) := by
  intro r hr
  have hb := dotB_in hd
  rw [← take_step h0 h1, ofT_app]
  unfold updF
  by_cases e : r = dots[i.toNat]!.rep.toNat
  · rw [if_pos e, if_pos ⟨hd, by omega⟩, ← e, ht r hr]
  · rw [if_neg e, if_neg (fun k => e (by omega)), List.append_nil, ht r hr]
theorem tab_out {dots : List Dot} {i : Int} {T : Nat → List Run} (h0 : 0 ≤ i) (h1 : i < dots.length) (ht : isTab dots i T) (hd : dotB dots[i.toNat]! = false) : isTab dots (i + 1) T := by
  intro r hr
  rw [← take_step h0 h1, ofT_app, if_neg (fun k => by rw [hd] at k; cases k.1), List.append_nil, ht r hr]
theorem con80 (d : Dot) : Con Try.prog 80 [.agg (c26 d)] (.b (dotB d)) :=
  by
  refine st_con tab_ok (by kernel_rfl) [.tmp 2] 21 Go.Proofs.Try.func80 (by kernel_rfl) (by kernel_rfl) ?_
  intro e0 cx
  refine sq ?_
  refine rg (A := True) cx [] [1] [1] trivial ?_
  refine sn ?_
  refine sq ?_
  refine st_join (σ' := ⟨[(2, .b (decide ((0 : Int) ≤ d.rep ∧ d.rep < (16 : Int) ∧ (1 : Int) ≤ d.num ∧ d.num ≤ (1000000000 : Int))))], []⟩) ?_ ?_
  refine st_split ((0 : Int) ≤ d.rep) (fun h_1 => ?_) (fun h_1 => ?_)
  refine st_split (d.rep < (16 : Int)) (fun h_2 => ?_) (fun h_2 => ?_)
  refine st_split ((1 : Int) ≤ d.num) (fun h_3 => ?_) (fun h_3 => ?_)
  refine rg (A := _ ∧ _ ∧ _ ∧ (AV.b (decide (d.num ≤ (1000000000 : Int))) = AV.b (decide (d.num ≤ (1000000000 : Int)))) ∧ (AV.b (decide (d.num ≤ (1000000000 : Int))) = AV.b (decide ((0 : Int) ≤ d.rep ∧ d.rep < (16 : Int) ∧ (1 : Int) ≤ d.num ∧ d.num ≤ (1000000000 : Int))))) cx [(2, { tell := some (.b (true)) }), (6, { tell := some (.b (true)) }), (11, { tell := some (.b (true)) }), (16, { tell := some (.b (decide (d.num ≤ (1000000000 : Int)))) }), (18, { tell := some (.b (decide ((0 : Int) ≤ d.rep ∧ d.rep < (16 : Int) ∧ (1 : Int) ≤ d.num ∧ d.num ≤ (1000000000 : Int)))) })] [2] [] ⟨(told_true h_1), (told_true h_2), (told_true h_3), (by kernel_rfl), (by simp only [eq_true h_1, eq_true h_2, eq_true h_3, told_simp1, told_simp2, and_true, true_and, and_false, false_and, or_true, true_or, or_false, false_or, not_true_eq_false, not_false_eq_true, decide_true, decide_false, Bool.decide_eq_true])⟩ ?_
  exact ⟨rfl, by kernel_rfl⟩
  refine rg (A := _ ∧ _ ∧ _ ∧ (AV.b false = AV.b (decide ((0 : Int) ≤ d.rep ∧ d.rep < (16 : Int) ∧ (1 : Int) ≤ d.num ∧ d.num ≤ (1000000000 : Int))))) cx [(2, { tell := some (.b (true)) }), (6, { tell := some (.b (true)) }), (11, { tell := some (.b (false)) }), (18, { tell := some (.b (decide ((0 : Int) ≤ d.rep ∧ d.rep < (16 : Int) ∧ (1 : Int) ≤ d.num ∧ d.num ≤ (1000000000 : Int)))) })] [2] [] ⟨(told_true h_1), (told_true h_2), (told_false h_3), (by simp only [eq_true h_1, eq_true h_2, eq_false h_3, told_simp1, told_simp2, and_true, true_and, and_false, false_and, or_true, true_or, or_false, false_or, not_true_eq_false, not_false_eq_true, decide_true, decide_false, Bool.decide_eq_true])⟩ ?_
  exact ⟨rfl, by kernel_rfl⟩
  refine rg (A := _ ∧ _ ∧ (AV.b false = AV.b (decide ((0 : Int) ≤ d.rep ∧ d.rep < (16 : Int) ∧ (1 : Int) ≤ d.num ∧ d.num ≤ (1000000000 : Int))))) cx [(2, { tell := some (.b (true)) }), (6, { tell := some (.b (false)) }), (18, { tell := some (.b (decide ((0 : Int) ≤ d.rep ∧ d.rep < (16 : Int) ∧ (1 : Int) ≤ d.num ∧ d.num ≤ (1000000000 : Int)))) })] [2] [] ⟨(told_true h_1), (told_false h_2), (by simp only [eq_true h_1, eq_false h_2, told_simp1, told_simp2, and_true, true_and, and_false, false_and, or_true, true_or, or_false, false_or, not_true_eq_false, not_false_eq_true, decide_true, decide_false, Bool.decide_eq_true])⟩ ?_
  exact ⟨rfl, by kernel_rfl⟩
  refine rg (A := _ ∧ (AV.b false = AV.b (decide ((0 : Int) ≤ d.rep ∧ d.rep < (16 : Int) ∧ (1 : Int) ≤ d.num ∧ d.num ≤ (1000000000 : Int))))) cx [(2, { tell := some (.b (false)) }), (18, { tell := some (.b (decide ((0 : Int) ≤ d.rep ∧ d.rep < (16 : Int) ∧ (1 : Int) ≤ d.num ∧ d.num ≤ (1000000000 : Int)))) })] [2] [] ⟨(told_false h_1), (by simp only [eq_false h_1, told_simp1, told_simp2, and_true, true_and, and_false, false_and, or_true, true_or, or_false, false_or, not_true_eq_false, not_false_eq_true, decide_true, decide_false, Bool.decide_eq_true])⟩ ?_
  exact ⟨rfl, by kernel_rfl⟩
  refine sn ?_
  refine st_ret (by kernel_rfl) ?_
  refine q_ret (r := .b (decide ((0 : Int) ≤ d.rep ∧ d.rep < (16 : Int) ∧ (1 : Int) ≤ d.num ∧ d.num ≤ (1000000000 : Int)))) (obl := []) (by kernel_rfl) trivial (AVle.eq (show AV.b (decide ((0 : Int) ≤ d.rep ∧ d.rep < (16 : Int) ∧ (1 : Int) ≤ d.num ∧ d.num ≤ (1000000000 : Int))) = AV.b (dotB d) from ?g0)); rotate_left 1
  case g0 => exact rfl
theorem con62 (dots : List Dot) (hb : dots.length * 16 ≤ 140737488351232) : Con Try.prog 62 [.sl (dots.map c26)] (.agg (c36 (tabP (ofT dots)))) :=
  by
  refine con_lens 0 (c26) (dots) (by kernel_rfl) Go.Proofs.Try.func62 (by kernel_rfl) fun hl_0 => ?_
  refine st_con tab_ok (by kernel_rfl) [.cell 2 36] 37 Go.Proofs.Try.func62 (by kernel_rfl) (by kernel_rfl) ?_
  intro e0 cx
  refine sq ?_
  refine rg (A := True) cx [] [0, 2] [2] trivial ?_
  refine sn ?_
  refine sq ?_
  refine rg (A := True) cx [] [0, 2, 3] [2, 7] trivial ?_
  refine sn ?_
  refine sq ?_
  refine sq ?_
  refine rg (A := _) cx [(1, { tell := some (.i .i64 ((↑dots.length : Int))) })] [2, 3, 8, 9, 10] [2, 7] (told_len c26 dots) ?_
  refine sn ?_
  refine st_block 0 (by kernel_rfl) ?_
  refine awp_tabIn 7 108 2 100700 16 (σ' := ⟨[(2, .ptr (2) (0) (0) (0)), (3, .ptr (7) (0) (0) (0)), (8, .sl (List.map c26 dots)), (9, .i .i64 ((↑dots.length : Int))), (10, .i .i64 ((0 : Int)))], [(2, ⟨0, 36, .var [.nl, .nl]⟩), (7, ⟨0, 106, .var (ownsC 100700 16)⟩)] ++ tabRows 100700 108 2 16 (c108) (fun x ↦ [])⟩) (by kernel_rfl) ?_
  refine st_loop (X := Int × (Nat → List Run)) (fun x => ⟨[(2, .ptr (2) (0) (0) (0)), (3, .ptr (7) (0) (0) (0)), (8, .sl (List.map c26 dots)), (9, .i .i64 ((↑dots.length : Int))), (10, .i .i64 (x.fst))], [(2, ⟨0, 36, .var [.nl, .nl]⟩), (7, ⟨0, 106, .var (ownsC 100700 16)⟩)] ++ tabRows 100700 108 2 16 (c108) (x.snd)⟩) (fun x ↦ dec62 dots x.fst x.snd) (fun x ↦ inv62 dots x.fst x.snd) [2, 3, 8, 9, 10] ([2, 7] ++ List.range' 100700 16) (((0 : Int), fun x ↦ [])) (by kernel_rfl) (by kernel_rfl) (show inv62 dots (0 : Int) fun x ↦ [] from ?g0) ?_; rotate_left 1
  rintro ⟨i_0, T_1⟩ h_2
  obtain ⟨h_3, h_4, h_5⟩ : (0 : Int) ≤ i_0 ∧ i_0 ≤ (↑dots.length : Int) ∧ isTab dots i_0 T_1 := h_2
  refine sq ?_
  refine rg (A := (AV.b (decide (i_0 < (↑dots.length : Int))) = AV.b (decide (i_0 < (↑dots.length : Int))))) cx [(0, { tell := some (.b (decide (i_0 < (↑dots.length : Int)))) })] [2, 3, 8, 9, 10, 11] ([2, 7] ++ List.range' 100700 16) (by kernel_rfl) ?_
  refine sn ?_
  refine sq ?_
  refine st_dec (i_0 < (↑dots.length : Int)) (by kernel_rfl) (by kernel_rfl) (fun h_6 => ?_) (fun h_6 => ?_)
  refine st_skip (by kernel_rfl) ?_
  refine sn ?_
  refine sq ?_
  refine st_block 1 (by kernel_rfl) ?_
  refine sq ?_
  refine rg (A := ((0 : Int) ≤ i_0) ∧ ((List.map c26 dots)[i_0.toNat]? = some (c26 dots[i_0.toNat]!)) ∧ ((c26 dots[i_0.toNat]!).length = (2 : Nat)) ∧ ((2 : Nat) ≤ [AV.i IntKind.i64 dots[i_0.toNat]!.rep, AV.i IntKind.i64 dots[i_0.toNat]!.num].length)) cx [(0, { row := (c26 dots[i_0.toNat]!) })] [2, 3, 8, 9, 10, 5] ([2, 7] ++ List.range' 100700 16 ++ [5]) ⟨(by (with_reducible assumption)), (by (with_reducible refine get_map ?_; omega)), (by kernel_rfl), (by (simp only [List.length_append, List.length_cons, List.length_nil]; omega))⟩ ?_
  refine sn ?_
  refine sq ?_
  refine rg (A := _) cx [(1, { val := some (.b (dotB dots[i_0.toNat]!)) })] [2, 3, 8, 9, 10, 5, 15] ([2, 7] ++ List.range' 100700 16 ++ [5]) (con80 (dots[i_0.toNat]!)) ?_
  refine sn ?_
  refine st_cond (dotB dots[i_0.toNat]!) (by kernel_rfl) (by kernel_rfl) (fun h_7 => ?_) (fun h_7 => ?_)
  refine st_any16 (F := fun kx => ⟨[(2, .ptr (2) (0) (0) (0)), (3, .ptr (7) (0) (0) (0)), (8, .sl (List.map c26 dots)), (9, .i .i64 ((↑dots.length : Int))), (10, .i .i64 (i_0)), (5, .ptr (5) (0) (0) (0)), (15, .b (dotB dots[i_0.toNat]!))], [(2, ⟨0, 36, .var [.nl, .nl]⟩), (7, ⟨0, 106, .var (ownsC 100700 16)⟩)] ++ tabRows 100700 108 2 16 (c108) (T_1) ++ [(5, ⟨0, 26, .var [.i .i64 (kx), .i .i64 (dots[i_0.toNat]!.num)]⟩)]⟩) (G := fun kx => ⟨[(2, .ptr (2) (0) (0) (0)), (3, .ptr (7) (0) (0) (0)), (8, .sl (List.map c26 dots)), (9, .i .i64 ((↑dots.length : Int))), (10, .i .i64 (i_0))], [(2, ⟨0, 36, .var [.nl, .nl]⟩), (7, ⟨0, 106, .var (ownsC 100700 16)⟩)] ++ tabRows 100700 108 2 16 (c108) (updF T_1 kx.toNat (T_1 kx.toNat ++ [{ lo := dots[i_0.toNat]!.num, hi := dots[i_0.toNat]!.num : Run }]))⟩) (A := fun kx => ((0 : Int) ≤ kx) ∧ (kx < (↑(16 : Nat) : Int)) ∧ (108 = (108 : Nat)) ∧ ((2 : Nat) = 2) ∧ ([AV.i IntKind.i64 (0 : Int), AV.i IntKind.i64 (0 : Int)].length = (2 : Nat)) ∧ (∀ (r : List AV), r ∈ List.map c108 [{ lo := dots[i_0.toNat]!.num, hi := dots[i_0.toNat]!.num : Run }] → r.length = 2) ∧ ((List.map c108 (T_1 kx.toNat)).length + (List.map c108 [{ lo := dots[i_0.toNat]!.num, hi := dots[i_0.toNat]!.num : Run }]).length ≤ maxLen) ∧ (((List.map c108 (T_1 kx.toNat)).length + (List.map c108 [{ lo := dots[i_0.toNat]!.num, hi := dots[i_0.toNat]!.num : Run }]).length) * (16 : Nat) ≤ (140737488355328 : Nat)) ∧ (List.map c108 (T_1 kx.toNat) ++ List.map c108 [{ lo := dots[i_0.toNat]!.num, hi := dots[i_0.toNat]!.num : Run }] = List.map c108 (T_1 kx.toNat ++ [{ lo := dots[i_0.toNat]!.num, hi := dots[i_0.toNat]!.num : Run }])) ∧ ((0 : Int) ≤ kx) ∧ (kx < (↑(16 : Nat) : Int))) cx (fun kx => [(15, { rows := some (List.map c108 (T_1 kx.toNat ++ [{ lo := dots[i_0.toNat]!.num, hi := dots[i_0.toNat]!.num : Run }])) })]) [2, 3, 8, 9, 10] ([2, 7] ++ List.range' 100700 16) (dots[i_0.toNat]!.rep) ?g7 ?g8 (by kernel_rfl) (by kernel_rfl) ⟨(by show _ = _; kernel_rfl), (by show _ = _; kernel_rfl), (by show _ = _; kernel_rfl), (by show _ = _; kernel_rfl), (by show _ = _; kernel_rfl), (by show _ = _; kernel_rfl), (by show _ = _; kernel_rfl), (by show _ = _; kernel_rfl), (by show _ = _; kernel_rfl), (by show _ = _; kernel_rfl), (by show _ = _; kernel_rfl), (by show _ = _; kernel_rfl), (by show _ = _; kernel_rfl), (by show _ = _; kernel_rfl), (by show _ = _; kernel_rfl), (by show _ = _; kernel_rfl)⟩ ⟨?g1, ?g2, (by kernel_rfl), (by kernel_rfl), (by kernel_rfl), (by (with_reducible refine len_map (fun _ => ?_) _; kernel_rfl)), ?g3, ?g4, (by (with_reducible refine app_map ?_; kernel_rfl)), ?g5, ?g6⟩ ?_; rotate_left 8
  refine q_blk_normal ?_
  refine sn ?_
  refine rg (A := (AV.i IntKind.i64 (IntKind.i64.wrap (i_0 + (1 : Int))) = AV.i IntKind.i64 (i_0 + (1 : Int)))) cx [(0, { tell := some (.i .i64 (i_0 + (1 : Int))) })] [2, 3, 8, 9, 10] ([2, 7] ++ List.range' 100700 16) (told_i64 (by omega) (by omega)) ?_
  refine sn ?_
  refine loop_next ((i_0 + (1 : Int), updF T_1 dots[i_0.toNat]!.rep.toNat (T_1 dots[i_0.toNat]!.rep.toNat ++ [{ lo := dots[i_0.toNat]!.num, hi := dots[i_0.toNat]!.num : Run }]))) (by kernel_rfl) (show ((↑dots.length : Int) - (i_0 + (1 : Int))).toNat < ((↑dots.length : Int) - i_0).toNat from (by omega)) (show inv62 dots (i_0 + (1 : Int)) (updF T_1 dots[i_0.toNat]!.rep.toNat (T_1 dots[i_0.toNat]!.rep.toNat ++ [{ lo := dots[i_0.toNat]!.num, hi := dots[i_0.toNat]!.num : Run }])) from ?g9); rotate_left 1
  refine st_skip (by kernel_rfl) ?_
  refine q_blk_normal ?_
  refine sn ?_
  refine rg (A := (AV.i IntKind.i64 (IntKind.i64.wrap (i_0 + (1 : Int))) = AV.i IntKind.i64 (i_0 + (1 : Int)))) cx [(0, { tell := some (.i .i64 (i_0 + (1 : Int))) })] [2, 3, 8, 9, 10] ([2, 7] ++ List.range' 100700 16) (told_i64 (by omega) (by omega)) ?_
  refine sn ?_
  refine loop_next ((i_0 + (1 : Int), T_1)) (by kernel_rfl) (show ((↑dots.length : Int) - (i_0 + (1 : Int))).toNat < ((↑dots.length : Int) - i_0).toNat from (by omega)) (show inv62 dots (i_0 + (1 : Int)) T_1 from ?g10); rotate_left 1
  refine st_exit 0 (by kernel_rfl) ?_
  refine q_seq_exit ?_
  refine q_seq_exit ?_
  refine q_blk_hit ?_
  refine sn ?_
  refine sq ?_
  refine awp_norm (List.range' 100700 16) [2, 3, 8, 9, 10, 11] [2, 7] (σ' := ⟨[(2, .ptr (2) (0) (0) (0)), (3, .ptr (7) (0) (0) (0)), (8, .sl (List.map c26 dots)), (9, .i .i64 ((↑dots.length : Int))), (10, .i .i64 (i_0)), (11, .b (decide (i_0 < (↑dots.length : Int))))], [(2, ⟨0, 36, .var [.nl, .nl]⟩), (7, ⟨0, 106, .var [.sl (List.map c108 (T_1 (0))), .sl (List.map c108 (T_1 (1))), .sl (List.map c108 (T_1 (2))), .sl (List.map c108 (T_1 (3))), .sl (List.map c108 (T_1 (4))), .sl (List.map c108 (T_1 (5))), .sl (List.map c108 (T_1 (6))), .sl (List.map c108 (T_1 (7))), .sl (List.map c108 (T_1 (8))), .sl (List.map c108 (T_1 (9))), .sl (List.map c108 (T_1 (10))), .sl (List.map c108 (T_1 (11))), .sl (List.map c108 (T_1 (12))), .sl (List.map c108 (T_1 (13))), .sl (List.map c108 (T_1 (14))), .sl (List.map c108 (T_1 (15)))]⟩)]⟩) (by kernel_rfl) ?_
  refine awp_varArr 7 ⟨0, 106, .var [.sl (List.map c108 (T_1 (0))), .sl (List.map c108 (T_1 (1))), .sl (List.map c108 (T_1 (2))), .sl (List.map c108 (T_1 (3))), .sl (List.map c108 (T_1 (4))), .sl (List.map c108 (T_1 (5))), .sl (List.map c108 (T_1 (6))), .sl (List.map c108 (T_1 (7))), .sl (List.map c108 (T_1 (8))), .sl (List.map c108 (T_1 (9))), .sl (List.map c108 (T_1 (10))), .sl (List.map c108 (T_1 (11))), .sl (List.map c108 (T_1 (12))), .sl (List.map c108 (T_1 (13))), .sl (List.map c108 (T_1 (14))), .sl (List.map c108 (T_1 (15)))]⟩ [.sl (List.map c108 (T_1 (0))), .sl (List.map c108 (T_1 (1))), .sl (List.map c108 (T_1 (2))), .sl (List.map c108 (T_1 (3))), .sl (List.map c108 (T_1 (4))), .sl (List.map c108 (T_1 (5))), .sl (List.map c108 (T_1 (6))), .sl (List.map c108 (T_1 (7))), .sl (List.map c108 (T_1 (8))), .sl (List.map c108 (T_1 (9))), .sl (List.map c108 (T_1 (10))), .sl (List.map c108 (T_1 (11))), .sl (List.map c108 (T_1 (12))), .sl (List.map c108 (T_1 (13))), .sl (List.map c108 (T_1 (14))), .sl (List.map c108 (T_1 (15)))] (tabC c108 (16 : Nat) T_1) (σ' := ⟨[(2, .ptr (2) (0) (0) (0)), (3, .ptr (7) (0) (0) (0)), (8, .sl (List.map c26 dots)), (9, .i .i64 ((↑dots.length : Int))), (10, .i .i64 (i_0)), (11, .b (decide (i_0 < (↑dots.length : Int))))], [(2, ⟨0, 36, .var [.nl, .nl]⟩), (7, ⟨0, 106, .arr (tabC c108 (16 : Nat) T_1)⟩)]⟩) (by kernel_rfl) (by kernel_rfl) (by kernel_rfl) (by kernel_rfl) (ZLe.of_eq (by kernel_rfl)) (by kernel_rfl) ?_
  refine rg (A := _) cx [(1, { val := some (.agg [.sl (List.map c3 (tabP T_1).vec), .sl (List.map c81 (tabP T_1).cloud)]) })] [2] [2] (con81 (T_1) ?g11) ?_; rotate_left 1
  refine sn ?_
  refine st_ret (by kernel_rfl) ?_
  refine q_ret (r := .agg [.sl (List.map c3 (tabP T_1).vec), .sl (List.map c81 (tabP T_1).cloud)]) (obl := []) (by kernel_rfl) trivial (AVle.eq (show AV.agg [AV.sl (List.map c3 (tabP T_1).vec), AV.sl (List.map c81 (tabP T_1).cloud)] = AV.agg (c36 (tabP (ofT dots))) from ?g12)); rotate_left 1
  rotate_left
  revert i_0 T_1 h_3 h_4 h_5 h_6 h_7; rotate_left
  revert i_0 T_1 h_3 h_4 h_5 h_6 h_7; rotate_left
  revert i_0 T_1 h_3 h_4 h_5 h_6 h_7; rotate_left
  revert i_0 T_1 h_3 h_4 h_5 h_6 h_7; rotate_left
  revert i_0 T_1 h_3 h_4 h_5 h_6 h_7; rotate_left
  revert i_0 T_1 h_3 h_4 h_5 h_6 h_7; rotate_left
  revert i_0 T_1 h_3 h_4 h_5 h_6 h_7; rotate_left
  revert i_0 T_1 h_3 h_4 h_5 h_6 h_7; rotate_left
  revert i_0 T_1 h_3 h_4 h_5 h_6 h_7; rotate_left
  revert i_0 T_1 h_3 h_4 h_5 h_6 h_7; rotate_left
  revert i_0 T_1 h_3 h_4 h_5 h_6; rotate_left
  revert i_0 T_1 h_3 h_4 h_5 h_6; rotate_left
  case g0 => exact ⟨by omega, by omega, fun r _ => by simp [ofT]⟩
  case g1 => intro i T h0 h1 h2 h3 h4; exact (dotB_in h4).1
  case g2 => intro i T h0 h1 h2 h3 h4; exact (dotB_in h4).2.1
  case g3 => intro i T h0 h1 h2 h3 h4; have hd := dotB_in h4; have := tab_len h1 h2 (r := dots[i.toNat]!.rep.toNat) (by omega); simp only [List.length_map, List.length_cons, List.length_nil, Go.maxLen]; omega
  case g4 => intro i T h0 h1 h2 h3 h4; have hd := dotB_in h4; have := tab_len h1 h2 (r := dots[i.toNat]!.rep.toNat) (by omega); simp only [List.length_map, List.length_cons, List.length_nil]; omega
  case g5 => intro i T h0 h1 h2 h3 h4; exact (dotB_in h4).1
  case g6 => intro i T h0 h1 h2 h3 h4; exact (dotB_in h4).2.1
  case g7 => intro i T h0 h1 h2 h3 h4; exact (dotB_in h4).1
  case g8 => intro i T h0 h1 h2 h3 h4; exact (dotB_in h4).2.1
  case g9 => intro i T h0 h1 h2 h3 h4; exact ⟨by omega, by omega, tab_in h0 h3 h2 h4⟩
  case g10 => intro i T h0 h1 h2 h3 h4; exact ⟨by omega, by omega, tab_out h0 h3 h2 h4⟩
  case g11 => intro i T h0 h1 h2 h3 r hr; have := tab_len h1 h2 hr; omega
  case g12 =>
    intro i T h0 h1 h2 h3
    have e : tabP T = tabP (ofT dots) := tabP_congr fun r hr => by rw [h2 r hr, List.take_of_length_le (by omega)]
    rw [e]
    rfl
end Go.Proofs.Ytjngmlkaijpbgaa
namespace Go.Proofs.Ytjngmlkaijpbgaa
open Go.E
set_option maxRecDepth 100000
set_option maxHeartbeats 4000000
def vecR (v : List Int) (r : Nat) : List Run := if r < v.length then [⟨1, v[r]!⟩] else []
def cloudR (c : List Span) (r : Nat) : List Run := (c.filter fun (s : Span) => decide (s.rep = (r : Int))).map fun s => ⟨s.lo, s.hi⟩
def openT (ps : List Past) (r : Nat) : List Run := (ps.map fun p => vecR p.vec r ++ cloudR p.cloud r).flatten
def isOpen (ps : List Past) (i : Int) (T : Nat → List Run) : Prop := ∀ r : Nat, r < 16 → T r = openT (ps.take i.toNat) r
def isOpenV (ps : List Past) (i j : Int) (T : Nat → List Run) : Prop := ∀ r : Nat, r < 16 → T r = openT (ps.take i.toNat) r ++ if (r : Int) < j then vecR (ps[i.toNat]!).vec r else []
def isOpenC (ps : List Past) (i j : Int) (T : Nat → List Run) : Prop := ∀ r : Nat, r < 16 → T r = openT (ps.take i.toNat) r ++ vecR (ps[i.toNat]!).vec r ++ cloudR ((ps[i.toNat]!).cloud.take j.toNat) r
def inv117a (ps : List Past) (i : Int) (T : Nat → List Run) : Prop := 0 ≤ i ∧ i ≤ ps.length ∧ isOpen ps i T
def dec117a (ps : List Past) (i : Int) (T : Nat → List Run) : Nat := (ps.length - i).toNat
def inv117b (ps : List Past) (i : Int) (n : Int) (j : Int) (T : Nat → List Run) (v : List Int) (c : List Span) : Prop := v = (ps[i.toNat]!).vec ∧ c = (ps[i.toNat]!).cloud ∧ 0 ≤ j ∧ j ≤ n ∧ isOpenV ps i j T
def dec117b (n : Int) (j : Int) (T : Nat → List Run) (v : List Int) (c : List Span) : Nat := (n - j).toNat
def inv117c (ps : List Past) (i : Int) (j : Int) (T : Nat → List Run) : Prop := 0 ≤ j ∧ j ≤ (ps[i.toNat]!).cloud.length ∧ isOpenC ps i j T
def dec117c (ps : List Past) (i : Int) (j : Int) (T : Nat → List Run) : Nat := ((ps[i.toNat]!).cloud.length - j).toNat
def totP (ps : List Past) : Nat := (ps.map fun p => p.cloud.length + 1).sum
theorem openT_app (a : List Past) (p : Past) (r : Nat) : openT (a ++ [p]) r = openT a r ++ (vecR p.vec r ++ cloudR p.cloud r) := by simp [openT]
theorem vecR_len (v : List Int) (r : Nat) : (vecR v r).length ≤ 1 := by unfold vecR; split <;> simp
theorem cloudR_len (c : List Span) (r : Nat) : (cloudR c r).length ≤ c.length := by
  unfold cloudR
  rw [List.length_map]
  exact List.length_filter_le _ _
theorem openT_len (r : Nat) : ∀ ps : List Past, (openT ps r).length ≤ totP ps
  | [] => by simp [openT]
  | p :: ps => by
    have h1 := openT_len r ps
    have h2 := vecR_len p.vec r
    have h3 := cloudR_len p.cloud r
    simp only [openT, totP, List.map_cons, List.flatten_cons, List.length_append, List.sum_cons] at *
    omega
theorem totP_app (a b : List Past) : totP (a ++ b) = totP a + totP b := by simp [totP]
theorem totP_take {ps : List Past} {i : Int} (h0 : 0 ≤ i) (h : i < ps.length) : totP (ps.take i.toNat) + (ps[i.toNat]!).cloud.length + 1 ≤ totP ps := by
  have e : totP ps = totP (ps.take (i + 1).toNat) + totP (ps.drop (i + 1).toNat) := by
    rw [← totP_app, List.take_append_drop]
  rw [← take_step h0 h] at e
  simp only [totP, List.map_append, List.sum_append, List.map_cons, List.map_nil, List.sum_cons, List.sum_nil] at *
  omega
theorem openV_start {ps : List Past} {i : Int} {T : Nat → List Run} (h : isOpen ps i T) : isOpenV ps i 0 T := fun r hr => by
  rw [h r hr, if_neg (by omega), List.append_nil]
theorem openV_next {ps : List Past} {i j : Int} {T : Nat → List Run} (j0 : 0 ≤ j) (jl : j < (ps[i.toNat]!).vec.length) (h : isOpenV ps i j T) :
    isOpenV ps i (j + 1) (updF T j.toNat (T j.toNat ++ [⟨1, (ps[i.toNat]!).vec[j.toNat]!⟩])) := by
  intro r hr
  unfold updF
  by_cases e : r = j.toNat
  · rw [if_pos e, ← e, h r hr, if_neg (by omega), if_pos (by omega), List.append_nil, vecR, if_pos (by omega)]
  · rw [if_neg e, h r hr]
    by_cases k : (r : Int) < j
    · rw [if_pos k, if_pos (by omega)]
    · rw [if_neg k, if_neg (by omega)]
theorem openC_start {ps : List Past} {i j : Int} {T : Nat → List Run} (j1 : j ≤ min ((ps[i.toNat]!).vec.length : Int) 16) (jl : ¬ j < min ((ps[i.toNat]!).vec.length : Int) 16) (h : isOpenV ps i j T) : isOpenC ps i 0 T := by
  intro r hr
  rw [h r hr, show (0 : Int).toNat = 0 from rfl, List.take_zero, show cloudR [] r = [] from rfl, List.append_nil]
  by_cases k : (r : Int) < j
  · rw [if_pos k]
  · rw [if_neg k, vecR, if_neg (by omega)]
theorem cloudR_app (c : List Span) (s : Span) (r : Nat) : cloudR (c ++ [s]) r = cloudR c r ++ if s.rep = (r : Int) then [⟨s.lo, s.hi⟩] else [] := by
  unfold cloudR
  rw [List.filter_append, List.map_append]
  congr 1
  by_cases h : s.rep = (r : Int)
  · rw [if_pos h]; simp [List.filter_cons, h]
  · rw [if_neg h]; simp [List.filter_cons, h]
theorem openC_in {ps : List Past} {i j : Int} {T : Nat → List Run} (j0 : 0 ≤ j) (jl : j < (ps[i.toNat]!).cloud.length) (hr : 0 ≤ ((ps[i.toNat]!).cloud[j.toNat]!).rep ∧ ((ps[i.toNat]!).cloud[j.toNat]!).rep < 16) (h : isOpenC ps i j T) :
    isOpenC ps i (j + 1) (updF T ((ps[i.toNat]!).cloud[j.toNat]!).rep.toNat (T ((ps[i.toNat]!).cloud[j.toNat]!).rep.toNat ++ [⟨((ps[i.toNat]!).cloud[j.toNat]!).lo, ((ps[i.toNat]!).cloud[j.toNat]!).hi⟩])) := by
  intro r hr'
  rw [← take_step j0 jl, cloudR_app]
  unfold updF
  by_cases e : r = ((ps[i.toNat]!).cloud[j.toNat]!).rep.toNat
  · rw [if_pos e, if_pos (by omega), ← e, h r hr', List.append_assoc, List.append_assoc]
  · rw [if_neg e, if_neg (by omega), List.append_nil, h r hr']
theorem openC_out {ps : List Past} {i j : Int} {T : Nat → List Run} (j0 : 0 ≤ j) (jl : j < (ps[i.toNat]!).cloud.length) (hr : ¬ (0 ≤ ((ps[i.toNat]!).cloud[j.toNat]!).rep ∧ ((ps[i.toNat]!).cloud[j.toNat]!).rep < 16)) (h : isOpenC ps i j T) : isOpenC ps i (j + 1) T := by
  intro r hr'
  rw [← take_step j0 jl, cloudR_app, if_neg (by omega), List.append_nil, h r hr']
theorem open_next {ps : List Past} {i j : Int} {T : Nat → List Run} (h0 : 0 ≤ i) (h1 : i < ps.length) (jl : ¬ j < (ps[i.toNat]!).cloud.length) (h : isOpenC ps i j T) : isOpen ps (i + 1) T := by
  intro r hr
  rw [← take_step h0 h1, openT_app, h r hr, List.take_of_length_le (l := (ps[i.toNat]!).cloud) (by omega), List.append_assoc]
theorem openV_len {ps : List Past} {i j : Int} {T : Nat → List Run} (h0 : 0 ≤ i) (h1 : i < ps.length) (h : isOpenV ps i j T) {r : Nat} (hr : r < 16) (k : ¬ (r : Int) < j) : (T r).length + 1 ≤ totP ps := by
  rw [h r hr, if_neg k, List.append_nil]
  have := openT_len r (ps.take i.toNat)
  have := totP_take h0 h1
  omega
theorem openC_len {ps : List Past} {i j : Int} {T : Nat → List Run} (h0 : 0 ≤ i) (h1 : i < ps.length) (j0 : 0 ≤ j) (jl : j < (ps[i.toNat]!).cloud.length) (h : isOpenC ps i j T) {r : Nat} (hr : r < 16) : (T r).length + 1 ≤ totP ps + 1 ∧ j + 1 ≤ totP ps := by
  rw [h r hr, List.length_append, List.length_append]
  have := openT_len r (ps.take i.toNat)
  have := totP_take h0 h1
  have := vecR_len (ps[i.toNat]!).vec r
  have := cloudR_len ((ps[i.toNat]!).cloud.take j.toNat) r
  rw [List.length_take] at this
  omega
theorem con117 (ps : List Past) (hb : totP ps * 16 ≤ 140737488351232) : ConB Try.prog 117 [.sl (ps.map c36)] 106 (.arr (tabC c108 16 (openT ps))) :=
  by
  refine conB_lens 0 (c36) (ps) (by kernel_rfl) Go.Proofs.Try.func117 (by kernel_rfl) fun hl_0 => ?_
  refine st_conB tab_ok (by kernel_rfl) (.tmp 2) 78 Go.Proofs.Try.func117 (by kernel_rfl) (by kernel_rfl) ?_
  intro e0 cx
  refine sq ?_
  refine rg (A := True) cx [] [0] [] trivial ?_
  refine sn ?_
  refine sq ?_
  refine rg (A := True) cx [] [0, 3] [10] trivial ?_
  refine sn ?_
  refine sq ?_
  refine sq ?_
  refine rg (A := _) cx [(1, { tell := some (.i .i64 ((↑ps.length : Int))) })] [3, 11, 12, 13] [10] (told_len c36 ps) ?_
  refine sn ?_
  refine st_block 0 (by kernel_rfl) ?_
  refine awp_tabIn 10 108 2 101000 16 (σ' := ⟨[(3, .ptr (10) (0) (0) (0)), (11, .sl (List.map c36 ps)), (12, .i .i64 ((↑ps.length : Int))), (13, .i .i64 ((0 : Int)))], [(10, ⟨0, 106, .var (ownsC 101000 16)⟩)] ++ tabRows 101000 108 2 16 (c108) (fun x ↦ [])⟩) (by kernel_rfl) ?_
  refine st_loop (X := Int × (Nat → List Run)) (fun x => ⟨[(3, .ptr (10) (0) (0) (0)), (11, .sl (List.map c36 ps)), (12, .i .i64 ((↑ps.length : Int))), (13, .i .i64 (x.fst))], [(10, ⟨0, 106, .var (ownsC 101000 16)⟩)] ++ tabRows 101000 108 2 16 (c108) (x.snd)⟩) (fun x ↦ dec117a ps x.fst x.snd) (fun x ↦ inv117a ps x.fst x.snd) [3, 11, 12, 13] ([10] ++ List.range' 101000 16) (((0 : Int), fun x ↦ [])) (by kernel_rfl) (by kernel_rfl) (show inv117a ps (0 : Int) fun x ↦ [] from ?g0) ?_; rotate_left 1
  rintro ⟨i_0, T_1⟩ h_2
  obtain ⟨h_3, h_4, h_5⟩ : (0 : Int) ≤ i_0 ∧ i_0 ≤ (↑ps.length : Int) ∧ isOpen ps i_0 T_1 := h_2
  refine sq ?_
  refine rg (A := (AV.b (decide (i_0 < (↑ps.length : Int))) = AV.b (decide (i_0 < (↑ps.length : Int))))) cx [(0, { tell := some (.b (decide (i_0 < (↑ps.length : Int)))) })] [3, 11, 12, 13, 14] ([10] ++ List.range' 101000 16) (by kernel_rfl) ?_
  refine sn ?_
  refine sq ?_
  refine st_dec (i_0 < (↑ps.length : Int)) (by kernel_rfl) (by kernel_rfl) (fun h_6 => ?_) (fun h_6 => ?_)
  refine st_skip (by kernel_rfl) ?_
  refine sn ?_
  refine sq ?_
  refine st_block 1 (by kernel_rfl) ?_
  refine sq ?_
  refine rg (A := ((0 : Int) ≤ i_0) ∧ ((List.map c36 ps)[i_0.toNat]? = some (c36 ps[i_0.toNat]!)) ∧ ((c36 ps[i_0.toNat]!).length = (2 : Nat)) ∧ ((2 : Nat) ≤ [AV.sl (List.map c3 ps[i_0.toNat]!.vec), AV.sl (List.map c81 ps[i_0.toNat]!.cloud)].length)) cx [(0, { row := (c36 ps[i_0.toNat]!) })] [3, 11, 12, 13, 5] ([10] ++ List.range' 101000 16 ++ [5]) ⟨(by (with_reducible assumption)), (by (with_reducible refine get_map ?_; omega)), (by kernel_rfl), (by (simp only [List.length_append, List.length_cons, List.length_nil]; omega))⟩ ?_
  refine sn ?_
  refine sq ?_
  refine sq ?_
  refine rg (A := _ ∧ (AV.i IntKind.i64 (if (16 : Int) < (↑ps[i_0.toNat]!.vec.length : Int) then (16 : Int) else (↑ps[i_0.toNat]!.vec.length : Int)) = AV.i IntKind.i64 (min (↑ps[i_0.toNat]!.vec.length : Int) (16 : Int)))) cx [(2, { tell := some (.i .i64 ((↑ps[i_0.toNat]!.vec.length : Int))) }), (3, { tell := some (.i .i64 (min (↑ps[i_0.toNat]!.vec.length : Int) (16 : Int))) })] [3, 11, 12, 13, 5, 20, 21] ([10] ++ List.range' 101000 16 ++ [5]) ⟨(told_len c3 ps[i_0.toNat]!.vec), (told_min)⟩ ?_
  refine sn ?_
  refine st_block 2 (by kernel_rfl) ?_
  refine st_loop (X := Int × (Nat → List Run) × List Int × List Span) (fun x => ⟨[(3, .ptr (10) (0) (0) (0)), (11, .sl (List.map c36 ps)), (12, .i .i64 ((↑ps.length : Int))), (13, .i .i64 (i_0)), (5, .ptr (5) (0) (0) (0)), (20, .i .i64 (min (↑ps[i_0.toNat]!.vec.length : Int) (16 : Int))), (21, .i .i64 (x.fst))], [(10, ⟨0, 106, .var (ownsC 101000 16)⟩)] ++ tabRows 101000 108 2 16 (c108) (x.snd.fst) ++ [(5, ⟨0, 36, .var [.sl (List.map c3 x.snd.snd.fst), .sl (List.map c81 x.snd.snd.snd)]⟩)]⟩) (fun x ↦ dec117b (min (↑ps[i_0.toNat]!.vec.length : Int) (16 : Int)) x.fst x.snd.fst x.snd.snd.fst x.snd.snd.snd) (fun x ↦ inv117b ps i_0 (min (↑ps[i_0.toNat]!.vec.length : Int) (16 : Int)) x.fst x.snd.fst x.snd.snd.fst x.snd.snd.snd) [3, 11, 12, 13, 5, 20, 21] ([10] ++ List.range' 101000 16 ++ [5]) (((0 : Int), T_1, ps[i_0.toNat]!.vec, ps[i_0.toNat]!.cloud)) (by kernel_rfl) (by kernel_rfl) (show inv117b ps i_0 (min (↑ps[i_0.toNat]!.vec.length : Int) (16 : Int)) (0 : Int) T_1 ps[i_0.toNat]!.vec ps[i_0.toNat]!.cloud from ?g1) ?_; rotate_left 1
  rintro ⟨j_7, T_8, v_9, c_10⟩ h_11
  obtain ⟨h_12, h_13, h_14, h_15, h_16⟩ : v_9 = ps[i_0.toNat]!.vec ∧ c_10 = ps[i_0.toNat]!.cloud ∧ (0 : Int) ≤ j_7 ∧ j_7 ≤ min (↑ps[i_0.toNat]!.vec.length : Int) (16 : Int) ∧ isOpenV ps i_0 j_7 T_8 := h_11
  refine sq ?_
  refine rg (A := (AV.b (decide (j_7 < min (↑ps[i_0.toNat]!.vec.length : Int) (16 : Int))) = AV.b (decide (j_7 < min (↑ps[i_0.toNat]!.vec.length : Int) (16 : Int))))) cx [(0, { tell := some (.b (decide (j_7 < min (↑ps[i_0.toNat]!.vec.length : Int) (16 : Int)))) })] [3, 11, 12, 13, 5, 20, 21, 22] ([10] ++ List.range' 101000 16 ++ [5]) (by kernel_rfl) ?_
  refine sn ?_
  refine sq ?_
  refine st_dec (j_7 < min (↑ps[i_0.toNat]!.vec.length : Int) (16 : Int)) (by kernel_rfl) (by kernel_rfl) (fun h_17 => ?_) (fun h_17 => ?_)
  refine st_skip (by kernel_rfl) ?_
  refine sn ?_
  refine sq ?_
  refine st_block 3 (by kernel_rfl) ?_
  refine sq ?_
  refine rg (A := True) cx [] [3, 11, 12, 13, 5, 20, 21, 6] ([10] ++ List.range' 101000 16 ++ [5]) trivial ?_
  refine sn ?_
  refine st_any16 (F := fun kx => ⟨[(3, .ptr (10) (0) (0) (0)), (11, .sl (List.map c36 ps)), (12, .i .i64 ((↑ps.length : Int))), (13, .i .i64 (i_0)), (5, .ptr (5) (0) (0) (0)), (20, .i .i64 (min (↑ps[i_0.toNat]!.vec.length : Int) (16 : Int))), (21, .i .i64 (kx)), (6, .i .i64 (kx))], [(10, ⟨0, 106, .var (ownsC 101000 16)⟩)] ++ tabRows 101000 108 2 16 (c108) (T_8) ++ [(5, ⟨0, 36, .var [.sl (List.map c3 v_9), .sl (List.map c81 c_10)]⟩)]⟩) (G := fun kx => ⟨[(3, .ptr (10) (0) (0) (0)), (11, .sl (List.map c36 ps)), (12, .i .i64 ((↑ps.length : Int))), (13, .i .i64 (i_0)), (5, .ptr (5) (0) (0) (0)), (20, .i .i64 (min (↑ps[i_0.toNat]!.vec.length : Int) (16 : Int))), (21, .i .i64 (kx))], [(10, ⟨0, 106, .var (ownsC 101000 16)⟩)] ++ tabRows 101000 108 2 16 (c108) (updF T_8 kx.toNat (T_8 kx.toNat ++ [{ lo := (1 : Int), hi := v_9[kx.toNat]! : Run }])) ++ [(5, ⟨0, 36, .var [.sl (List.map c3 v_9), .sl (List.map c81 c_10)]⟩)]⟩) (A := fun kx => ((0 : Int) ≤ kx) ∧ (kx < (↑(16 : Nat) : Int)) ∧ ((0 : Int) ≤ kx) ∧ ((List.map c3 v_9)[kx.toNat]? = some (c3 v_9[kx.toNat]!)) ∧ ((c3 v_9[kx.toNat]!).length = (1 : Nat)) ∧ (108 = (108 : Nat)) ∧ ((2 : Nat) = 2) ∧ ([AV.i IntKind.i64 (0 : Int), AV.i IntKind.i64 (0 : Int)].length = (2 : Nat)) ∧ (∀ (r : List AV), r ∈ List.map c108 [{ lo := (1 : Int), hi := v_9[kx.toNat]! : Run }] → r.length = 2) ∧ ((List.map c108 (T_8 kx.toNat)).length + (List.map c108 [{ lo := (1 : Int), hi := v_9[kx.toNat]! : Run }]).length ≤ maxLen) ∧ (((List.map c108 (T_8 kx.toNat)).length + (List.map c108 [{ lo := (1 : Int), hi := v_9[kx.toNat]! : Run }]).length) * (16 : Nat) ≤ (140737488355328 : Nat)) ∧ (List.map c108 (T_8 kx.toNat) ++ List.map c108 [{ lo := (1 : Int), hi := v_9[kx.toNat]! : Run }] = List.map c108 (T_8 kx.toNat ++ [{ lo := (1 : Int), hi := v_9[kx.toNat]! : Run }])) ∧ ((0 : Int) ≤ kx) ∧ (kx < (↑(16 : Nat) : Int))) cx (fun kx => [(10, { row := (c3 v_9[kx.toNat]!) }), (14, { rows := some (List.map c108 (T_8 kx.toNat ++ [{ lo := (1 : Int), hi := v_9[kx.toNat]! : Run }])) })]) [3, 11, 12, 13, 5, 20, 21] ([10] ++ List.range' 101000 16 ++ [5]) (j_7) (by (with_reducible assumption)) (by omega) (by kernel_rfl) (by kernel_rfl) ⟨(by show _ = _; kernel_rfl), (by show _ = _; kernel_rfl), (by show _ = _; kernel_rfl), (by show _ = _; kernel_rfl), (by show _ = _; kernel_rfl), (by show _ = _; kernel_rfl), (by show _ = _; kernel_rfl), (by show _ = _; kernel_rfl), (by show _ = _; kernel_rfl), (by show _ = _; kernel_rfl), (by show _ = _; kernel_rfl), (by show _ = _; kernel_rfl), (by show _ = _; kernel_rfl), (by show _ = _; kernel_rfl), (by show _ = _; kernel_rfl), (by show _ = _; kernel_rfl)⟩ ⟨(by (with_reducible assumption)), (by omega), (by (with_reducible assumption)), ?g2, (by kernel_rfl), (by kernel_rfl), (by kernel_rfl), (by kernel_rfl), (by (with_reducible refine len_map (fun _ => ?_) _; kernel_rfl)), ?g3, ?g4, (by (with_reducible refine app_map ?_; kernel_rfl)), (by (with_reducible assumption)), (by omega)⟩ ?_; rotate_left 3
  refine q_blk_normal ?_
  refine sn ?_
  refine rg (A := (AV.i IntKind.i64 (IntKind.i64.wrap (j_7 + (1 : Int))) = AV.i IntKind.i64 (j_7 + (1 : Int)))) cx [(0, { tell := some (.i .i64 (j_7 + (1 : Int))) })] [3, 11, 12, 13, 5, 20, 21] ([10] ++ List.range' 101000 16 ++ [5]) (told_i64 (by omega) (by omega)) ?_
  refine sn ?_
  refine loop_next ((j_7 + (1 : Int), updF T_8 j_7.toNat (T_8 j_7.toNat ++ [{ lo := (1 : Int), hi := v_9[j_7.toNat]! : Run }]), v_9, c_10)) (by kernel_rfl) (show (min (↑ps[i_0.toNat]!.vec.length : Int) (16 : Int) - (j_7 + (1 : Int))).toNat < (min (↑ps[i_0.toNat]!.vec.length : Int) (16 : Int) - j_7).toNat from (by omega)) (show inv117b ps i_0 (min (↑ps[i_0.toNat]!.vec.length : Int) (16 : Int)) (j_7 + (1 : Int)) (updF T_8 j_7.toNat (T_8 j_7.toNat ++ [{ lo := (1 : Int), hi := v_9[j_7.toNat]! : Run }])) v_9 c_10 from ?g5); rotate_left 1
  refine st_exit 2 (by kernel_rfl) ?_
  refine q_seq_exit ?_
  refine q_seq_exit ?_
  refine q_blk_hit ?_
  refine sn ?_
  refine sq ?_
  refine rg (A := _) cx [(2, { tell := some (.i .i64 ((↑c_10.length : Int))) })] [3, 11, 12, 13, 43, 44, 45] ([10] ++ List.range' 101000 16) (told_len c81 c_10) ?_
  refine sn ?_
  refine st_block 4 (by kernel_rfl) ?_
  refine st_loop (X := Int × (Nat → List Run)) (fun x => ⟨[(3, .ptr (10) (0) (0) (0)), (11, .sl (List.map c36 ps)), (12, .i .i64 ((↑ps.length : Int))), (13, .i .i64 (i_0)), (43, .sl (List.map c81 c_10)), (44, .i .i64 ((↑c_10.length : Int))), (45, .i .i64 (x.fst))], [(10, ⟨0, 106, .var (ownsC 101000 16)⟩)] ++ tabRows 101000 108 2 16 (c108) (x.snd)⟩) (fun x ↦ dec117c ps i_0 x.fst x.snd) (fun x ↦ inv117c ps i_0 x.fst x.snd) [3, 11, 12, 13, 43, 44, 45] ([10] ++ List.range' 101000 16) (((0 : Int), T_8)) (by kernel_rfl) (by kernel_rfl) (show inv117c ps i_0 (0 : Int) T_8 from ?g6) ?_; rotate_left 1
  rintro ⟨j_18, T_19⟩ h_20
  obtain ⟨h_21, h_22, h_23⟩ : (0 : Int) ≤ j_18 ∧ j_18 ≤ (↑ps[i_0.toNat]!.cloud.length : Int) ∧ isOpenC ps i_0 j_18 T_19 := h_20
  refine sq ?_
  refine rg (A := (AV.b (decide (j_18 < (↑c_10.length : Int))) = AV.b (decide (j_18 < (↑c_10.length : Int))))) cx [(0, { tell := some (.b (decide (j_18 < (↑c_10.length : Int)))) })] [3, 11, 12, 13, 43, 44, 45, 46] ([10] ++ List.range' 101000 16) (by kernel_rfl) ?_
  refine sn ?_
  refine sq ?_
  refine st_dec (j_18 < (↑c_10.length : Int)) (by kernel_rfl) (by kernel_rfl) (fun h_24 => ?_) (fun h_24 => ?_)
  refine st_skip (by kernel_rfl) ?_
  refine sn ?_
  refine sq ?_
  refine st_block 5 (by kernel_rfl) ?_
  refine sq ?_
  refine rg (A := ((0 : Int) ≤ j_18) ∧ ((List.map c81 c_10)[j_18.toNat]? = some (c81 c_10[j_18.toNat]!)) ∧ ((c81 c_10[j_18.toNat]!).length = (3 : Nat)) ∧ ((3 : Nat) ≤ [AV.i IntKind.i64 c_10[j_18.toNat]!.rep, AV.i IntKind.i64 c_10[j_18.toNat]!.lo, AV.i IntKind.i64 c_10[j_18.toNat]!.hi].length)) cx [(0, { row := (c81 c_10[j_18.toNat]!) })] [3, 11, 12, 13, 43, 44, 45, 8] ([10] ++ List.range' 101000 16 ++ [8]) ⟨(by (with_reducible assumption)), (by (with_reducible refine get_map ?_; omega)), (by kernel_rfl), (by (simp only [List.length_append, List.length_cons, List.length_nil]; omega))⟩ ?_
  refine sn ?_
  refine sq ?_
  refine st_join (σ' := ⟨[(3, .ptr (10) (0) (0) (0)), (11, .sl (List.map c36 ps)), (12, .i .i64 ((↑ps.length : Int))), (13, .i .i64 (i_0)), (43, .sl (List.map c81 c_10)), (44, .i .i64 ((↑c_10.length : Int))), (45, .i .i64 (j_18)), (8, .ptr (8) (0) (0) (0)), (56, .b (decide ((0 : Int) ≤ c_10[j_18.toNat]!.rep ∧ c_10[j_18.toNat]!.rep < (16 : Int))))], [(10, ⟨0, 106, .var (ownsC 101000 16)⟩)] ++ tabRows 101000 108 2 16 (c108) (T_19) ++ [(8, ⟨0, 81, .var [.i .i64 (c_10[j_18.toNat]!.rep), .i .i64 (c_10[j_18.toNat]!.lo), .i .i64 (c_10[j_18.toNat]!.hi)]⟩)]⟩) ?_ ?_
  refine st_split ((0 : Int) ≤ c_10[j_18.toNat]!.rep) (fun h_26 => ?_) (fun h_26 => ?_)
  refine rg (A := _ ∧ (AV.b (decide (c_10[j_18.toNat]!.rep < (16 : Int))) = AV.b (decide (c_10[j_18.toNat]!.rep < (16 : Int)))) ∧ (AV.b (decide (c_10[j_18.toNat]!.rep < (16 : Int))) = AV.b (decide ((0 : Int) ≤ c_10[j_18.toNat]!.rep ∧ c_10[j_18.toNat]!.rep < (16 : Int))))) cx [(2, { tell := some (.b (true)) }), (6, { tell := some (.b (decide (c_10[j_18.toNat]!.rep < (16 : Int)))) }), (7, { tell := some (.b (decide ((0 : Int) ≤ c_10[j_18.toNat]!.rep ∧ c_10[j_18.toNat]!.rep < (16 : Int)))) })] [3, 11, 12, 13, 43, 44, 45, 8, 56] ([10] ++ List.range' 101000 16 ++ [8]) ⟨(told_true h_26), (by kernel_rfl), (by simp only [eq_true h_26, told_simp1, told_simp2, and_true, true_and, and_false, false_and, or_true, true_or, or_false, false_or, not_true_eq_false, not_false_eq_true, decide_true, decide_false, Bool.decide_eq_true])⟩ ?_
  exact ⟨rfl, by kernel_rfl⟩
  refine rg (A := _ ∧ (AV.b false = AV.b (decide ((0 : Int) ≤ c_10[j_18.toNat]!.rep ∧ c_10[j_18.toNat]!.rep < (16 : Int))))) cx [(2, { tell := some (.b (false)) }), (7, { tell := some (.b (decide ((0 : Int) ≤ c_10[j_18.toNat]!.rep ∧ c_10[j_18.toNat]!.rep < (16 : Int)))) })] [3, 11, 12, 13, 43, 44, 45, 8, 56] ([10] ++ List.range' 101000 16 ++ [8]) ⟨(told_false h_26), (by simp only [eq_false h_26, told_simp1, told_simp2, and_true, true_and, and_false, false_and, or_true, true_or, or_false, false_or, not_true_eq_false, not_false_eq_true, decide_true, decide_false, Bool.decide_eq_true])⟩ ?_
  exact ⟨rfl, by kernel_rfl⟩
  refine sn ?_
  refine st_dec ((0 : Int) ≤ c_10[j_18.toNat]!.rep ∧ c_10[j_18.toNat]!.rep < (16 : Int)) (by kernel_rfl) (by kernel_rfl) (fun h_27 => ?_) (fun h_27 => ?_)
  refine st_any16 (F := fun kx => ⟨[(3, .ptr (10) (0) (0) (0)), (11, .sl (List.map c36 ps)), (12, .i .i64 ((↑ps.length : Int))), (13, .i .i64 (i_0)), (43, .sl (List.map c81 c_10)), (44, .i .i64 ((↑c_10.length : Int))), (45, .i .i64 (j_18)), (8, .ptr (8) (0) (0) (0)), (56, .b (decide ((0 : Int) ≤ kx ∧ kx < (16 : Int))))], [(10, ⟨0, 106, .var (ownsC 101000 16)⟩)] ++ tabRows 101000 108 2 16 (c108) (T_19) ++ [(8, ⟨0, 81, .var [.i .i64 (kx), .i .i64 (c_10[j_18.toNat]!.lo), .i .i64 (c_10[j_18.toNat]!.hi)]⟩)]⟩) (G := fun kx => ⟨[(3, .ptr (10) (0) (0) (0)), (11, .sl (List.map c36 ps)), (12, .i .i64 ((↑ps.length : Int))), (13, .i .i64 (i_0)), (43, .sl (List.map c81 c_10)), (44, .i .i64 ((↑c_10.length : Int))), (45, .i .i64 (j_18))], [(10, ⟨0, 106, .var (ownsC 101000 16)⟩)] ++ tabRows 101000 108 2 16 (c108) (updF T_19 kx.toNat (T_19 kx.toNat ++ [{ lo := c_10[j_18.toNat]!.lo, hi := c_10[j_18.toNat]!.hi : Run }]))⟩) (A := fun kx => ((0 : Int) ≤ kx) ∧ (kx < (↑(16 : Nat) : Int)) ∧ (108 = (108 : Nat)) ∧ ((2 : Nat) = 2) ∧ ([AV.i IntKind.i64 (0 : Int), AV.i IntKind.i64 (0 : Int)].length = (2 : Nat)) ∧ (∀ (r : List AV), r ∈ List.map c108 [{ lo := c_10[j_18.toNat]!.lo, hi := c_10[j_18.toNat]!.hi : Run }] → r.length = 2) ∧ ((List.map c108 (T_19 kx.toNat)).length + (List.map c108 [{ lo := c_10[j_18.toNat]!.lo, hi := c_10[j_18.toNat]!.hi : Run }]).length ≤ maxLen) ∧ (((List.map c108 (T_19 kx.toNat)).length + (List.map c108 [{ lo := c_10[j_18.toNat]!.lo, hi := c_10[j_18.toNat]!.hi : Run }]).length) * (16 : Nat) ≤ (140737488355328 : Nat)) ∧ (List.map c108 (T_19 kx.toNat) ++ List.map c108 [{ lo := c_10[j_18.toNat]!.lo, hi := c_10[j_18.toNat]!.hi : Run }] = List.map c108 (T_19 kx.toNat ++ [{ lo := c_10[j_18.toNat]!.lo, hi := c_10[j_18.toNat]!.hi : Run }])) ∧ ((0 : Int) ≤ kx) ∧ (kx < (↑(16 : Nat) : Int))) cx (fun kx => [(15, { rows := some (List.map c108 (T_19 kx.toNat ++ [{ lo := c_10[j_18.toNat]!.lo, hi := c_10[j_18.toNat]!.hi : Run }])) })]) [3, 11, 12, 13, 43, 44, 45] ([10] ++ List.range' 101000 16) (c_10[j_18.toNat]!.rep) (by omega) (by omega) (by kernel_rfl) (by kernel_rfl) ⟨(by show _ = _; kernel_rfl), (by show _ = _; kernel_rfl), (by show _ = _; kernel_rfl), (by show _ = _; kernel_rfl), (by show _ = _; kernel_rfl), (by show _ = _; kernel_rfl), (by show _ = _; kernel_rfl), (by show _ = _; kernel_rfl), (by show _ = _; kernel_rfl), (by show _ = _; kernel_rfl), (by show _ = _; kernel_rfl), (by show _ = _; kernel_rfl), (by show _ = _; kernel_rfl), (by show _ = _; kernel_rfl), (by show _ = _; kernel_rfl), (by show _ = _; kernel_rfl)⟩ ⟨(by omega), (by omega), (by kernel_rfl), (by kernel_rfl), (by kernel_rfl), (by (with_reducible refine len_map (fun _ => ?_) _; kernel_rfl)), ?g7, ?g8, (by (with_reducible refine app_map ?_; kernel_rfl)), (by omega), (by omega)⟩ ?_; rotate_left 2
  refine q_blk_normal ?_
  refine sn ?_
  refine rg (A := (AV.i IntKind.i64 (IntKind.i64.wrap (j_18 + (1 : Int))) = AV.i IntKind.i64 (j_18 + (1 : Int)))) cx [(0, { tell := some (.i .i64 (j_18 + (1 : Int))) })] [3, 11, 12, 13, 43, 44, 45] ([10] ++ List.range' 101000 16) (told_i64 (by omega) ?g9) ?_; rotate_left 1
  refine sn ?_
  refine loop_next ((j_18 + (1 : Int), updF T_19 c_10[j_18.toNat]!.rep.toNat (T_19 c_10[j_18.toNat]!.rep.toNat ++ [{ lo := c_10[j_18.toNat]!.lo, hi := c_10[j_18.toNat]!.hi : Run }]))) (by kernel_rfl) (show ((↑ps[i_0.toNat]!.cloud.length : Int) - (j_18 + (1 : Int))).toNat < ((↑ps[i_0.toNat]!.cloud.length : Int) - j_18).toNat from ?g10) (show inv117c ps i_0 (j_18 + (1 : Int)) (updF T_19 c_10[j_18.toNat]!.rep.toNat (T_19 c_10[j_18.toNat]!.rep.toNat ++ [{ lo := c_10[j_18.toNat]!.lo, hi := c_10[j_18.toNat]!.hi : Run }])) from ?g11); rotate_left 2
  refine st_skip (by kernel_rfl) ?_
  refine q_blk_normal ?_
  refine sn ?_
  refine rg (A := (AV.i IntKind.i64 (IntKind.i64.wrap (j_18 + (1 : Int))) = AV.i IntKind.i64 (j_18 + (1 : Int)))) cx [(0, { tell := some (.i .i64 (j_18 + (1 : Int))) })] [3, 11, 12, 13, 43, 44, 45] ([10] ++ List.range' 101000 16) (told_i64 (by omega) ?g12) ?_; rotate_left 1
  refine sn ?_
  refine loop_next ((j_18 + (1 : Int), T_19)) (by kernel_rfl) (show ((↑ps[i_0.toNat]!.cloud.length : Int) - (j_18 + (1 : Int))).toNat < ((↑ps[i_0.toNat]!.cloud.length : Int) - j_18).toNat from ?g13) (show inv117c ps i_0 (j_18 + (1 : Int)) T_19 from ?g14); rotate_left 2
  refine st_exit 4 (by kernel_rfl) ?_
  refine q_seq_exit ?_
  refine q_seq_exit ?_
  refine q_blk_hit ?_
  refine q_blk_normal ?_
  refine sn ?_
  refine rg (A := (AV.i IntKind.i64 (IntKind.i64.wrap (i_0 + (1 : Int))) = AV.i IntKind.i64 (i_0 + (1 : Int)))) cx [(0, { tell := some (.i .i64 (i_0 + (1 : Int))) })] [3, 11, 12, 13] ([10] ++ List.range' 101000 16) (told_i64 (by omega) (by omega)) ?_
  refine sn ?_
  refine loop_next ((i_0 + (1 : Int), T_19)) (by kernel_rfl) (show ((↑ps.length : Int) - (i_0 + (1 : Int))).toNat < ((↑ps.length : Int) - i_0).toNat from (by omega)) (show inv117a ps (i_0 + (1 : Int)) T_19 from ?g15); rotate_left 1
  refine st_exit 0 (by kernel_rfl) ?_
  refine q_seq_exit ?_
  refine q_seq_exit ?_
  refine q_blk_hit ?_
  refine sn ?_
  refine sq ?_
  refine awp_norm (List.range' 101000 16) [3, 11, 12, 13, 14] [10] (σ' := ⟨[(3, .ptr (10) (0) (0) (0)), (11, .sl (List.map c36 ps)), (12, .i .i64 ((↑ps.length : Int))), (13, .i .i64 (i_0)), (14, .b (decide (i_0 < (↑ps.length : Int))))], [(10, ⟨0, 106, .var [.sl (List.map c108 (T_1 (0))), .sl (List.map c108 (T_1 (1))), .sl (List.map c108 (T_1 (2))), .sl (List.map c108 (T_1 (3))), .sl (List.map c108 (T_1 (4))), .sl (List.map c108 (T_1 (5))), .sl (List.map c108 (T_1 (6))), .sl (List.map c108 (T_1 (7))), .sl (List.map c108 (T_1 (8))), .sl (List.map c108 (T_1 (9))), .sl (List.map c108 (T_1 (10))), .sl (List.map c108 (T_1 (11))), .sl (List.map c108 (T_1 (12))), .sl (List.map c108 (T_1 (13))), .sl (List.map c108 (T_1 (14))), .sl (List.map c108 (T_1 (15)))]⟩)]⟩) (by kernel_rfl) ?_
  refine awp_varArr 10 ⟨0, 106, .var [.sl (List.map c108 (T_1 (0))), .sl (List.map c108 (T_1 (1))), .sl (List.map c108 (T_1 (2))), .sl (List.map c108 (T_1 (3))), .sl (List.map c108 (T_1 (4))), .sl (List.map c108 (T_1 (5))), .sl (List.map c108 (T_1 (6))), .sl (List.map c108 (T_1 (7))), .sl (List.map c108 (T_1 (8))), .sl (List.map c108 (T_1 (9))), .sl (List.map c108 (T_1 (10))), .sl (List.map c108 (T_1 (11))), .sl (List.map c108 (T_1 (12))), .sl (List.map c108 (T_1 (13))), .sl (List.map c108 (T_1 (14))), .sl (List.map c108 (T_1 (15)))]⟩ [.sl (List.map c108 (T_1 (0))), .sl (List.map c108 (T_1 (1))), .sl (List.map c108 (T_1 (2))), .sl (List.map c108 (T_1 (3))), .sl (List.map c108 (T_1 (4))), .sl (List.map c108 (T_1 (5))), .sl (List.map c108 (T_1 (6))), .sl (List.map c108 (T_1 (7))), .sl (List.map c108 (T_1 (8))), .sl (List.map c108 (T_1 (9))), .sl (List.map c108 (T_1 (10))), .sl (List.map c108 (T_1 (11))), .sl (List.map c108 (T_1 (12))), .sl (List.map c108 (T_1 (13))), .sl (List.map c108 (T_1 (14))), .sl (List.map c108 (T_1 (15)))] (tabC c108 (16 : Nat) T_1) (σ' := ⟨[(3, .ptr (10) (0) (0) (0)), (11, .sl (List.map c36 ps)), (12, .i .i64 ((↑ps.length : Int))), (13, .i .i64 (i_0)), (14, .b (decide (i_0 < (↑ps.length : Int))))], [(10, ⟨0, 106, .arr (tabC c108 (16 : Nat) T_1)⟩)]⟩) (by kernel_rfl) (by kernel_rfl) (by kernel_rfl) (by kernel_rfl) (ZLe.of_eq (by kernel_rfl)) (by kernel_rfl) ?_
  refine rg (A := True) cx [] [2] [10] trivial ?_
  refine sn ?_
  refine st_ret (by kernel_rfl) ?_
  refine qb_ptr (cells' := (tabC c108 (16 : Nat) T_1)) .ret (.inr rfl) 2 10 0 (by kernel_rfl) (by kernel_rfl) (by kernel_rfl) ?g16; rotate_left 1
  rotate_left
  revert i_0 T_1 h_3 h_4 h_5 h_6; rotate_left
  revert i_0 T_1 h_3 h_4 h_5 h_6 j_7 T_8 v_9 c_10 h_12 h_13 h_14 h_15 h_16 h_17; rotate_left
  revert i_0 T_1 h_3 h_4 h_5 h_6 j_7 T_8 v_9 c_10 h_12 h_13 h_14 h_15 h_16 h_17; rotate_left
  revert i_0 T_1 h_3 h_4 h_5 h_6 j_7 T_8 v_9 c_10 h_12 h_13 h_14 h_15 h_16 h_17; rotate_left
  revert i_0 T_1 h_3 h_4 h_5 h_6 j_7 T_8 v_9 c_10 h_12 h_13 h_14 h_15 h_16 h_17; rotate_left
  revert i_0 T_1 h_3 h_4 h_5 h_6 j_7 T_8 v_9 c_10 h_12 h_13 h_14 h_15 h_16 h_17; rotate_left
  revert i_0 T_1 h_3 h_4 h_5 h_6 j_7 T_8 v_9 c_10 h_12 h_13 h_14 h_15 h_16 h_17 j_18 T_19 h_21 h_22 h_23 h_24 h_27; rotate_left
  revert i_0 T_1 h_3 h_4 h_5 h_6 j_7 T_8 v_9 c_10 h_12 h_13 h_14 h_15 h_16 h_17 j_18 T_19 h_21 h_22 h_23 h_24 h_27; rotate_left
  revert i_0 T_1 h_3 h_4 h_5 h_6 j_7 T_8 v_9 c_10 h_12 h_13 h_14 h_15 h_16 h_17 j_18 T_19 h_21 h_22 h_23 h_24 h_27; rotate_left
  revert i_0 T_1 h_3 h_4 h_5 h_6 j_7 T_8 v_9 c_10 h_12 h_13 h_14 h_15 h_16 h_17 j_18 T_19 h_21 h_22 h_23 h_24 h_27; rotate_left
  revert i_0 T_1 h_3 h_4 h_5 h_6 j_7 T_8 v_9 c_10 h_12 h_13 h_14 h_15 h_16 h_17 j_18 T_19 h_21 h_22 h_23 h_24 h_27; rotate_left
  revert i_0 T_1 h_3 h_4 h_5 h_6 j_7 T_8 v_9 c_10 h_12 h_13 h_14 h_15 h_16 h_17 j_18 T_19 h_21 h_22 h_23 h_24 h_27; rotate_left
  revert i_0 T_1 h_3 h_4 h_5 h_6 j_7 T_8 v_9 c_10 h_12 h_13 h_14 h_15 h_16 h_17 j_18 T_19 h_21 h_22 h_23 h_24 h_27; rotate_left
  revert i_0 T_1 h_3 h_4 h_5 h_6 j_7 T_8 v_9 c_10 h_12 h_13 h_14 h_15 h_16 h_17 j_18 T_19 h_21 h_22 h_23 h_24 h_27; rotate_left
  revert i_0 T_1 h_3 h_4 h_5 h_6 j_7 T_8 v_9 c_10 h_12 h_13 h_14 h_15 h_16 h_17 j_18 T_19 h_21 h_22 h_23 h_24; rotate_left
  revert i_0 T_1 h_3 h_4 h_5 h_6; rotate_left
  case g0 => exact ⟨by omega, by omega, fun r _ => rfl⟩
  case g1 => intro i T h0 h1 h2 h3; exact ⟨rfl, rfl, by omega, by omega, openV_start h2⟩
  case g2 => intros; subst_vars; exact get_map (by omega)
  case g3 => intro i T h0 h1 h2 h3 j U v c k0 k1 k2 k3 k4 k5; have := openV_len h0 h3 k4 (r := j.toNat) (by omega) (by omega); simp only [List.length_map, List.length_cons, List.length_nil, Go.maxLen]; omega
  case g4 => intro i T h0 h1 h2 h3 j U v c k0 k1 k2 k3 k4 k5; have := openV_len h0 h3 k4 (r := j.toNat) (by omega) (by omega); simp only [List.length_map, List.length_cons, List.length_nil]; omega
  case g5 => intro i T h0 h1 h2 h3 j U v c k0 k1 k2 k3 k4 k5; subst k0 k1; exact ⟨rfl, rfl, by omega, by omega, openV_next k2 (by omega) k4⟩
  case g6 => intro i T h0 h1 h2 h3 j U v c k0 k1 k2 k3 k4 k5; exact ⟨by omega, by omega, openC_start k3 k5 k4⟩
  case g7 => intro i T h0 h1 h2 h3 j U v c k0 k1 k2 k3 k4 k5 l W m0 m1 m2 m3 m4; subst k0 k1; have := openC_len h0 h3 m0 m3 m2 (r := ((ps[i.toNat]!).cloud[l.toNat]!).rep.toNat) (by omega); simp only [List.length_map, List.length_cons, List.length_nil, Go.maxLen]; omega
  case g8 => intro i T h0 h1 h2 h3 j U v c k0 k1 k2 k3 k4 k5 l W m0 m1 m2 m3 m4; subst k0 k1; have := openC_len h0 h3 m0 m3 m2 (r := ((ps[i.toNat]!).cloud[l.toNat]!).rep.toNat) (by omega); simp only [List.length_map, List.length_cons, List.length_nil]; omega
  case g9 => intro i T h0 h1 h2 h3 j U v c k0 k1 k2 k3 k4 k5 l W m0 m1 m2 m3 m4; subst k0 k1; have := openC_len h0 h3 m0 m3 m2 (r := 0) (by omega); omega
  case g10 => intro i T h0 h1 h2 h3 j U v c k0 k1 k2 k3 k4 k5 l W m0 m1 m2 m3 m4; subst k0 k1; omega
  case g11 => intro i T h0 h1 h2 h3 j U v c k0 k1 k2 k3 k4 k5 l W m0 m1 m2 m3 m4; subst k0 k1; exact ⟨by omega, by omega, openC_in m0 m3 m4 m2⟩
  case g12 => intro i T h0 h1 h2 h3 j U v c k0 k1 k2 k3 k4 k5 l W m0 m1 m2 m3 m4; subst k0 k1; have := openC_len h0 h3 m0 m3 m2 (r := 0) (by omega); omega
  case g13 => intro i T h0 h1 h2 h3 j U v c k0 k1 k2 k3 k4 k5 l W m0 m1 m2 m3 m4; subst k0 k1; omega
  case g14 => intro i T h0 h1 h2 h3 j U v c k0 k1 k2 k3 k4 k5 l W m0 m1 m2 m3 m4; subst k0 k1; exact ⟨by omega, by omega, openC_out m0 m3 m4 m2⟩
  case g15 => intro i T h0 h1 h2 h3 j U v c k0 k1 k2 k3 k4 k5 l W m0 m1 m2 m3; subst k0 k1; exact ⟨by omega, by omega, open_next h0 h3 m3 m2⟩
  case g16 =>
    intro i T h0 h1 h2 h3
    unfold tabC
    refine List.map_congr_left fun r hr => ?_
    rw [h2 r (by simpa using hr), List.take_of_length_le (by omega)]
end Go.Proofs.Ytjngmlkaijpbgaa
namespace Go.Proofs.Ytjngmlkaijpbgaa
open Go.E
set_option maxRecDepth 100000
set_option maxHeartbeats 4000000
def normP (p : Past) : Past := tabP (openT [p])
theorem tot_one (p : Past) : totP [p] = p.cloud.length + 1 := by simp [totP]
theorem con84 (p : Past) (hb : p.cloud.length * 16 ≤ 140737488350000) : Con Try.prog 84 [.agg (c36 p)] (.agg (c36 (normP p))) :=
  by
  have h1 := tot_one p
  have h2 := fun r => openT_len r [p]
  refine st_con tab_ok (by kernel_rfl) [.cell 2 36] 7 Go.Proofs.Try.func84 (by kernel_rfl) (by kernel_rfl) ?_
  intro e0 cx
  refine sq ?_
  refine rg (A := True) cx [] [1, 2] [1, 2] trivial ?_
  refine sn ?_
  refine sq ?_
  refine rg (A := _ ∧ _) cx [(2, { val := some (.ptr ((106 : Nat)) (0) (0) (0)), row := (tabC c108 (16 : Nat) (openT [p])) }), (3, { val := some (.agg [.sl (List.map c3 (tabP (openT [p])).vec), .sl (List.map c81 (tabP (openT [p])).cloud)]) })] [2] [2] ⟨(con117 ([p]) ?g0), (con81 (openT [p]) ?g1)⟩ ?_; rotate_left 2
  refine sn ?_
  refine st_ret (by kernel_rfl) ?_
  refine q_ret (r := .agg [.sl (List.map c3 (tabP (openT [p])).vec), .sl (List.map c81 (tabP (openT [p])).cloud)]) (obl := []) (by kernel_rfl) trivial (AVle.eq (show AV.agg [AV.sl (List.map c3 (tabP (openT [p])).vec), AV.sl (List.map c81 (tabP (openT [p])).cloud)] = AV.agg (c36 (normP p)) from ?g2)); rotate_left 1
  all_goals
    ( intros <;> first
    | omega
    | exact rfl
    | (have := h2 ‹Nat›; omega))
end Go.Proofs.Ytjngmlkaijpbgaa
namespace Go.Proofs.Ytjngmlkaijpbgaa
open Go.E
set_option maxRecDepth 100000
set_option maxHeartbeats 4000000
def invE {α : Type} [Inhabited α] (a b : List α) (i : Int) : Prop := 0 ≤ i ∧ i ≤ a.length ∧ a.length = b.length ∧ ∀ j : Nat, (j : Int) < i → a[j]! = b[j]!
def decE {α : Type} (a b : List α) (i : Int) : Nat := (a.length - i).toNat
theorem eq_of_all {α : Type} [Inhabited α] {a b : List α} (hl : a.length = b.length) (h : ∀ j : Nat, j < a.length → a[j]! = b[j]!) : a = b := by
  apply List.ext_getElem hl
  intro j h1 h2
  have := h j h1
  rwa [getElem!_pos a j h1, getElem!_pos b j h2] at this
theorem con85 (a b : List Int) : Con Try.prog 85 [.sl (a.map c3), .sl (b.map c3)] (.b (decide (a = b))) :=
  by
  refine con_lens 0 (c3) (a) (by kernel_rfl) Go.Proofs.Try.func85 (by kernel_rfl) fun hl_0 => ?_
  refine con_lens 1 (c3) (b) (by kernel_rfl) Go.Proofs.Try.func85 (by kernel_rfl) fun hl_1 => ?_
  refine st_con tab_ok (by kernel_rfl) [.tmp 4] 26 Go.Proofs.Try.func85 (by kernel_rfl) (by kernel_rfl) ?_
  intro e0 cx
  refine sq ?_
  refine rg (A := True) cx [] [0, 1] [] trivial ?_
  refine sn ?_
  refine sq ?_
  refine sq ?_
  refine rg (A := _ ∧ _ ∧ (AV.b ((↑a.length : Int) != (↑b.length : Int)) = AV.b (decide ¬(↑a.length : Int) = (↑b.length : Int)))) cx [(1, { tell := some (.i .i64 ((↑a.length : Int))) }), (3, { tell := some (.i .i64 ((↑b.length : Int))) }), (4, { tell := some (.b (decide ¬(↑a.length : Int) = (↑b.length : Int))) })] [0, 1, 10] [] ⟨(told_len c3 a), (told_len c3 b), (told_neq)⟩ ?_
  refine sn ?_
  refine st_dec (¬(↑a.length : Int) = (↑b.length : Int)) (by kernel_rfl) (by kernel_rfl) (fun h_0 => ?_) (fun h_0 => ?_)
  refine sq ?_
  refine rg (A := True) cx [] [4] [] trivial ?_
  refine sn ?_
  refine st_ret (by kernel_rfl) ?_
  refine q_seq_ret ?_
  refine q_ret (r := .b (false)) (obl := []) (by kernel_rfl) trivial (AVle.eq (show AV.b false = AV.b (decide (a = b)) from ?g0)); rotate_left 1
  refine st_skip (by kernel_rfl) ?_
  refine sn ?_
  refine sq ?_
  refine sq ?_
  refine rg (A := _) cx [(1, { tell := some (.i .i64 ((↑a.length : Int))) })] [0, 1, 12, 13] [] (told_len c3 a) ?_
  refine sn ?_
  refine st_block 0 (by kernel_rfl) ?_
  refine st_loop (X := Int) (fun x => ⟨[(0, .sl (List.map c3 a)), (1, .sl (List.map c3 b)), (12, .i .i64 ((↑a.length : Int))), (13, .i .i64 (x))], []⟩) (fun x ↦ decE a b x) (fun x ↦ invE a b x) [0, 1, 12, 13] [] ((0 : Int)) (by kernel_rfl) (by kernel_rfl) (show invE a b (0 : Int) from ?g1) ?_; rotate_left 1
  intro i_1 h_2
  obtain ⟨h_3, h_4, h_5, h_6⟩ : (0 : Int) ≤ i_1 ∧ i_1 ≤ (↑a.length : Int) ∧ a.length = b.length ∧ ∀ (j : Nat), (↑j : Int) < i_1 → a[j]! = b[j]! := h_2
  refine sq ?_
  refine rg (A := (AV.b (decide (i_1 < (↑a.length : Int))) = AV.b (decide (i_1 < (↑a.length : Int))))) cx [(0, { tell := some (.b (decide (i_1 < (↑a.length : Int)))) })] [0, 1, 12, 13, 14] [] (by kernel_rfl) ?_
  refine sn ?_
  refine sq ?_
  refine st_dec (i_1 < (↑a.length : Int)) (by kernel_rfl) (by kernel_rfl) (fun h_7 => ?_) (fun h_7 => ?_)
  refine st_skip (by kernel_rfl) ?_
  refine sn ?_
  refine sq ?_
  refine st_block 1 (by kernel_rfl) ?_
  refine sq ?_
  refine rg (A := True) cx [] [0, 1, 12, 13, 5] [] trivial ?_
  refine sn ?_
  refine sq ?_
  refine ra (A := ((0 : Int) ≤ i_1) ∧ ((List.map c3 a)[i_1.toNat]? = some (c3 a[i_1.toNat]!)) ∧ ((c3 a[i_1.toNat]!).length = (1 : Nat)) ∧ ((0 : Int) ≤ i_1) ∧ ((List.map c3 b)[i_1.toNat]? = some (c3 b[i_1.toNat]!)) ∧ ((c3 b[i_1.toNat]!).length = (1 : Nat)) ∧ (AV.b (a[i_1.toNat]! != b[i_1.toNat]!) = AV.b (decide ¬a[i_1.toNat]! = b[i_1.toNat]!))) cx [(2, { row := (c3 a[i_1.toNat]!) }), (6, { row := (c3 b[i_1.toNat]!) }), (8, { tell := some (.b (decide ¬a[i_1.toNat]! = b[i_1.toNat]!)) })] [0, 1, 12, 13, 24] [] ⟨(by (with_reducible assumption)), (by (with_reducible refine get_map ?_; omega)), (by kernel_rfl), (by (with_reducible assumption)), (by (with_reducible refine get_map ?_; omega)), (by kernel_rfl), (told_neq)⟩ ?_
  refine sn ?_
  refine st_dec (¬a[i_1.toNat]! = b[i_1.toNat]!) (by kernel_rfl) (by kernel_rfl) (fun h_8 => ?_) (fun h_8 => ?_)
  refine sq ?_
  refine rg (A := True) cx [] [4] [] trivial ?_
  refine sn ?_
  refine st_ret (by kernel_rfl) ?_
  refine q_blk_ret ?_
  refine q_seq_ret ?_
  refine q_seq_ret ?_
  refine q_blk_ret ?_
  refine q_seq_ret ?_
  refine q_ret (r := .b (false)) (obl := []) (by kernel_rfl) trivial (AVle.eq (show AV.b false = AV.b (decide (a = b)) from ?g2)); rotate_left 1
  refine st_skip (by kernel_rfl) ?_
  refine q_blk_normal ?_
  refine sn ?_
  refine rg (A := (AV.i IntKind.i64 (IntKind.i64.wrap (i_1 + (1 : Int))) = AV.i IntKind.i64 (i_1 + (1 : Int)))) cx [(0, { tell := some (.i .i64 (i_1 + (1 : Int))) })] [0, 1, 12, 13] [] (told_i64 (by omega) (by omega)) ?_
  refine sn ?_
  refine loop_next (i_1 + (1 : Int)) (by kernel_rfl) (show ((↑a.length : Int) - (i_1 + (1 : Int))).toNat < ((↑a.length : Int) - i_1).toNat from (by omega)) (show invE a b (i_1 + (1 : Int)) from ?g3); rotate_left 1
  refine st_exit 0 (by kernel_rfl) ?_
  refine q_seq_exit ?_
  refine q_seq_exit ?_
  refine q_blk_hit ?_
  refine sn ?_
  refine sq ?_
  refine rg (A := True) cx [] [4] [] trivial ?_
  refine sn ?_
  refine st_ret (by kernel_rfl) ?_
  refine q_ret (r := .b (true)) (obl := []) (by kernel_rfl) trivial (AVle.eq (show AV.b true = AV.b (decide (a = b)) from ?g4)); rotate_left 1
  revert h_0; rotate_left
  revert h_0; rotate_left
  revert h_0 i_1 h_3 h_4 h_5 h_6 h_7 h_8; rotate_left
  revert h_0 i_1 h_3 h_4 h_5 h_6 h_7 h_8; rotate_left
  revert h_0 i_1 h_3 h_4 h_5 h_6 h_7; rotate_left
  case g0 => exact (fun h => by rw [decide_eq_false (fun k => h (by rw [k]))])
  case g1 => exact (fun h => ⟨by omega, by omega, by omega, fun j hj => by omega⟩)
  case g2 => exact (fun h i h0 h1 h2 h3 h4 h5 => by rw [decide_eq_false (fun k => h5 (by rw [k]))])
  case g3 => exact (fun h i h0 h1 h2 h3 h4 h5 => ⟨by omega, by omega, h2, fun j hj => by
      by_cases e : j = i.toNat
      · rw [e]; exact Classical.not_not.1 h5
      · exact h3 j (by omega)⟩)
  case g4 => exact (fun h i h0 h1 h2 h3 h4 => by rw [decide_eq_true (eq_of_all h2 fun j hj => h3 j (by omega))])
theorem con86 (a b : List Span) : Con Try.prog 86 [.sl (a.map c81), .sl (b.map c81)] (.b (decide (a = b))) :=
  by
  refine con_lens 0 (c81) (a) (by kernel_rfl) Go.Proofs.Try.func86 (by kernel_rfl) fun hl_0 => ?_
  refine con_lens 1 (c81) (b) (by kernel_rfl) Go.Proofs.Try.func86 (by kernel_rfl) fun hl_1 => ?_
  refine st_con tab_ok (by kernel_rfl) [.tmp 4] 26 Go.Proofs.Try.func86 (by kernel_rfl) (by kernel_rfl) ?_
  intro e0 cx
  refine sq ?_
  refine rg (A := True) cx [] [0, 1] [] trivial ?_
  refine sn ?_
  refine sq ?_
  refine sq ?_
  refine rg (A := _ ∧ _ ∧ (AV.b ((↑a.length : Int) != (↑b.length : Int)) = AV.b (decide ¬(↑a.length : Int) = (↑b.length : Int)))) cx [(1, { tell := some (.i .i64 ((↑a.length : Int))) }), (3, { tell := some (.i .i64 ((↑b.length : Int))) }), (4, { tell := some (.b (decide ¬(↑a.length : Int) = (↑b.length : Int))) })] [0, 1, 10] [] ⟨(told_len c81 a), (told_len c81 b), (told_neq)⟩ ?_
  refine sn ?_
  refine st_dec (¬(↑a.length : Int) = (↑b.length : Int)) (by kernel_rfl) (by kernel_rfl) (fun h_0 => ?_) (fun h_0 => ?_)
  refine sq ?_
  refine rg (A := True) cx [] [4] [] trivial ?_
  refine sn ?_
  refine st_ret (by kernel_rfl) ?_
  refine q_seq_ret ?_
  refine q_ret (r := .b (false)) (obl := []) (by kernel_rfl) trivial (AVle.eq (show AV.b false = AV.b (decide (a = b)) from ?g0)); rotate_left 1
  refine st_skip (by kernel_rfl) ?_
  refine sn ?_
  refine sq ?_
  refine sq ?_
  refine rg (A := _) cx [(1, { tell := some (.i .i64 ((↑a.length : Int))) })] [0, 1, 12, 13] [] (told_len c81 a) ?_
  refine sn ?_
  refine st_block 0 (by kernel_rfl) ?_
  refine st_loop (X := Int) (fun x => ⟨[(0, .sl (List.map c81 a)), (1, .sl (List.map c81 b)), (12, .i .i64 ((↑a.length : Int))), (13, .i .i64 (x))], []⟩) (fun x ↦ decE a b x) (fun x ↦ invE a b x) [0, 1, 12, 13] [] ((0 : Int)) (by kernel_rfl) (by kernel_rfl) (show invE a b (0 : Int) from ?g1) ?_; rotate_left 1
  intro i_1 h_2
  obtain ⟨h_3, h_4, h_5, h_6⟩ : (0 : Int) ≤ i_1 ∧ i_1 ≤ (↑a.length : Int) ∧ a.length = b.length ∧ ∀ (j : Nat), (↑j : Int) < i_1 → a[j]! = b[j]! := h_2
  refine sq ?_
  refine rg (A := (AV.b (decide (i_1 < (↑a.length : Int))) = AV.b (decide (i_1 < (↑a.length : Int))))) cx [(0, { tell := some (.b (decide (i_1 < (↑a.length : Int)))) })] [0, 1, 12, 13, 14] [] (by kernel_rfl) ?_
  refine sn ?_
  refine sq ?_
  refine st_dec (i_1 < (↑a.length : Int)) (by kernel_rfl) (by kernel_rfl) (fun h_7 => ?_) (fun h_7 => ?_)
  refine st_skip (by kernel_rfl) ?_
  refine sn ?_
  refine sq ?_
  refine st_block 1 (by kernel_rfl) ?_
  refine sq ?_
  refine rg (A := True) cx [] [0, 1, 12, 13, 5] [] trivial ?_
  refine sn ?_
  refine sq ?_
  refine ra (A := ((0 : Int) ≤ i_1) ∧ ((List.map c81 a)[i_1.toNat]? = some (c81 a[i_1.toNat]!)) ∧ ((c81 a[i_1.toNat]!).length = (3 : Nat)) ∧ ((3 : Nat) ≤ [AV.i IntKind.i64 a[i_1.toNat]!.rep, AV.i IntKind.i64 a[i_1.toNat]!.lo, AV.i IntKind.i64 a[i_1.toNat]!.hi].length) ∧ ((0 : Int) ≤ i_1) ∧ ((List.map c81 b)[i_1.toNat]? = some (c81 b[i_1.toNat]!)) ∧ ((c81 b[i_1.toNat]!).length = (3 : Nat)) ∧ ((3 : Nat) ≤ [AV.i IntKind.i64 b[i_1.toNat]!.rep, AV.i IntKind.i64 b[i_1.toNat]!.lo, AV.i IntKind.i64 b[i_1.toNat]!.hi].length) ∧ (AggEq Try.prog (81 : Nat) [AV.i IntKind.i64 a[i_1.toNat]!.rep, AV.i IntKind.i64 a[i_1.toNat]!.lo, AV.i IntKind.i64 a[i_1.toNat]!.hi] [AV.i IntKind.i64 b[i_1.toNat]!.rep, AV.i IntKind.i64 b[i_1.toNat]!.lo, AV.i IntKind.i64 b[i_1.toNat]!.hi] !decide ¬a[i_1.toNat]! = b[i_1.toNat]!)) cx [(2, { row := (c81 a[i_1.toNat]!) }), (6, { row := (c81 b[i_1.toNat]!) }), (8, { val := some (.b (decide ¬a[i_1.toNat]! = b[i_1.toNat]!)) })] [0, 1, 12, 13, 24] [] ⟨(by (with_reducible assumption)), (by (with_reducible refine get_map ?_; omega)), (by kernel_rfl), (by (simp only [List.length_append, List.length_cons, List.length_nil]; omega)), (by (with_reducible assumption)), (by (with_reducible refine get_map ?_; omega)), (by kernel_rfl), (by (simp only [List.length_append, List.length_cons, List.length_nil]; omega)), (aggNe_dec (eq81 a[i_1.toNat]! b[i_1.toNat]!))⟩ ?_
  refine sn ?_
  refine st_dec (¬a[i_1.toNat]! = b[i_1.toNat]!) (by kernel_rfl) (by kernel_rfl) (fun h_8 => ?_) (fun h_8 => ?_)
  refine sq ?_
  refine rg (A := True) cx [] [4] [] trivial ?_
  refine sn ?_
  refine st_ret (by kernel_rfl) ?_
  refine q_blk_ret ?_
  refine q_seq_ret ?_
  refine q_seq_ret ?_
  refine q_blk_ret ?_
  refine q_seq_ret ?_
  refine q_ret (r := .b (false)) (obl := []) (by kernel_rfl) trivial (AVle.eq (show AV.b false = AV.b (decide (a = b)) from ?g2)); rotate_left 1
  refine st_skip (by kernel_rfl) ?_
  refine q_blk_normal ?_
  refine sn ?_
  refine rg (A := (AV.i IntKind.i64 (IntKind.i64.wrap (i_1 + (1 : Int))) = AV.i IntKind.i64 (i_1 + (1 : Int)))) cx [(0, { tell := some (.i .i64 (i_1 + (1 : Int))) })] [0, 1, 12, 13] [] (told_i64 (by omega) (by omega)) ?_
  refine sn ?_
  refine loop_next (i_1 + (1 : Int)) (by kernel_rfl) (show ((↑a.length : Int) - (i_1 + (1 : Int))).toNat < ((↑a.length : Int) - i_1).toNat from (by omega)) (show invE a b (i_1 + (1 : Int)) from ?g3); rotate_left 1
  refine st_exit 0 (by kernel_rfl) ?_
  refine q_seq_exit ?_
  refine q_seq_exit ?_
  refine q_blk_hit ?_
  refine sn ?_
  refine sq ?_
  refine rg (A := True) cx [] [4] [] trivial ?_
  refine sn ?_
  refine st_ret (by kernel_rfl) ?_
  refine q_ret (r := .b (true)) (obl := []) (by kernel_rfl) trivial (AVle.eq (show AV.b true = AV.b (decide (a = b)) from ?g4)); rotate_left 1
  revert h_0; rotate_left
  revert h_0; rotate_left
  revert h_0 i_1 h_3 h_4 h_5 h_6 h_7 h_8; rotate_left
  revert h_0 i_1 h_3 h_4 h_5 h_6 h_7 h_8; rotate_left
  revert h_0 i_1 h_3 h_4 h_5 h_6 h_7; rotate_left
  case g0 => exact (fun h => by rw [decide_eq_false (fun k => h (by rw [k]))])
  case g1 => exact (fun h => ⟨by omega, by omega, by omega, fun j hj => by omega⟩)
  case g2 => exact (fun h i h0 h1 h2 h3 h4 h5 => by rw [decide_eq_false (fun k => h5 (by rw [k]))])
  case g3 => exact (fun h i h0 h1 h2 h3 h4 h5 => ⟨by omega, by omega, h2, fun j hj => by
      by_cases e : j = i.toNat
      · rw [e]; exact Classical.not_not.1 h5
      · exact h3 j (by omega)⟩)
  case g4 => exact (fun h i h0 h1 h2 h3 h4 => by rw [decide_eq_true (eq_of_all h2 fun j hj => h3 j (by omega))])
theorem con66 (p : Past) (hb : p.cloud.length * 16 ≤ 140737488350000) : Con Try.prog 66 [.agg (c36 p)] (.b (decide (p = normP p))) :=
  by
  refine st_con tab_ok (by kernel_rfl) [.tmp 2] 18 Go.Proofs.Try.func66 (by kernel_rfl) (by kernel_rfl) ?_
  intro e0 cx
  refine sq ?_
  refine rg (A := True) cx [] [1] [1] trivial ?_
  refine sn ?_
  refine sq ?_
  refine rg (A := _) cx [(1, { val := some (.agg [.sl (List.map c3 (normP p).vec), .sl (List.map c81 (normP p).cloud)]) })] [1, 3] [1, 3] (con84 (p) (by (with_reducible assumption))) ?_
  refine sn ?_
  refine sq ?_
  refine st_join (σ' := ⟨[(2, .b (decide (p.vec = (normP p).vec ∧ p.cloud = (normP p).cloud)))], []⟩) ?_ ?_
  refine st_split (p.vec = (normP p).vec) (fun h_1 => ?_) (fun h_1 => ?_)
  refine rg (A := _ ∧ _ ∧ _ ∧ (AV.b (decide (p.cloud = (normP p).cloud)) = AV.b (decide (p.vec = (normP p).vec ∧ p.cloud = (normP p).cloud)))) cx [(4, { val := some (.b (decide (p.vec = (normP p).vec))), tell := some (.b (true)) }), (10, { val := some (.b (decide (p.cloud = (normP p).cloud))) }), (12, { tell := some (.b (decide (p.vec = (normP p).vec ∧ p.cloud = (normP p).cloud))) })] [2] [] ⟨(told_true h_1), (con85 (p.vec) ((normP p).vec)), (con86 (p.cloud) ((normP p).cloud)), (by simp only [eq_true h_1, told_simp1, told_simp2, and_true, true_and, and_false, false_and, or_true, true_or, or_false, false_or, not_true_eq_false, not_false_eq_true, decide_true, decide_false, Bool.decide_eq_true])⟩ ?_
  exact ⟨rfl, by kernel_rfl⟩
  refine rg (A := _ ∧ _ ∧ (AV.b false = AV.b (decide (p.vec = (normP p).vec ∧ p.cloud = (normP p).cloud)))) cx [(4, { val := some (.b (decide (p.vec = (normP p).vec))), tell := some (.b (false)) }), (12, { tell := some (.b (decide (p.vec = (normP p).vec ∧ p.cloud = (normP p).cloud))) })] [2] [] ⟨(told_false h_1), (con85 (p.vec) ((normP p).vec)), (by simp only [eq_false h_1, told_simp1, told_simp2, and_true, true_and, and_false, false_and, or_true, true_or, or_false, false_or, not_true_eq_false, not_false_eq_true, decide_true, decide_false, Bool.decide_eq_true])⟩ ?_
  exact ⟨rfl, by kernel_rfl⟩
  refine sn ?_
  refine st_ret (by kernel_rfl) ?_
  refine q_ret (r := .b (decide (p.vec = (normP p).vec ∧ p.cloud = (normP p).cloud))) (obl := []) (by kernel_rfl) trivial (AVle.eq (show AV.b (decide (p.vec = (normP p).vec ∧ p.cloud = (normP p).cloud)) = AV.b (decide (p = normP p)) from ?g0)); rotate_left 1
  case' g0 => refine (by
    congr 1
    refine decide_eq_decide.2 ?_
    generalize normP p = q
    cases p; cases q; simp)
end Go.Proofs.Ytjngmlkaijpbgaa
namespace Go.Proofs.Ytjngmlkaijpbgaa
open Go.E
set_option maxRecDepth 100000
set_option maxHeartbeats 4000000
def hasS (s : Span) (d : Dot) : Bool := decide (s.rep = d.rep ∧ s.lo ≤ d.num ∧ d.num ≤ s.hi)
def idxS (c : List Span) (d : Dot) : Int := if c.any (fun s => hasS s d) = true then (c.findIdx (fun s => hasS s d) : Int) else -1
def invI (c : List Span) (d : Dot) (i : Int) : Prop := 0 ≤ i ∧ i ≤ c.length ∧ ∀ j : Nat, (j : Int) < i → hasS c[j]! d = false
def decI (c : List Span) (d : Dot) (i : Int) : Nat := (c.length - i).toNat
def hasP (p : Past) (d : Dot) : Bool := dotB d && (decide (d.rep < p.vec.length ∧ d.num ≤ p.vec[d.rep.toNat]!) || p.cloud.any fun s => hasS s d)
theorem idx_at {c : List Span} {d : Dot} : ∀ {i : Nat}, i < c.length → hasS c[i]! d = true → (∀ j : Nat, j < i → hasS c[j]! d = false) → idxS c d = i := by
  intro i hi h hn
  have hany : c.any (fun s => hasS s d) = true := List.any_eq_true.2 ⟨c[i]!, bang_in hi, h⟩
  unfold idxS
  rw [if_pos hany]
  have : c.findIdx (fun s => hasS s d) = i := by
    rw [List.findIdx_eq hi]
    refine ⟨by rwa [getElem!_pos c i hi] at h, fun j hj => ?_⟩
    have := hn j hj
    rwa [getElem!_pos c j (by omega)] at this
  rw [this]
theorem idx_no {c : List Span} {d : Dot} (h : ∀ j : Nat, j < c.length → hasS c[j]! d = false) : idxS c d = -1 := by
  unfold idxS
  rw [if_neg]
  intro k
  obtain ⟨x, hx, hk⟩ := List.any_eq_true.1 k
  obtain ⟨j, hj, rfl⟩ := List.mem_iff_getElem.1 hx
  have := h j hj
  rw [getElem!_pos c j hj] at this
  rw [this] at hk
  cases hk
theorem idx_any (c : List Span) (d : Dot) : decide (0 ≤ idxS c d) = c.any fun s => hasS s d := by
  unfold idxS
  cases h : c.any fun s => hasS s d with
  | true => rw [if_pos rfl]; simp
  | false => rw [if_neg (by simp)]; rfl
theorem con88 (s : Span) (d : Dot) : Con Try.prog 88 [.agg (c81 s), .eptr (c26 d)] (.b (hasS s d)) :=
  by
  refine st_con tab_ok (by kernel_rfl) [.tmp 3] 23 Go.Proofs.Try.func88 (by kernel_rfl) (by kernel_rfl) ?_
  intro e0 cx
  refine sq ?_
  refine rg (A := True) cx [] [1, 2] [2] trivial ?_
  refine sn ?_
  refine sq ?_
  refine st_join (σ' := ⟨[(3, .b (decide (s.rep = d.rep ∧ s.lo ≤ d.num ∧ d.num ≤ s.hi)))], []⟩) ?_ ?_
  refine st_split (s.rep = d.rep) (fun h_1 => ?_) (fun h_1 => ?_)
  refine st_split (s.lo ≤ d.num) (fun h_2 => ?_) (fun h_2 => ?_)
  refine rg (A := _ ∧ _ ∧ (AV.b (decide (d.num ≤ s.hi)) = AV.b (decide (d.num ≤ s.hi))) ∧ (AV.b (decide (d.num ≤ s.hi)) = AV.b (decide (s.rep = d.rep ∧ s.lo ≤ d.num ∧ d.num ≤ s.hi)))) cx [(4, { tell := some (.b (true)) }), (10, { tell := some (.b (true)) }), (17, { tell := some (.b (decide (d.num ≤ s.hi))) }), (19, { tell := some (.b (decide (s.rep = d.rep ∧ s.lo ≤ d.num ∧ d.num ≤ s.hi))) })] [3] [] ⟨(told_true h_1), (told_true h_2), (by kernel_rfl), (by simp only [eq_true h_1, eq_true h_2, told_simp1, told_simp2, and_true, true_and, and_false, false_and, or_true, true_or, or_false, false_or, not_true_eq_false, not_false_eq_true, decide_true, decide_false, Bool.decide_eq_true])⟩ ?_
  exact ⟨rfl, by kernel_rfl⟩
  refine rg (A := _ ∧ _ ∧ (AV.b false = AV.b (decide (s.rep = d.rep ∧ s.lo ≤ d.num ∧ d.num ≤ s.hi)))) cx [(4, { tell := some (.b (true)) }), (10, { tell := some (.b (false)) }), (19, { tell := some (.b (decide (s.rep = d.rep ∧ s.lo ≤ d.num ∧ d.num ≤ s.hi))) })] [3] [] ⟨(told_true h_1), (told_false h_2), (by simp only [eq_true h_1, eq_false h_2, told_simp1, told_simp2, and_true, true_and, and_false, false_and, or_true, true_or, or_false, false_or, not_true_eq_false, not_false_eq_true, decide_true, decide_false, Bool.decide_eq_true])⟩ ?_
  exact ⟨rfl, by kernel_rfl⟩
  refine rg (A := _ ∧ (AV.b false = AV.b (decide (s.rep = d.rep ∧ s.lo ≤ d.num ∧ d.num ≤ s.hi)))) cx [(4, { tell := some (.b (false)) }), (19, { tell := some (.b (decide (s.rep = d.rep ∧ s.lo ≤ d.num ∧ d.num ≤ s.hi))) })] [3] [] ⟨(told_false h_1), (by simp only [eq_false h_1, told_simp1, told_simp2, and_true, true_and, and_false, false_and, or_true, true_or, or_false, false_or, not_true_eq_false, not_false_eq_true, decide_true, decide_false, Bool.decide_eq_true])⟩ ?_
  exact ⟨rfl, by kernel_rfl⟩
  refine sn ?_
  refine st_ret (by kernel_rfl) ?_
  refine q_ret (r := .b (decide (s.rep = d.rep ∧ s.lo ≤ d.num ∧ d.num ≤ s.hi))) (obl := []) (by kernel_rfl) trivial (AVle.eq (show AV.b (decide (s.rep = d.rep ∧ s.lo ≤ d.num ∧ d.num ≤ s.hi)) = AV.b (hasS s d) from ?g0)); rotate_left 1
  case g0 => exact rfl
theorem con118 (c : List Span) (d : Dot) : Con Try.prog 118 [.sl (c.map c81), .fn (.func 88) [] [.eptr (c26 d)]] (.i .i64 (idxS c d)) :=
  by
  refine con_lens 0 (c81) (c) (by kernel_rfl) Go.Proofs.Try.func118 (by kernel_rfl) fun hl_0 => ?_
  refine st_con tab_ok (by kernel_rfl) [.tmp 4] 19 Go.Proofs.Try.func118 (by kernel_rfl) (by kernel_rfl) ?_
  intro e0 cx
  refine sq ?_
  refine rg (A := True) cx [] [0, 1] [] trivial ?_
  refine sn ?_
  refine sq ?_
  refine sq ?_
  refine rg (A := _) cx [(1, { tell := some (.i .i64 ((↑c.length : Int))) })] [0, 1, 7, 8] [] (told_len c81 c) ?_
  refine sn ?_
  refine st_block 0 (by kernel_rfl) ?_
  refine st_loop (X := Int) (fun x => ⟨[(0, .sl (List.map c81 c)), (1, .fn (Fn.func (88 : FuncId)) [] [.eptr [.i .i64 (d.rep), .i .i64 (d.num)]]), (7, .i .i64 ((↑c.length : Int))), (8, .i .i64 (x))], []⟩) (fun x ↦ decI c d x) (fun x ↦ invI c d x) [0, 1, 7, 8] [] ((0 : Int)) (by kernel_rfl) (by kernel_rfl) (show invI c d (0 : Int) from ?g0) ?_; rotate_left 1
  intro i_0 h_1
  obtain ⟨h_2, h_3, h_4⟩ : (0 : Int) ≤ i_0 ∧ i_0 ≤ (↑c.length : Int) ∧ ∀ (j : Nat), (↑j : Int) < i_0 → hasS c[j]! d = false := h_1
  refine sq ?_
  refine rg (A := (AV.b (decide (i_0 < (↑c.length : Int))) = AV.b (decide (i_0 < (↑c.length : Int))))) cx [(0, { tell := some (.b (decide (i_0 < (↑c.length : Int)))) })] [0, 1, 7, 8, 9] [] (by kernel_rfl) ?_
  refine sn ?_
  refine sq ?_
  refine st_dec (i_0 < (↑c.length : Int)) (by kernel_rfl) (by kernel_rfl) (fun h_5 => ?_) (fun h_5 => ?_)
  refine st_skip (by kernel_rfl) ?_
  refine sn ?_
  refine sq ?_
  refine st_block 1 (by kernel_rfl) ?_
  refine sq ?_
  refine rg (A := True) cx [] [0, 1, 7, 8, 5] [] trivial ?_
  refine sn ?_
  refine sq ?_
  refine rg (A := ((0 : Int) ≤ i_0) ∧ ((List.map c81 c)[i_0.toNat]? = some (c81 c[i_0.toNat]!)) ∧ ((c81 c[i_0.toNat]!).length = (3 : Nat)) ∧ ((3 : Nat) ≤ [AV.i IntKind.i64 c[i_0.toNat]!.rep, AV.i IntKind.i64 c[i_0.toNat]!.lo, AV.i IntKind.i64 c[i_0.toNat]!.hi].length) ∧ _) cx [(3, { row := (c81 c[i_0.toNat]!) }), (5, { val := some (.b (hasS c[i_0.toNat]! d)) })] [0, 1, 7, 8, 5, 16] [] ⟨(by (with_reducible assumption)), (by (with_reducible refine get_map ?_; omega)), (by kernel_rfl), (by (simp only [List.length_append, List.length_cons, List.length_nil]; omega)), (con88 (c[i_0.toNat]!) (d))⟩ ?_
  refine sn ?_
  refine st_cond (hasS c[i_0.toNat]! d) (by kernel_rfl) (by kernel_rfl) (fun h_6 => ?_) (fun h_6 => ?_)
  refine sq ?_
  refine rg (A := True) cx [] [4] [] trivial ?_
  refine sn ?_
  refine st_ret (by kernel_rfl) ?_
  refine q_blk_ret ?_
  refine q_seq_ret ?_
  refine q_seq_ret ?_
  refine q_blk_ret ?_
  refine q_seq_ret ?_
  refine q_ret (r := .i .i64 (i_0)) (obl := []) (by kernel_rfl) trivial (AVle.eq (show AV.i IntKind.i64 i_0 = AV.i IntKind.i64 (idxS c d) from ?g1)); rotate_left 1
  refine st_skip (by kernel_rfl) ?_
  refine q_blk_normal ?_
  refine sn ?_
  refine rg (A := (AV.i IntKind.i64 (IntKind.i64.wrap (i_0 + (1 : Int))) = AV.i IntKind.i64 (i_0 + (1 : Int)))) cx [(0, { tell := some (.i .i64 (i_0 + (1 : Int))) })] [0, 1, 7, 8] [] (told_i64 (by omega) (by omega)) ?_
  refine sn ?_
  refine loop_next (i_0 + (1 : Int)) (by kernel_rfl) (show ((↑c.length : Int) - (i_0 + (1 : Int))).toNat < ((↑c.length : Int) - i_0).toNat from (by omega)) (show invI c d (i_0 + (1 : Int)) from ?g2); rotate_left 1
  refine st_exit 0 (by kernel_rfl) ?_
  refine q_seq_exit ?_
  refine q_seq_exit ?_
  refine q_blk_hit ?_
  refine sn ?_
  refine sq ?_
  refine rg (A := True) cx [] [4] [] trivial ?_
  refine sn ?_
  refine st_ret (by kernel_rfl) ?_
  refine q_ret (r := .i .i64 ((-1 : Int))) (obl := []) (by kernel_rfl) trivial (AVle.eq (show AV.i IntKind.i64 (-1 : Int) = AV.i IntKind.i64 (idxS c d) from ?g3)); rotate_left 1
  rotate_left
  revert i_0 h_2 h_3 h_4 h_5 h_6; rotate_left
  revert i_0 h_2 h_3 h_4 h_5 h_6; rotate_left
  revert i_0 h_2 h_3 h_4 h_5; rotate_left
  case g0 => exact ⟨by omega, by omega, fun j hj => by omega⟩
  case g1 => exact (fun i h0 h1 h2 h3 h4 => by rw [idx_at (i := i.toNat) (by omega) h4 (fun j hj => h2 j (by omega)), show ((i.toNat : Nat) : Int) = i by omega])
  case g2 => exact (fun i h0 h1 h2 h3 h4 => ⟨by omega, by omega, fun j hj => by
      by_cases e : j = i.toNat
      · rw [e]; exact h4
      · exact h2 j (by omega)⟩)
  case g3 => exact (fun i h0 h1 h2 h3 => by rw [idx_no fun j hj => h2 j (by omega)])
theorem con87 (c : List Span) (d : Dot) : Con Try.prog 87 [.sl (c.map c81), .fn (.func 88) [] [.eptr (c26 d)]] (.b (decide (0 ≤ idxS c d))) :=
  by
  refine con_lens 0 (c81) (c) (by kernel_rfl) Go.Proofs.Try.func87 (by kernel_rfl) fun hl_0 => ?_
  refine st_con tab_ok (by kernel_rfl) [.tmp 4] 9 Go.Proofs.Try.func87 (by kernel_rfl) (by kernel_rfl) ?_
  intro e0 cx
  refine sq ?_
  refine rg (A := True) cx [] [0, 1] [] trivial ?_
  refine sn ?_
  refine sq ?_
  refine rg (A := _ ∧ (AV.b (decide (idxS c d ≥ (0 : Int))) = AV.b (decide ((0 : Int) ≤ idxS c d)))) cx [(2, { val := some (.i .i64 (idxS c d)) }), (3, { tell := some (.b (decide ((0 : Int) ≤ idxS c d))) })] [4] [] ⟨(con118 (c) (d)), (by kernel_rfl)⟩ ?_
  refine sn ?_
  refine st_ret (by kernel_rfl) ?_
  exact q_ret (r := .b (decide ((0 : Int) ≤ idxS c d))) (obl := []) (by kernel_rfl) trivial (AVle.refl _)
theorem con68 (p : Past) (d : Dot) : Con Try.prog 68 [.agg (c36 p), .agg (c26 d)] (.b (hasP p d)) :=
  by
  refine st_con tab_ok (by kernel_rfl) [.tmp 4] 29 Go.Proofs.Try.func68 (by kernel_rfl) (by kernel_rfl) ?_
  intro e0 cx
  refine sq ?_
  refine rg (A := True) cx [] [2, 3] [2, 3] trivial ?_
  refine sn ?_
  refine sq ?_
  refine sq ?_
  refine rg (A := _ ∧ ((AV.b !dotB d) = AV.b (decide ¬dotB d = true))) cx [(1, { val := some (.b (dotB d)) }), (2, { tell := some (.b (decide ¬dotB d = true)) })] [2, 3, 7] [2, 3] ⟨(con80 (d)), (told_not)⟩ ?_
  refine sn ?_
  refine st_dec (¬dotB d = true) (by kernel_rfl) (by kernel_rfl) (fun h_0 => ?_) (fun h_0 => ?_)
  refine sq ?_
  refine rg (A := True) cx [] [4] [] trivial ?_
  refine sn ?_
  refine st_ret (by kernel_rfl) ?_
  refine q_seq_ret ?_
  refine q_ret (r := .b (false)) (obl := []) (by kernel_rfl) trivial (AVle.eq (show AV.b false = AV.b (hasP p d) from ?g0)); rotate_left 1
  refine st_skip (by kernel_rfl) ?_
  refine sn ?_
  refine sq ?_
  refine sq ?_
  refine st_join (σ' := ⟨[(2, .ptr (2) (0) (0) (0)), (3, .ptr (3) (0) (0) (0)), (24, .b (decide (d.rep < (↑p.vec.length : Int) ∧ d.num ≤ p.vec[d.rep.toNat]!)))], [(2, ⟨0, 36, .var [.sl (List.map c3 p.vec), .sl (List.map c81 p.cloud)]⟩), (3, ⟨0, 26, .var [.i .i64 (d.rep), .i .i64 (d.num)]⟩)]⟩) ?_ ?_
  refine st_split (d.rep < (↑p.vec.length : Int)) (fun h_2 => ?_) (fun h_2 => ?_)
  refine ra (A := _ ∧ _ ∧ ((0 : Int) ≤ d.rep) ∧ ((List.map c3 p.vec)[d.rep.toNat]? = some (c3 p.vec[d.rep.toNat]!)) ∧ ((c3 p.vec[d.rep.toNat]!).length = (1 : Nat)) ∧ (AV.b (decide (d.num ≤ p.vec[d.rep.toNat]!)) = AV.b (decide (d.num ≤ p.vec[d.rep.toNat]!))) ∧ (AV.b (decide (d.num ≤ p.vec[d.rep.toNat]!)) = AV.b (decide (d.rep < (↑p.vec.length : Int) ∧ d.num ≤ p.vec[d.rep.toNat]!)))) cx [(4, { tell := some (.i .i64 ((↑p.vec.length : Int))) }), (5, { tell := some (.b (true)) }), (13, { row := (c3 p.vec[d.rep.toNat]!) }), (15, { tell := some (.b (decide (d.num ≤ p.vec[d.rep.toNat]!))) }), (16, { tell := some (.b (decide (d.rep < (↑p.vec.length : Int) ∧ d.num ≤ p.vec[d.rep.toNat]!))) })] [2, 3, 24] [2, 3] ⟨(told_len c3 p.vec), (told_true h_2), ?g1, ?g2, (by kernel_rfl), (by kernel_rfl), (by simp only [eq_true h_2, told_simp1, told_simp2, and_true, true_and, and_false, false_and, or_true, true_or, or_false, false_or, not_true_eq_false, not_false_eq_true, decide_true, decide_false, Bool.decide_eq_true])⟩ ?_; rotate_left 2
  exact ⟨rfl, by kernel_rfl⟩
  refine ra (A := _ ∧ _ ∧ (AV.b false = AV.b (decide (d.rep < (↑p.vec.length : Int) ∧ d.num ≤ p.vec[d.rep.toNat]!)))) cx [(4, { tell := some (.i .i64 ((↑p.vec.length : Int))) }), (5, { tell := some (.b (false)) }), (16, { tell := some (.b (decide (d.rep < (↑p.vec.length : Int) ∧ d.num ≤ p.vec[d.rep.toNat]!))) })] [2, 3, 24] [2, 3] ⟨(told_len c3 p.vec), (told_false h_2), (by simp only [eq_false h_2, told_simp1, told_simp2, and_true, true_and, and_false, false_and, or_true, true_or, or_false, false_or, not_true_eq_false, not_false_eq_true, decide_true, decide_false, Bool.decide_eq_true])⟩ ?_
  exact ⟨rfl, by kernel_rfl⟩
  refine sn ?_
  refine st_dec (d.rep < (↑p.vec.length : Int) ∧ d.num ≤ p.vec[d.rep.toNat]!) (by kernel_rfl) (by kernel_rfl) (fun h_3 => ?_) (fun h_3 => ?_)
  refine sq ?_
  refine rg (A := True) cx [] [4] [] trivial ?_
  refine sn ?_
  refine st_ret (by kernel_rfl) ?_
  refine q_seq_ret ?_
  refine q_ret (r := .b (true)) (obl := []) (by kernel_rfl) trivial (AVle.eq (show AV.b true = AV.b (hasP p d) from ?g3)); rotate_left 1
  refine st_skip (by kernel_rfl) ?_
  refine sn ?_
  refine sq ?_
  refine rg (A := (Flat (AV.b (decide ((0 : Int) ≤ idxS p.cloud d)))) ∧ _) cx [(3, { val := some (.b (decide ((0 : Int) ≤ idxS p.cloud d))), flat := true })] [4] [] ⟨(by exact Flat.b _), (con87 (p.cloud) (d))⟩ ?_
  refine sn ?_
  refine st_ret (by kernel_rfl) ?_
  refine q_ret (r := .b (decide ((0 : Int) ≤ idxS p.cloud d))) (obl := []) (by kernel_rfl) trivial (AVle.eq (show AV.b (decide ((0 : Int) ≤ idxS p.cloud d)) = AV.b (hasP p d) from ?g4)); rotate_left 1
  revert h_0; rotate_left
  revert h_0 h_2; rotate_left
  revert h_0 h_2; rotate_left
  revert h_0 h_3; rotate_left
  revert h_0 h_3; rotate_left
  case g0 => intro h; unfold hasP; rw [Bool.eq_false_iff.2 h]; rfl
  case g1 => intro h h1; exact (dotB_in (Classical.not_not.1 h)).1
  case g2 => intro h h1; have := (dotB_in (Classical.not_not.1 h)).1; exact get_map (by omega)
  case g3 => intro h h1; unfold hasP; rw [Classical.not_not.1 h, decide_eq_true h1]; rfl
  case g4 => intro h h1; unfold hasP; rw [Classical.not_not.1 h, decide_eq_false h1, idx_any]; simp
end Go.Proofs.Ytjngmlkaijpbgaa
namespace Go.Proofs.Ytjngmlkaijpbgaa
open Go.E
set_option maxRecDepth 100000
set_option maxHeartbeats 4000000
def nrmT (T : Nat → List Run) (r : Nat) : List Run := nrm (T r)
theorem inR_cons (r : Run) (R : List Run) (n : Int) : inR (r :: R) n ↔ (r.lo ≤ n ∧ n ≤ r.hi) ∨ inR R n := by simp [inR]
theorem nrm_id {l : List Run} (h : sepR l) : nrm l = l := by
  refine sep_unique (nrm_sep l) h fun n => ?_
  rw [nrm_in]
  constructor
  · exact fun k => k.2.2
  · rintro ⟨r, hr, h1, h2⟩
    have := h.2 r hr
    exact ⟨by omega, by omega, r, hr, h1, h2⟩
theorem lead_nil : leadR [] = (0, []) := rfl
theorem nrm_nrm (l : List Run) : nrm (nrm l) = nrm l := nrm_id (nrm_sep l)
theorem tabP_nrm (T : Nat → List Run) : tabP (nrmT T) = tabP T := by
  have h1 : ∀ r, leadT (nrmT T) r = leadT T r := fun r => by unfold leadT nrmT; rw [nrm_nrm]
  have h2 : ∀ r, restT (nrmT T) r = restT T r := fun r => by unfold restT nrmT; rw [nrm_nrm]
  have h3 : ∀ n, szT (nrmT T) n = szT T n := fun n => by
    induction n with
    | zero => rfl
    | succ n ih => rw [szT, szT, h1, ih]
  have h4 : ∀ n, cloudT (nrmT T) n = cloudT T n := fun n => by
    induction n with
    | zero => rfl
    | succ n ih => rw [cloudT, cloudT, h2, ih]
  have h5 : vecT (nrmT T) 16 = vecT T 16 := by
    unfold vecT
    congr 1
    exact List.map_congr_left fun r _ => h1 r
  unfold tabP
  rw [h3, h4, h5]
theorem nrmT_sep (T : Nat → List Run) : ∀ r : Nat, r < 16 → sepR (nrmT T r) := fun r _ => nrm_sep _
theorem lead_in {l : List Run} (h : sepR l) {n : Int} (hn : 1 ≤ n) : inR l n ↔ n ≤ (leadR l).1 ∨ inR (leadR l).2 n := by
  cases l with
  | nil => rw [lead_nil]; simp only [inR]; constructor
           · rintro ⟨r, hr, _⟩; cases hr
           · rintro (k | ⟨r, hr, _⟩)
             · omega
             · cases hr
  | cons x l =>
    rw [inR_cons]
    unfold leadR
    by_cases hx : x.lo = 1
    · rw [if_neg (by simpa using hx)]
      show _ ↔ n ≤ x.hi ∨ inR l n
      constructor
      · rintro (k | k)
        · exact .inl k.2
        · exact .inr k
      · rintro (k | k)
        · exact .inl ⟨by omega, k⟩
        · exact .inr k
    · rw [if_pos (.inr (by simpa using hx))]
      show _ ↔ n ≤ 0 ∨ inR (x :: l) n
      rw [inR_cons]
      constructor
      · exact fun k => .inr k
      · rintro (k | k)
        · omega
        · exact k
theorem sz_spec (T : Nat → List Run) : ∀ n : Nat, 0 ≤ szT T n ∧ szT T n ≤ n ∧ ∀ r : Nat, r < n → szT T n ≤ r → ¬ 0 < leadT T r
  | 0 => ⟨by simp [szT], by simp [szT], fun r hr => by omega⟩
  | n + 1 => by
    obtain ⟨h1, h2, h3⟩ := sz_spec T n
    rw [szT]
    split
    · exact ⟨by omega, by omega, fun r hr k => by omega⟩
    · rename_i hn
      refine ⟨h1, by omega, fun r hr k => ?_⟩
      by_cases e : r = n
      · rw [e]; exact hn
      · exact h3 r (by omega) k
theorem cloud_mem (T : Nat → List Run) (s : Span) : ∀ n : Nat, s ∈ cloudT T n ↔ ∃ r : Nat, r < n ∧ s ∈ restT T r
  | 0 => by simp [cloudT]
  | n + 1 => by
    rw [cloudT, List.mem_append, cloud_mem T s n]
    constructor
    · rintro (⟨r, h1, h2⟩ | h)
      · exact ⟨r, by omega, h2⟩
      · exact ⟨n, by omega, h⟩
    · rintro ⟨r, h1, h2⟩
      by_cases e : r = n
      · exact .inr (e ▸ h2)
      · exact .inl ⟨r, by omega, h2⟩
theorem vec_at (T : Nat → List Run) {r : Nat} (h : (r : Int) < szT T 16) : (tabP T).vec[r]! = leadT T r ∧ r < (tabP T).vec.length := by
  have h2 := (sz_spec T 16).2.1
  have hl : (vecT T 16).length = 16 := by simp [vecT]
  have hr : r < ((vecT T 16).take (szT T 16).toNat).length := by rw [List.length_take, hl]; omega
  refine ⟨?_, hr⟩
  show ((vecT T 16).take (szT T 16).toNat)[r]! = _
  rw [getElem!_pos ((vecT T 16).take (szT T 16).toNat) r hr, List.getElem_take]
  unfold vecT
  rw [List.getElem_append_left (by simp; omega)]
  simp
theorem vec_len (T : Nat → List Run) : ((tabP T).vec.length : Int) = szT T 16 := by
  have h2 := sz_spec T 16
  show (((vecT T 16).take (szT T 16).toNat).length : Int) = _
  rw [List.length_take]
  simp [vecT]
  omega
/-- What is in a set in form: the dots whose number is in the replica's list. -/
theorem has_tab (T : Nat → List Run) (d : Dot) : hasP (tabP T) d = true ↔ dotB d = true ∧ inR (T d.rep.toNat) d.num := by
  unfold hasP
  rw [Bool.and_eq_true]
  refine and_congr_right fun hd => ?_
  have hb := dotB_in hd
  have e1 : inR (T d.rep.toNat) d.num ↔ inR (nrm (T d.rep.toNat)) d.num := by
    rw [nrm_in]
    exact ⟨fun k => ⟨by omega, by omega, k⟩, fun k => k.2.2⟩
  rw [e1, lead_in (nrm_sep _) (by omega), Bool.or_eq_true, decide_eq_true_eq]
  refine or_congr ?_ ?_
  · rw [vec_len]
    constructor
    · rintro ⟨h1, h2⟩
      have := (vec_at T (r := d.rep.toNat) (by omega)).1
      rw [this] at h2
      exact h2
    · intro k
      have k : d.num ≤ leadT T d.rep.toNat := k
      have h1 : d.rep < szT T 16 := by
        apply Classical.byContradiction
        intro hn
        have := (sz_spec T 16).2.2 d.rep.toNat (by omega) (by omega)
        omega
      refine ⟨h1, ?_⟩
      rw [(vec_at T (r := d.rep.toNat) (by omega)).1]
      exact k
  · rw [List.any_eq_true]
    unfold hasS
    constructor
    · rintro ⟨s, hs, h⟩
      rw [decide_eq_true_eq] at h
      obtain ⟨r, hr, hs⟩ := (cloud_mem T s 16).1 hs
      unfold restT at hs
      obtain ⟨x, hx, rfl⟩ := List.mem_map.1 hs
      simp only at h
      have : r = d.rep.toNat := by omega
      subst this
      exact ⟨x, hx, h.2.1, h.2.2⟩
    · rintro ⟨x, hx, h1, h2⟩
      refine ⟨⟨d.rep.toNat, x.lo, x.hi⟩, (cloud_mem T _ 16).2 ⟨d.rep.toNat, by omega, List.mem_map.2 ⟨x, hx, rfl⟩⟩, ?_⟩
      rw [decide_eq_true_eq]
      exact ⟨by show ((d.rep.toNat : Nat) : Int) = d.rep; omega, h1, h2⟩
theorem inR_app (a b : List Run) (n : Int) : inR (a ++ b) n ↔ inR a n ∨ inR b n := by
  unfold inR
  constructor
  · rintro ⟨y, hy, h⟩
    rcases List.mem_append.1 hy with hy | hy
    · exact .inl ⟨y, hy, h⟩
    · exact .inr ⟨y, hy, h⟩
  · rintro (⟨y, hy, h⟩ | ⟨y, hy, h⟩)
    · exact ⟨y, List.mem_append.2 (.inl hy), h⟩
    · exact ⟨y, List.mem_append.2 (.inr hy), h⟩
theorem vecR_in {p : Past} {d : Dot} (hd : dotB d = true) : inR (vecR p.vec d.rep.toNat) d.num ↔ (d.rep < p.vec.length ∧ d.num ≤ p.vec[d.rep.toNat]!) := by
  have hb := dotB_in hd
  unfold vecR inR
  split
  · simp only [List.mem_singleton, exists_eq_left]
    constructor
    · exact fun k => ⟨by omega, k.2⟩
    · exact fun k => ⟨by omega, k.2⟩
  · constructor
    · rintro ⟨r, hr, _⟩; cases hr
    · rintro ⟨h, _⟩; omega
theorem cloudR_in {p : Past} {d : Dot} (hd : dotB d = true) : inR (cloudR p.cloud d.rep.toNat) d.num ↔ (p.cloud.any fun s => hasS s d) = true := by
  have hb := dotB_in hd
  rw [List.any_eq_true]
  unfold inR cloudR hasS
  constructor
  · rintro ⟨x, hx, h1, h2⟩
    obtain ⟨s, hs, rfl⟩ := List.mem_map.1 hx
    obtain ⟨hs, hq⟩ := List.mem_filter.1 hs
    rw [decide_eq_true_eq] at hq
    exact ⟨s, hs, by rw [decide_eq_true_eq]; exact ⟨by omega, h1, h2⟩⟩
  · rintro ⟨s, hs, h⟩
    rw [decide_eq_true_eq] at h
    exact ⟨⟨s.lo, s.hi⟩, List.mem_map.2 ⟨s, List.mem_filter.2 ⟨hs, by rw [decide_eq_true_eq]; omega⟩, rfl⟩, h.2.1, h.2.2⟩
/-- What is in a set, by its lists. -/
theorem has_in (p : Past) (d : Dot) : hasP p d = true ↔ dotB d = true ∧ (inR (vecR p.vec d.rep.toNat) d.num ∨ inR (cloudR p.cloud d.rep.toNat) d.num) := by
  unfold hasP
  rw [Bool.and_eq_true]
  refine and_congr_right fun hd => ?_
  rw [vecR_in hd, cloudR_in hd, Bool.or_eq_true, decide_eq_true_eq]
/-- What is in any of the sets. -/
theorem has_open (ps : List Past) (d : Dot) : hasP (tabP (openT ps)) d = true ↔ ∃ p ∈ ps, hasP p d = true := by
  rw [has_tab]
  have e : inR (openT ps d.rep.toNat) d.num ↔ ∃ p ∈ ps, inR (vecR p.vec d.rep.toNat ++ cloudR p.cloud d.rep.toNat) d.num := by
    unfold inR openT
    constructor
    · rintro ⟨r, hr, h⟩
      obtain ⟨l, hl, hr⟩ := List.mem_flatten.1 hr
      obtain ⟨p, hp, rfl⟩ := List.mem_map.1 hl
      exact ⟨p, hp, r, hr, h⟩
    · rintro ⟨p, hp, r, hr, h⟩
      exact ⟨r, List.mem_flatten.2 ⟨_, List.mem_map.2 ⟨p, hp, rfl⟩, hr⟩, h⟩
  rw [e]
  constructor
  · rintro ⟨hd, p, hp, h⟩
    rw [inR_app] at h
    exact ⟨p, hp, (has_in p d).2 ⟨hd, h⟩⟩
  · rintro ⟨p, hp, h⟩
    have := (has_in p d).1 h
    exact ⟨this.1, p, hp, (inR_app _ _ _).2 this.2⟩
theorem has_norm (p : Past) (d : Dot) : hasP (normP p) d = hasP p d := by
  rw [Bool.eq_iff_iff]
  unfold normP
  rw [has_open]
  simp
theorem has_of (ds : List Dot) (d : Dot) : hasP (tabP (ofT ds)) d = true ↔ dotB d = true ∧ d ∈ ds := by
  rw [has_tab]
  refine and_congr_right fun hd => ?_
  have hb := dotB_in hd
  unfold inR ofT
  constructor
  · rintro ⟨x, hx, h1, h2⟩
    obtain ⟨y, hy, rfl⟩ := List.mem_map.1 hx
    obtain ⟨hy, hq⟩ := List.mem_filter.1 hy
    rw [Bool.and_eq_true, decide_eq_true_eq] at hq
    simp only at h1 h2
    have : y = d := by
      cases y; cases d
      simp only at *
      congr 1
      · omega
      · omega
    exact this ▸ hy
  · intro h
    exact ⟨⟨d.num, d.num⟩, List.mem_map.2 ⟨d, List.mem_filter.2 ⟨h, by rw [Bool.and_eq_true, decide_eq_true_eq]; exact ⟨hd, by omega⟩⟩, rfl⟩, Int.le_refl _, Int.le_refl _⟩
/-- Sets in form with the same dots are one. -/
theorem tab_ext {T U : Nat → List Run} (h : ∀ d, hasP (tabP T) d = true ↔ hasP (tabP U) d = true) : tabP T = tabP U := by
  rw [← tabP_nrm T, ← tabP_nrm U]
  refine tabP_congr fun r hr => ?_
  refine sep_unique (nrm_sep _) (nrm_sep _) fun n => ?_
  show inR (nrm _) n ↔ inR (nrm _) n
  rw [nrm_in, nrm_in]
  refine and_congr_right fun n0 => and_congr_right fun n1 => ?_
  have hd : dotB ⟨r, n⟩ = true := by unfold dotB; rw [decide_eq_true_eq]; simp only; omega
  have := h ⟨r, n⟩
  rw [has_tab, has_tab] at this
  simp only [hd, true_and] at this
  exact this
theorem norm_tab (T : Nat → List Run) : normP (tabP T) = tabP T := tab_ext fun d => by
  have := has_norm (tabP T) d
  unfold normP at this
  rw [this]
theorem norm_ext {p q : Past} (hp : p = normP p) (hq : q = normP q) (h : ∀ d, hasP p d = hasP q d) : p = q := by
  rw [hp, hq]
  refine tab_ext fun d => ?_
  have h1 := has_norm p d
  have h2 := has_norm q d
  unfold normP at h1 h2
  rw [h1, h2, h d]
theorem norm_norm (p : Past) : normP (normP p) = normP p := norm_tab _
theorem tabP_len (T : Nat → List Run) : (tabP T).cloud.length ≤ 8000000000 ∧ (tabP T).vec.length ≤ 16 := by
  have h1 := cloud_len T 16
  have h2 := vec_len T
  have h3 := (sz_spec T 16).2.1
  exact ⟨by show (cloudT T 16).length ≤ _; omega, by omega⟩
end Go.Proofs.Ytjngmlkaijpbgaa
namespace Go.Proofs.Ytjngmlkaijpbgaa
open Go.E
set_option maxRecDepth 100000
set_option maxHeartbeats 4000000
def dotsV (es : List Entry) : Past × Int := if okL es = true then (tabP (ofT (es.map fun e => e.dot)), 0) else (⟨[], []⟩, 1)
def sideV (es : List Entry) (p : Past) (t : Bool) : List Entry × Int := if okL es = true ∧ p = normP p then (es.filter (fun e => hasP p e.dot == t), 0) else ([], 1)
theorem dotsV_no {es : List Entry} (h : ¬ lstE es = 0) : dotsV es = (⟨[], []⟩, 1) := by unfold dotsV; rw [if_neg (lst_no h)]
theorem dotsV_ok {es : List Entry} (h : lstE es = 0) : dotsV es = (tabP (ofT (es.map fun e => e.dot)), 0) := by unfold dotsV; rw [if_pos (lst_ok h)]
theorem sideV_no {es : List Entry} {p : Past} {t : Bool} (h : ¬ lstE es = 0 ∨ ¬ p = normP p) : sideV es p t = ([], 1) := by
  unfold sideV
  rw [if_neg]
  rintro ⟨h1, h2⟩
  exact h.elim (fun k => lst_no k h1) (fun k => k h2)
theorem sideV_ok {es : List Entry} {p : Past} {t : Bool} (h : lstE es = 0) (h2 : p = normP p) : sideV es p t = (es.filter (fun e => hasP p e.dot == t), 0) := by unfold sideV; rw [if_pos ⟨lst_ok h, h2⟩]
def isDots (es : List Entry) (i : Int) (l : List Dot) : Prop := l.length = es.length ∧ l.take i.toNat = (es.take i.toNat).map fun e => e.dot
def invD (es : List Entry) (i : Int) (l : List Dot) : Prop := 0 ≤ i ∧ i ≤ es.length ∧ l.length = es.length ∧ isDots es i l
def decD (es : List Entry) (i : Int) (l : List Dot) : Nat := (es.length - i).toNat
theorem isDots_step {es : List Entry} {i : Int} {l : List Dot} (h0 : 0 ≤ i) (h : i < es.length) (hs : isDots es i l) : isDots es (i + 1) (l.set i.toNat es[i.toNat]!.dot) := by
  obtain ⟨h1, h2⟩ := hs
  refine ⟨by rw [List.length_set]; exact h1, ?_⟩
  rw [← take_step h0 h, List.map_append, ← h2, show (i + 1).toNat = i.toNat + 1 by omega, List.take_succ_eq_append_getElem (by rw [List.length_set]; omega)]
  simp [List.take_set_of_le]
theorem isDots_end {es : List Entry} {i : Int} {l : List Dot} (h : ¬ i < es.length) (hs : isDots es i l) : l = es.map fun e => e.dot := by
  obtain ⟨h1, h2⟩ := hs
  rwa [List.take_of_length_le (by omega), List.take_of_length_le (by omega)] at h2
def isSd (p : Past) (t : Bool) (es : List Entry) (i : Int) (l : List Entry) : Prop := l = (es.take i.toNat).filter (fun e => hasP p e.dot == t)
def invSd (p : Past) (t : Bool) (es : List Entry) (i : Int) (v : List Int) (c : List Span) (l : List Entry) : Prop := v = p.vec ∧ c = p.cloud ∧ 0 ≤ i ∧ i ≤ es.length ∧ isSd p t es i l ∧ (l.length : Int) ≤ i
def decSd (es : List Entry) (i : Int) (v : List Int) (c : List Span) (l : List Entry) : Nat := (es.length - i).toNat
theorem ok_len {es : List Entry} (h : ¬ ¬ lstE es = 0) : es.length ≤ 16000000000 := okL_len (lst_ok (Classical.not_not.1 h))
theorem ok_both {es : List Entry} {p : Past} (h : ¬ (¬ lstE es = 0 ∨ ¬ p = normP p)) : lstE es = 0 ∧ p = normP p := ⟨Classical.not_not.1 fun k => h (.inl k), Classical.not_not.1 fun k => h (.inr k)⟩
def isPreD (es : List Entry) (i : Int) (l : List Dot) : Prop := l = (es.take i.toNat).map fun e => e.dot
theorem isPreD_step {es : List Entry} {i : Int} {l : List Dot} (h0 : 0 ≤ i) (h : i < es.length) (hs : isPreD es i l) : isPreD es (i + 1) (l ++ [es[i.toNat]!.dot]) := by
  unfold isPreD at *
  rw [← take_step h0 h, List.map_append, ← hs]
  rfl
def invRD (es : List Entry) (i : Int) (l : List Dot) : Prop := 0 ≤ i ∧ i ≤ es.length ∧ (l.length : Int) = i ∧ isPreD es i l
def decRD (es : List Entry) (i : Int) (l : List Dot) : Nat := (es.length - i).toNat
theorem dotsV_len (es : List Entry) : (dotsV es).1.cloud.length ≤ 8000000000 ∧ (dotsV es).1.vec.length ≤ 16 := by
  unfold dotsV
  split
  · exact tabP_len _
  · simp
theorem con39 (es : List Entry) : Con Try.prog 39 [.sl (es.map c28)] (.tup [.agg (c36 (dotsV es).1), .i .i64 (dotsV es).2]) :=
  by
  refine con_lens 0 (c28) (es) (by kernel_rfl) Go.Proofs.Try.func39 (by kernel_rfl) fun hl_0 => ?_
  refine st_con tab_ok (by kernel_rfl) [.cell 2 36, .tmp 3] 29 Go.Proofs.Try.func39 (by kernel_rfl) (by kernel_rfl) ?_
  intro e0 cx
  refine sq ?_
  refine rg (A := True) cx [] [0, 2] [2] trivial ?_
  refine sn ?_
  refine sq ?_
  refine sq ?_
  refine rg (A := _ ∧ (AV.b (lstE es != (0 : Int)) = AV.b (decide ¬lstE es = (0 : Int)))) cx [(1, { val := some (.i .i64 (lstE es)) }), (2, { tell := some (.b (decide ¬lstE es = (0 : Int))) })] [0, 2, 9] [2] ⟨(con16 (es)), (told_neq)⟩ ?_
  refine sn ?_
  refine st_dec (¬lstE es = (0 : Int)) (by kernel_rfl) (by kernel_rfl) (fun h_0 => ?_) (fun h_0 => ?_)
  refine sq ?_
  refine rg (A := True) cx [] [2, 3] [2] trivial ?_
  refine sn ?_
  refine st_ret (by kernel_rfl) ?_
  refine q_seq_ret ?_
  refine q_ret (r := .tup [.agg [.nl, .nl], .i .i64 ((1 : Int))]) (obl := []) (by kernel_rfl) trivial (AVle.tup (ZLe.cons (AVle.agg (ZLe.cons (AVle.nl' (show List.map c3 (dotsV es).fst.vec = [] from ?g2)) (ZLe.cons (AVle.nl' (show List.map c81 (dotsV es).fst.cloud = [] from ?g1)) ZLe.nil))) (ZLe.cons (AVle.eq (show AV.i IntKind.i64 (1 : Int) = AV.i IntKind.i64 (dotsV es).snd from ?g0)) ZLe.nil))); rotate_left 3
  refine st_skip (by kernel_rfl) ?_
  refine sn ?_
  refine sq ?_
  refine rg (A := _ ∧ ((↑es.length : Int) = (↑es.length : Int)) ∧ ((↑es.length : Int) = (↑es.length : Int)) ∧ ((16 : Nat) * es.length ≤ (281474976710656 : Nat)) ∧ (es.length ≤ maxLen) ∧ ([AV.i IntKind.i64 { rep := (0 : Int), num := (0 : Int) : Dot }.rep, AV.i IntKind.i64 { rep := (0 : Int), num := (0 : Int) : Dot }.num].length = (2 : Nat)) ∧ (ZLe [AV.i IntKind.i64 (0 : Int), AV.i IntKind.i64 (0 : Int)] [AV.i IntKind.i64 { rep := (0 : Int), num := (0 : Int) : Dot }.rep, AV.i IntKind.i64 { rep := (0 : Int), num := (0 : Int) : Dot }.num]) ∧ (List.replicate es.length [AV.i IntKind.i64 { rep := (0 : Int), num := (0 : Int) : Dot }.rep, AV.i IntKind.i64 { rep := (0 : Int), num := (0 : Int) : Dot }.num] = List.map c26 (List.replicate es.length { rep := (0 : Int), num := (0 : Int) : Dot }))) cx [(1, { tell := some (.i .i64 ((↑es.length : Int))) }), (2, { row := [.i .i64 ({ rep := (0 : Int), num := (0 : Int) : Dot }.rep), .i .i64 ({ rep := (0 : Int), num := (0 : Int) : Dot }.num)], rows := some (List.map c26 (List.replicate es.length { rep := (0 : Int), num := (0 : Int) : Dot })), n := es.length })] [0, 2, 4] [2, 13] ⟨(told_len c28 es), (by kernel_rfl), (by kernel_rfl), ?g3, (by (simp only [Go.maxLen]; omega)), (by kernel_rfl), (by (with_reducible exact ZLe.refl _)), (by (with_reducible refine rep_map ?_; kernel_rfl))⟩ ?_; rotate_left 1
  refine sn ?_
  refine sq ?_
  refine sq ?_
  refine rg (A := _) cx [(1, { tell := some (.i .i64 ((↑es.length : Int))) })] [2, 4, 14, 15, 16] [2, 13] (told_len c28 es) ?_
  refine sn ?_
  refine st_block 0 (by kernel_rfl) ?_
  refine st_loop (X := Int × List Dot) (fun x => ⟨[(2, .ptr (2) (0) (0) (0)), (4, .own 13 0), (14, .sl (List.map c28 es)), (15, .i .i64 ((↑es.length : Int))), (16, .i .i64 (x.fst))], [(2, ⟨0, 36, .var [.nl, .nl]⟩), (13, ⟨0, 26, .row 2 (List.map c26 x.snd)⟩)]⟩) (fun x ↦ decD es x.fst x.snd) (fun x ↦ invD es x.fst x.snd) [2, 4, 14, 15, 16] [2, 13] (((0 : Int), List.replicate es.length { rep := (0 : Int), num := (0 : Int) : Dot })) (by kernel_rfl) (by kernel_rfl) (show invD es (0 : Int) (List.replicate es.length { rep := (0 : Int), num := (0 : Int) : Dot }) from ?g4) ?_; rotate_left 1
  rintro ⟨i_1, l_2⟩ h_3
  obtain ⟨h_4, h_5, h_6, h_7⟩ : (0 : Int) ≤ i_1 ∧ i_1 ≤ (↑es.length : Int) ∧ l_2.length = es.length ∧ isDots es i_1 l_2 := h_3
  refine sq ?_
  refine rg (A := (AV.b (decide (i_1 < (↑es.length : Int))) = AV.b (decide (i_1 < (↑es.length : Int))))) cx [(0, { tell := some (.b (decide (i_1 < (↑es.length : Int)))) })] [2, 4, 14, 15, 16, 17] [2, 13] (by kernel_rfl) ?_
  refine sn ?_
  refine sq ?_
  refine st_dec (i_1 < (↑es.length : Int)) (by kernel_rfl) (by kernel_rfl) (fun h_8 => ?_) (fun h_8 => ?_)
  refine st_skip (by kernel_rfl) ?_
  refine sn ?_
  refine sq ?_
  refine st_block 1 (by kernel_rfl) ?_
  refine sq ?_
  refine rg (A := ((0 : Int) ≤ i_1) ∧ ((List.map c28 es)[i_1.toNat]? = some (c28 es[i_1.toNat]!)) ∧ ((c28 es[i_1.toNat]!).length = (4 : Nat)) ∧ ((4 : Nat) ≤ [AV.i IntKind.i64 es[i_1.toNat]!.dot.rep, AV.i IntKind.i64 es[i_1.toNat]!.dot.num, AV.s es[i_1.toNat]!.sku, AV.i IntKind.i64 es[i_1.toNat]!.qty].length)) cx [(1, { row := (c28 es[i_1.toNat]!) })] [2, 4, 14, 15, 16, 6, 5] [2, 13, 6] ⟨(by (with_reducible assumption)), (by (with_reducible refine get_map ?_; omega)), (by kernel_rfl), (by (simp only [List.length_append, List.length_cons, List.length_nil]; omega))⟩ ?_
  refine sn ?_
  refine rg (A := ((0 : Int) ≤ i_1) ∧ (i_1.toNat < (List.map c26 l_2).length) ∧ ((2 : Nat) = 2) ∧ ((List.map c26 l_2)[i_1.toNat]? = some (c26 l_2[i_1.toNat]!)) ∧ ((cellsA (AV.agg [AV.i IntKind.i64 es[i_1.toNat]!.dot.rep, AV.i IntKind.i64 es[i_1.toNat]!.dot.num])).length = (2 : Nat)) ∧ (0 + (2 : Nat) ≤ 2) ∧ ((List.map c26 l_2).set i_1.toNat (List.take (0) (c26 l_2[i_1.toNat]!) ++ cellsA (AV.agg [AV.i IntKind.i64 es[i_1.toNat]!.dot.rep, AV.i IntKind.i64 es[i_1.toNat]!.dot.num]) ++ List.drop (0 + (2 : Nat)) (c26 l_2[i_1.toNat]!)) = List.map c26 (l_2.set i_1.toNat es[i_1.toNat]!.dot))) cx [(5, { row := (c26 l_2[i_1.toNat]!), rows := some (List.map c26 (l_2.set i_1.toNat es[i_1.toNat]!.dot)) })] [2, 4, 14, 15, 16] [2, 13] ⟨(by (with_reducible assumption)), (by (first | omega | (simp only [List.length_map]; omega))), (by kernel_rfl), (by (with_reducible refine get_map ?_; omega)), (by kernel_rfl), (by (first | omega | (simp only [List.length_map]; omega))), (by (with_reducible refine set_map ?_; kernel_rfl))⟩ ?_
  refine q_blk_normal ?_
  refine sn ?_
  refine rg (A := (AV.i IntKind.i64 (IntKind.i64.wrap (i_1 + (1 : Int))) = AV.i IntKind.i64 (i_1 + (1 : Int)))) cx [(0, { tell := some (.i .i64 (i_1 + (1 : Int))) })] [2, 4, 14, 15, 16] [2, 13] (told_i64 (by omega) (by omega)) ?_
  refine sn ?_
  refine loop_next ((i_1 + (1 : Int), l_2.set i_1.toNat es[i_1.toNat]!.dot)) (by kernel_rfl) (show ((↑es.length : Int) - (i_1 + (1 : Int))).toNat < ((↑es.length : Int) - i_1).toNat from (by omega)) (show invD es (i_1 + (1 : Int)) (l_2.set i_1.toNat es[i_1.toNat]!.dot) from ?g5); rotate_left 1
  refine st_exit 0 (by kernel_rfl) ?_
  refine q_seq_exit ?_
  refine q_seq_exit ?_
  refine q_blk_hit ?_
  refine sn ?_
  refine sq ?_
  refine rg (A := _) cx [(1, { val := some (.agg [.sl (List.map c3 (tabP (ofT l_2)).vec), .sl (List.map c81 (tabP (ofT l_2)).cloud)]) })] [2, 3] [2] (con62 (l_2) ?g6) ?_; rotate_left 1
  refine sn ?_
  refine st_ret (by kernel_rfl) ?_
  refine q_ret (r := .tup [.agg [.sl (List.map c3 (tabP (ofT l_2)).vec), .sl (List.map c81 (tabP (ofT l_2)).cloud)], .i .i64 ((0 : Int))]) (obl := []) (by kernel_rfl) trivial (AVle.tup (ZLe.cons (AVle.eq (show AV.agg [AV.sl (List.map c3 (tabP (ofT l_2)).vec), AV.sl (List.map c81 (tabP (ofT l_2)).cloud)] = AV.agg [AV.sl (List.map c3 (dotsV es).fst.vec), AV.sl (List.map c81 (dotsV es).fst.cloud)] from ?g8)) (ZLe.cons (AVle.eq (show AV.i IntKind.i64 (0 : Int) = AV.i IntKind.i64 (dotsV es).snd from ?g7)) ZLe.nil))); rotate_left 2
  revert h_0; rotate_left
  revert h_0; rotate_left
  revert h_0; rotate_left
  revert h_0; rotate_left
  revert h_0; rotate_left
  revert h_0 i_1 l_2 h_4 h_5 h_6 h_7 h_8; rotate_left
  revert h_0 i_1 l_2 h_4 h_5 h_6 h_7 h_8; rotate_left
  revert h_0 i_1 l_2 h_4 h_5 h_6 h_7 h_8; rotate_left
  revert h_0 i_1 l_2 h_4 h_5 h_6 h_7 h_8; rotate_left
  case g0 => intro h; rw [dotsV_no h]
  case g1 => intro h; rw [dotsV_no h]; rfl
  case g2 => intro h; rw [dotsV_no h]; rfl
  case g3 => intro h; have := ok_len h; omega
  case g4 => intro h; exact ⟨by omega, by omega, by simp, by simp, by simp⟩
  case g5 => intro h i l h0 h1 h2 h3 h4; exact ⟨by omega, by omega, by rw [List.length_set]; exact h2, isDots_step h0 h4 h3⟩
  case g6 => intro h i l h0 h1 h2 h3 h4; have := ok_len h; omega
  case g7 => intro h i l h0 h1 h2 h3 h4; rw [dotsV_ok (Classical.not_not.1 h)]
  case g8 => intro h i l h0 h1 h2 h3 h4; rw [dotsV_ok (Classical.not_not.1 h), isDots_end h4 h3]
theorem con67 (e : Entry) (p : Past) : Con Try.prog 67 [.agg (c28 e), .eptr (c36 p)] (.b (hasP p e.dot == true)) :=
  by
  refine st_con tab_ok (by kernel_rfl) [.tmp 3] 8 Go.Proofs.Try.func67 (by kernel_rfl) (by kernel_rfl) ?_
  intro e0 cx
  refine sq ?_
  refine rg (A := True) cx [] [1, 2] [2] trivial ?_
  refine sn ?_
  refine sq ?_
  refine rg (A := ((2 : Nat) ≤ [AV.sl (List.map c3 p.vec), AV.sl (List.map c81 p.cloud)].length) ∧ _) cx [(3, { val := some (.b (hasP p e.dot)) })] [3] [] ⟨(by (simp only [List.length_append, List.length_cons, List.length_nil]; omega)), (con68 (p) (e.dot))⟩ ?_
  refine sn ?_
  refine st_ret (by kernel_rfl) ?_
  refine q_ret (r := .b (hasP p e.dot)) (obl := []) (by kernel_rfl) trivial (AVle.eq (show AV.b (hasP p e.dot) = AV.b (hasP p e.dot == true) from ?g0)); rotate_left 1
  case g0 => exact (by cases hasP p e.dot <;> rfl)
theorem con69 (e : Entry) (p : Past) : Con Try.prog 69 [.agg (c28 e), .eptr (c36 p)] (.b (hasP p e.dot == false)) :=
  by
  refine st_con tab_ok (by kernel_rfl) [.tmp 3] 9 Go.Proofs.Try.func69 (by kernel_rfl) (by kernel_rfl) ?_
  intro e0 cx
  refine sq ?_
  refine rg (A := True) cx [] [1, 2] [2] trivial ?_
  refine sn ?_
  refine sq ?_
  refine rg (A := ((2 : Nat) ≤ [AV.sl (List.map c3 p.vec), AV.sl (List.map c81 p.cloud)].length) ∧ _ ∧ ((AV.b !hasP p e.dot) = AV.b (decide ¬hasP p e.dot = true))) cx [(3, { val := some (.b (hasP p e.dot)) }), (4, { tell := some (.b (decide ¬hasP p e.dot = true)) })] [3] [] ⟨(by (simp only [List.length_append, List.length_cons, List.length_nil]; omega)), (con68 (p) (e.dot)), (told_not)⟩ ?_
  refine sn ?_
  refine st_ret (by kernel_rfl) ?_
  refine q_ret (r := .b (decide ¬hasP p e.dot = true)) (obl := []) (by kernel_rfl) trivial (AVle.eq (show AV.b (decide ¬hasP p e.dot = true) = AV.b (hasP p e.dot == false) from ?g0)); rotate_left 1
  case g0 => exact (by cases hasP p e.dot <;> rfl)
theorem con51_3 (es : List Entry) (p : Past) (hs : es.length * 40 ≤ 140737488351232) : Con Try.prog 51 [.sl (es.map c28), .fn (.func 67) [] [.eptr (c36 p)]] (.sl ((es.filter (fun e => hasP p e.dot == true)).map c28)) :=
  by
  refine con_lens 0 (c28) (es) (by kernel_rfl) Go.Proofs.Try.func51 (by kernel_rfl) fun hl_0 => ?_
  refine st_con tab_ok (by kernel_rfl) [.tmp 4] 23 Go.Proofs.Try.func51 (by kernel_rfl) (by kernel_rfl) ?_
  intro e0 cx
  refine sq ?_
  refine rg (A := True) cx [] [0, 1] [] trivial ?_
  refine sn ?_
  refine sq ?_
  refine rg (A := True) cx [] [0, 1, 5] [] trivial ?_
  refine sn ?_
  refine sq ?_
  refine sq ?_
  refine rg (A := _) cx [(1, { tell := some (.i .i64 ((↑es.length : Int))) })] [1, 5, 8, 9, 10] [] (told_len c28 es) ?_
  refine sn ?_
  refine st_block 0 (by kernel_rfl) ?_
  refine awp_adopt 5 1005 28 4 (σ' := ⟨[(1, .fn (Fn.func (67 : FuncId)) [] [.eptr [.sl (List.map c3 p.vec), .sl (List.map c81 p.cloud)]]), (5, .own 1005 0), (8, .sl (List.map c28 es)), (9, .i .i64 ((↑es.length : Int))), (10, .i .i64 ((0 : Int)))], [(1005, ⟨0, 28, .row 4 (List.map c28 [])⟩)]⟩) (by kernel_rfl) ?_
  refine st_loop (X := Int × List Entry) (fun x => ⟨[(1, .fn (Fn.func (67 : FuncId)) [] [.eptr [.sl (List.map c3 p.vec), .sl (List.map c81 p.cloud)]]), (5, .own 1005 0), (8, .sl (List.map c28 es)), (9, .i .i64 ((↑es.length : Int))), (10, .i .i64 (x.fst))], [(1005, ⟨0, 28, .row 4 (List.map c28 x.snd)⟩)]⟩) (fun x ↦ decP es x.fst x.snd) (fun x ↦ invP (fun e ↦ hasP p e.dot == true) es x.fst x.snd) [1, 5, 8, 9, 10] [1005] (((0 : Int), [])) (by kernel_rfl) (by kernel_rfl) (show invP (fun e ↦ hasP p e.dot == true) es (0 : Int) [] from ?g0) ?_; rotate_left 1
  rintro ⟨i_0, l_1⟩ h_2
  obtain ⟨h_3, h_4, h_5, h_6⟩ : (0 : Int) ≤ i_0 ∧ i_0 ≤ (↑es.length : Int) ∧ l_1 = List.filter (fun e ↦ hasP p e.dot == true) (List.take i_0.toNat es) ∧ (↑l_1.length : Int) ≤ i_0 := h_2
  refine sq ?_
  refine rg (A := (AV.b (decide (i_0 < (↑es.length : Int))) = AV.b (decide (i_0 < (↑es.length : Int))))) cx [(0, { tell := some (.b (decide (i_0 < (↑es.length : Int)))) })] [1, 5, 8, 9, 10, 11] [1005] (by kernel_rfl) ?_
  refine sn ?_
  refine sq ?_
  refine st_dec (i_0 < (↑es.length : Int)) (by kernel_rfl) (by kernel_rfl) (fun h_7 => ?_) (fun h_7 => ?_)
  refine st_skip (by kernel_rfl) ?_
  refine sn ?_
  refine sq ?_
  refine st_block 1 (by kernel_rfl) ?_
  refine sq ?_
  refine rg (A := ((0 : Int) ≤ i_0) ∧ ((List.map c28 es)[i_0.toNat]? = some (c28 es[i_0.toNat]!)) ∧ ((c28 es[i_0.toNat]!).length = (4 : Nat)) ∧ ((4 : Nat) ≤ [AV.i IntKind.i64 es[i_0.toNat]!.dot.rep, AV.i IntKind.i64 es[i_0.toNat]!.dot.num, AV.s es[i_0.toNat]!.sku, AV.i IntKind.i64 es[i_0.toNat]!.qty].length)) cx [(0, { row := (c28 es[i_0.toNat]!) })] [1, 5, 8, 9, 10, 7] [1005, 7] ⟨(by (with_reducible assumption)), (by (with_reducible refine get_map ?_; omega)), (by kernel_rfl), (by (simp only [List.length_append, List.length_cons, List.length_nil]; omega))⟩ ?_
  refine sn ?_
  refine sq ?_
  refine rg (A := _) cx [(2, { val := some (resC (con67 (es[i_0.toNat]!) (p))) })] [1, 5, 8, 9, 10, 7, 16] [1005, 7] (con67 (es[i_0.toNat]!) (p)) ?_
  refine sn ?_
  refine st_cond (hasP p es[i_0.toNat]!.dot == true) (by kernel_rfl) (by kernel_rfl) (fun h_8 => ?_) (fun h_8 => ?_)
  refine rg (A := (28 = (28 : Nat)) ∧ ((4 : Nat) = 4) ∧ ([AV.i IntKind.i64 (0 : Int), AV.i IntKind.i64 (0 : Int), AV.s { data := #[] : ByteArray }, AV.i IntKind.i64 (0 : Int)].length = (4 : Nat)) ∧ (∀ (r : List AV), r ∈ List.map c28 [es[i_0.toNat]!] → r.length = 4) ∧ ((List.map c28 l_1).length + (List.map c28 [es[i_0.toNat]!]).length ≤ maxLen) ∧ (((List.map c28 l_1).length + (List.map c28 [es[i_0.toNat]!]).length) * (40 : Nat) ≤ (140737488355328 : Nat)) ∧ (List.map c28 l_1 ++ List.map c28 [es[i_0.toNat]!] = List.map c28 (l_1 ++ [es[i_0.toNat]!]))) cx [(3, { rows := some (List.map c28 (l_1 ++ [es[i_0.toNat]!])) })] [1, 5, 8, 9, 10] [1005] ⟨(by kernel_rfl), (by kernel_rfl), (by kernel_rfl), (by (with_reducible refine len_map (fun _ => ?_) _; kernel_rfl)), (by (simp only [Go.maxLen, List.length_map, List.length_append, List.length_cons, List.length_nil]; omega)), (by (simp only [Go.maxLen, List.length_map, List.length_append, List.length_cons, List.length_nil]; omega)), (by (with_reducible refine app_map ?_; kernel_rfl))⟩ ?_
  refine q_blk_normal ?_
  refine sn ?_
  refine rg (A := (AV.i IntKind.i64 (IntKind.i64.wrap (i_0 + (1 : Int))) = AV.i IntKind.i64 (i_0 + (1 : Int)))) cx [(0, { tell := some (.i .i64 (i_0 + (1 : Int))) })] [1, 5, 8, 9, 10] [1005] (told_i64 (by omega) (by omega)) ?_
  refine sn ?_
  refine loop_next ((i_0 + (1 : Int), l_1 ++ [es[i_0.toNat]!])) (by kernel_rfl) (show ((↑es.length : Int) - (i_0 + (1 : Int))).toNat < ((↑es.length : Int) - i_0).toNat from (by omega)) (show invP (fun e ↦ hasP p e.dot == true) es (i_0 + (1 : Int)) (l_1 ++ [es[i_0.toNat]!]) from ?g1); rotate_left 1
  refine st_skip (by kernel_rfl) ?_
  refine q_blk_normal ?_
  refine sn ?_
  refine rg (A := (AV.i IntKind.i64 (IntKind.i64.wrap (i_0 + (1 : Int))) = AV.i IntKind.i64 (i_0 + (1 : Int)))) cx [(0, { tell := some (.i .i64 (i_0 + (1 : Int))) })] [1, 5, 8, 9, 10] [1005] (told_i64 (by omega) (by omega)) ?_
  refine sn ?_
  refine loop_next ((i_0 + (1 : Int), l_1)) (by kernel_rfl) (show ((↑es.length : Int) - (i_0 + (1 : Int))).toNat < ((↑es.length : Int) - i_0).toNat from (by omega)) (show invP (fun e ↦ hasP p e.dot == true) es (i_0 + (1 : Int)) l_1 from ?g2); rotate_left 1
  refine st_exit 0 (by kernel_rfl) ?_
  refine q_seq_exit ?_
  refine q_seq_exit ?_
  refine q_blk_hit ?_
  refine sn ?_
  refine sq ?_
  refine rg (A := True) cx [] [4] [1005] trivial ?_
  refine sn ?_
  refine st_ret (by kernel_rfl) ?_
  refine q_ret (r := .sl (List.map c28 l_1)) (obl := []) (by kernel_rfl) trivial (AVle.eq (show AV.sl (List.map c28 l_1) = AV.sl (List.map c28 (List.filter (fun e ↦ hasP p e.dot == true) es)) from ?g3)); rotate_left 1
  rotate_left
  revert i_0 l_1 h_3 h_4 h_5 h_6 h_7 h_8; rotate_left
  revert i_0 l_1 h_3 h_4 h_5 h_6 h_7 h_8; rotate_left
  revert i_0 l_1 h_3 h_4 h_5 h_6 h_7; rotate_left
  case g0 => exact (invP_init _ _)
  case g1 => exact (fun i l h0 h1 h2 h3 h4 h5 => invP_add h0 h2 h3 h4 h5)
  case g2 => exact (fun i l h0 h1 h2 h3 h4 h5 => invP_skip h0 h2 h3 h4 (by simpa using h5))
  case g3 => exact (fun i l h0 h1 h2 h3 h4 => by rw [invP_done h2 h4])
theorem con51_4 (es : List Entry) (p : Past) (hs : es.length * 40 ≤ 140737488351232) : Con Try.prog 51 [.sl (es.map c28), .fn (.func 69) [] [.eptr (c36 p)]] (.sl ((es.filter (fun e => hasP p e.dot == false)).map c28)) :=
  by
  refine con_lens 0 (c28) (es) (by kernel_rfl) Go.Proofs.Try.func51 (by kernel_rfl) fun hl_0 => ?_
  refine st_con tab_ok (by kernel_rfl) [.tmp 4] 23 Go.Proofs.Try.func51 (by kernel_rfl) (by kernel_rfl) ?_
  intro e0 cx
  refine sq ?_
  refine rg (A := True) cx [] [0, 1] [] trivial ?_
  refine sn ?_
  refine sq ?_
  refine rg (A := True) cx [] [0, 1, 5] [] trivial ?_
  refine sn ?_
  refine sq ?_
  refine sq ?_
  refine rg (A := _) cx [(1, { tell := some (.i .i64 ((↑es.length : Int))) })] [1, 5, 8, 9, 10] [] (told_len c28 es) ?_
  refine sn ?_
  refine st_block 0 (by kernel_rfl) ?_
  refine awp_adopt 5 1005 28 4 (σ' := ⟨[(1, .fn (Fn.func (69 : FuncId)) [] [.eptr [.sl (List.map c3 p.vec), .sl (List.map c81 p.cloud)]]), (5, .own 1005 0), (8, .sl (List.map c28 es)), (9, .i .i64 ((↑es.length : Int))), (10, .i .i64 ((0 : Int)))], [(1005, ⟨0, 28, .row 4 (List.map c28 [])⟩)]⟩) (by kernel_rfl) ?_
  refine st_loop (X := Int × List Entry) (fun x => ⟨[(1, .fn (Fn.func (69 : FuncId)) [] [.eptr [.sl (List.map c3 p.vec), .sl (List.map c81 p.cloud)]]), (5, .own 1005 0), (8, .sl (List.map c28 es)), (9, .i .i64 ((↑es.length : Int))), (10, .i .i64 (x.fst))], [(1005, ⟨0, 28, .row 4 (List.map c28 x.snd)⟩)]⟩) (fun x ↦ decP es x.fst x.snd) (fun x ↦ invP (fun e ↦ hasP p e.dot == false) es x.fst x.snd) [1, 5, 8, 9, 10] [1005] (((0 : Int), [])) (by kernel_rfl) (by kernel_rfl) (show invP (fun e ↦ hasP p e.dot == false) es (0 : Int) [] from ?g0) ?_; rotate_left 1
  rintro ⟨i_0, l_1⟩ h_2
  obtain ⟨h_3, h_4, h_5, h_6⟩ : (0 : Int) ≤ i_0 ∧ i_0 ≤ (↑es.length : Int) ∧ l_1 = List.filter (fun e ↦ hasP p e.dot == false) (List.take i_0.toNat es) ∧ (↑l_1.length : Int) ≤ i_0 := h_2
  refine sq ?_
  refine rg (A := (AV.b (decide (i_0 < (↑es.length : Int))) = AV.b (decide (i_0 < (↑es.length : Int))))) cx [(0, { tell := some (.b (decide (i_0 < (↑es.length : Int)))) })] [1, 5, 8, 9, 10, 11] [1005] (by kernel_rfl) ?_
  refine sn ?_
  refine sq ?_
  refine st_dec (i_0 < (↑es.length : Int)) (by kernel_rfl) (by kernel_rfl) (fun h_7 => ?_) (fun h_7 => ?_)
  refine st_skip (by kernel_rfl) ?_
  refine sn ?_
  refine sq ?_
  refine st_block 1 (by kernel_rfl) ?_
  refine sq ?_
  refine rg (A := ((0 : Int) ≤ i_0) ∧ ((List.map c28 es)[i_0.toNat]? = some (c28 es[i_0.toNat]!)) ∧ ((c28 es[i_0.toNat]!).length = (4 : Nat)) ∧ ((4 : Nat) ≤ [AV.i IntKind.i64 es[i_0.toNat]!.dot.rep, AV.i IntKind.i64 es[i_0.toNat]!.dot.num, AV.s es[i_0.toNat]!.sku, AV.i IntKind.i64 es[i_0.toNat]!.qty].length)) cx [(0, { row := (c28 es[i_0.toNat]!) })] [1, 5, 8, 9, 10, 7] [1005, 7] ⟨(by (with_reducible assumption)), (by (with_reducible refine get_map ?_; omega)), (by kernel_rfl), (by (simp only [List.length_append, List.length_cons, List.length_nil]; omega))⟩ ?_
  refine sn ?_
  refine sq ?_
  refine rg (A := _) cx [(2, { val := some (resC (con69 (es[i_0.toNat]!) (p))) })] [1, 5, 8, 9, 10, 7, 16] [1005, 7] (con69 (es[i_0.toNat]!) (p)) ?_
  refine sn ?_
  refine st_cond (hasP p es[i_0.toNat]!.dot == false) (by kernel_rfl) (by kernel_rfl) (fun h_8 => ?_) (fun h_8 => ?_)
  refine rg (A := (28 = (28 : Nat)) ∧ ((4 : Nat) = 4) ∧ ([AV.i IntKind.i64 (0 : Int), AV.i IntKind.i64 (0 : Int), AV.s { data := #[] : ByteArray }, AV.i IntKind.i64 (0 : Int)].length = (4 : Nat)) ∧ (∀ (r : List AV), r ∈ List.map c28 [es[i_0.toNat]!] → r.length = 4) ∧ ((List.map c28 l_1).length + (List.map c28 [es[i_0.toNat]!]).length ≤ maxLen) ∧ (((List.map c28 l_1).length + (List.map c28 [es[i_0.toNat]!]).length) * (40 : Nat) ≤ (140737488355328 : Nat)) ∧ (List.map c28 l_1 ++ List.map c28 [es[i_0.toNat]!] = List.map c28 (l_1 ++ [es[i_0.toNat]!]))) cx [(3, { rows := some (List.map c28 (l_1 ++ [es[i_0.toNat]!])) })] [1, 5, 8, 9, 10] [1005] ⟨(by kernel_rfl), (by kernel_rfl), (by kernel_rfl), (by (with_reducible refine len_map (fun _ => ?_) _; kernel_rfl)), (by (simp only [Go.maxLen, List.length_map, List.length_append, List.length_cons, List.length_nil]; omega)), (by (simp only [Go.maxLen, List.length_map, List.length_append, List.length_cons, List.length_nil]; omega)), (by (with_reducible refine app_map ?_; kernel_rfl))⟩ ?_
  refine q_blk_normal ?_
  refine sn ?_
  refine rg (A := (AV.i IntKind.i64 (IntKind.i64.wrap (i_0 + (1 : Int))) = AV.i IntKind.i64 (i_0 + (1 : Int)))) cx [(0, { tell := some (.i .i64 (i_0 + (1 : Int))) })] [1, 5, 8, 9, 10] [1005] (told_i64 (by omega) (by omega)) ?_
  refine sn ?_
  refine loop_next ((i_0 + (1 : Int), l_1 ++ [es[i_0.toNat]!])) (by kernel_rfl) (show ((↑es.length : Int) - (i_0 + (1 : Int))).toNat < ((↑es.length : Int) - i_0).toNat from (by omega)) (show invP (fun e ↦ hasP p e.dot == false) es (i_0 + (1 : Int)) (l_1 ++ [es[i_0.toNat]!]) from ?g1); rotate_left 1
  refine st_skip (by kernel_rfl) ?_
  refine q_blk_normal ?_
  refine sn ?_
  refine rg (A := (AV.i IntKind.i64 (IntKind.i64.wrap (i_0 + (1 : Int))) = AV.i IntKind.i64 (i_0 + (1 : Int)))) cx [(0, { tell := some (.i .i64 (i_0 + (1 : Int))) })] [1, 5, 8, 9, 10] [1005] (told_i64 (by omega) (by omega)) ?_
  refine sn ?_
  refine loop_next ((i_0 + (1 : Int), l_1)) (by kernel_rfl) (show ((↑es.length : Int) - (i_0 + (1 : Int))).toNat < ((↑es.length : Int) - i_0).toNat from (by omega)) (show invP (fun e ↦ hasP p e.dot == false) es (i_0 + (1 : Int)) l_1 from ?g2); rotate_left 1
  refine st_exit 0 (by kernel_rfl) ?_
  refine q_seq_exit ?_
  refine q_seq_exit ?_
  refine q_blk_hit ?_
  refine sn ?_
  refine sq ?_
  refine rg (A := True) cx [] [4] [1005] trivial ?_
  refine sn ?_
  refine st_ret (by kernel_rfl) ?_
  refine q_ret (r := .sl (List.map c28 l_1)) (obl := []) (by kernel_rfl) trivial (AVle.eq (show AV.sl (List.map c28 l_1) = AV.sl (List.map c28 (List.filter (fun e ↦ hasP p e.dot == false) es)) from ?g3)); rotate_left 1
  rotate_left
  revert i_0 l_1 h_3 h_4 h_5 h_6 h_7 h_8; rotate_left
  revert i_0 l_1 h_3 h_4 h_5 h_6 h_7 h_8; rotate_left
  revert i_0 l_1 h_3 h_4 h_5 h_6 h_7; rotate_left
  case g0 => exact (invP_init _ _)
  case g1 => exact (fun i l h0 h1 h2 h3 h4 h5 => invP_add h0 h2 h3 h4 h5)
  case g2 => exact (fun i l h0 h1 h2 h3 h4 h5 => invP_skip h0 h2 h3 h4 (by simpa using h5))
  case g3 => exact (fun i l h0 h1 h2 h3 h4 => by rw [invP_done h2 h4])
theorem con45 (es : List Entry) (p : Past) (hb : p.cloud.length * 16 ≤ 140737488350000) : Con Try.prog 45 [.sl (es.map c28), .agg (c36 p)] (.tup [.sl ((sideV es p true).1.map c28), .i .i64 (sideV es p true).2]) :=
  by
  refine con_lens 0 (c28) (es) (by kernel_rfl) Go.Proofs.Try.func45 (by kernel_rfl) fun hl_0 => ?_
  refine st_con tab_ok (by kernel_rfl) [.tmp 4, .tmp 5] 17 Go.Proofs.Try.func45 (by kernel_rfl) (by kernel_rfl) ?_
  intro e0 cx
  refine sq ?_
  refine rg (A := True) cx [] [0, 3] [3] trivial ?_
  refine sn ?_
  refine sq ?_
  refine sq ?_
  refine st_join (σ' := ⟨[(0, .sl (List.map c28 es)), (3, .ptr (3) (0) (0) (0)), (13, .b (decide (¬lstE es = (0 : Int) ∨ ¬p = normP p)))], [(3, ⟨0, 36, .var [.sl (List.map c3 p.vec), .sl (List.map c81 p.cloud)]⟩)]⟩) ?_ ?_
  refine st_split (¬lstE es = (0 : Int)) (fun h_1 => ?_) (fun h_1 => ?_)
  refine rg (A := _ ∧ (AV.b (lstE es != (0 : Int)) = AV.b true) ∧ (AV.b true = AV.b (decide (¬lstE es = (0 : Int) ∨ ¬p = normP p)))) cx [(1, { val := some (.i .i64 (lstE es)) }), (2, { tell := some (.b (true)) }), (7, { tell := some (.b (decide (¬lstE es = (0 : Int) ∨ ¬p = normP p))) })] [0, 3, 13] [3] ⟨(con16 (es)), (told_neqt h_1), (by simp only [eq_false h_1, told_simp1, told_simp2, and_true, true_and, and_false, false_and, or_true, true_or, or_false, false_or, not_true_eq_false, not_false_eq_true, decide_true, decide_false, Bool.decide_eq_true])⟩ ?_
  exact ⟨rfl, by kernel_rfl⟩
  refine rg (A := _ ∧ (AV.b (lstE es != (0 : Int)) = AV.b (decide ¬lstE es = (0 : Int))) ∧ _ ∧ _ ∧ ((AV.b !decide (p = normP p)) = AV.b (decide ¬p = normP p)) ∧ (AV.b (decide ¬p = normP p) = AV.b (decide (¬lstE es = (0 : Int) ∨ ¬p = normP p)))) cx [(1, { val := some (.i .i64 (lstE es)) }), (2, { tell := some (.b (decide ¬lstE es = (0 : Int))) }), (3, { tell := some (.b (false)) }), (5, { val := some (.b (decide (p = normP p))) }), (6, { tell := some (.b (decide ¬p = normP p)) }), (7, { tell := some (.b (decide (¬lstE es = (0 : Int) ∨ ¬p = normP p))) })] [0, 3, 13] [3] ⟨(con16 (es)), (told_neq), (told_false h_1), (con66 (p) (by (with_reducible assumption))), (told_notd), (by simp only [eq_false h_1, told_simp1, told_simp2, and_true, true_and, and_false, false_and, or_true, true_or, or_false, false_or, not_true_eq_false, not_false_eq_true, decide_true, decide_false, Bool.decide_eq_true])⟩ ?_
  exact ⟨rfl, by kernel_rfl⟩
  refine sn ?_
  refine st_dec (¬lstE es = (0 : Int) ∨ ¬p = normP p) (by kernel_rfl) (by kernel_rfl) (fun h_2 => ?_) (fun h_2 => ?_)
  refine sq ?_
  refine rg (A := True) cx [] [4, 5] [] trivial ?_
  refine sn ?_
  refine st_ret (by kernel_rfl) ?_
  refine q_seq_ret ?_
  refine q_ret (r := .tup [.nl, .i .i64 ((1 : Int))]) (obl := []) (by kernel_rfl) trivial (AVle.tup (ZLe.cons (AVle.nl' (show List.map c28 (sideV es p true).fst = [] from ?g1)) (ZLe.cons (AVle.eq (show AV.i IntKind.i64 (1 : Int) = AV.i IntKind.i64 (sideV es p true).snd from ?g0)) ZLe.nil))); rotate_left 2
  refine st_skip (by kernel_rfl) ?_
  refine sn ?_
  refine sq ?_
  refine rg (A := _) cx [(2, { val := some (.sl (List.map c28 (List.filter (fun e ↦ hasP p e.dot == true) es))) })] [4, 5] [] (con51_3 (es) (p) ?g2) ?_; rotate_left 1
  refine sn ?_
  refine st_ret (by kernel_rfl) ?_
  refine q_ret (r := .tup [.sl (List.map c28 (List.filter (fun e ↦ hasP p e.dot == true) es)), .i .i64 ((0 : Int))]) (obl := []) (by kernel_rfl) trivial (AVle.tup (ZLe.cons (AVle.eq (show AV.sl (List.map c28 (List.filter (fun e ↦ hasP p e.dot == true) es)) = AV.sl (List.map c28 (sideV es p true).fst) from ?g4)) (ZLe.cons (AVle.eq (show AV.i IntKind.i64 (0 : Int) = AV.i IntKind.i64 (sideV es p true).snd from ?g3)) ZLe.nil))); rotate_left 2
  revert h_2; rotate_left
  revert h_2; rotate_left
  revert h_2; rotate_left
  revert h_2; rotate_left
  revert h_2; rotate_left
  case g0 => exact (fun h => by rw [sideV_no h])
  case g1 => exact (fun h => by rw [sideV_no h]; rfl)
  case g2 => exact (fun h => by have := okL_len (lst_ok (ok_both h).1); omega)
  case g3 => exact (fun h => by rw [sideV_ok (ok_both h).1 (ok_both h).2])
  case g4 => exact (fun h => by rw [sideV_ok (ok_both h).1 (ok_both h).2])
theorem con46 (es : List Entry) (p : Past) (hb : p.cloud.length * 16 ≤ 140737488350000) : Con Try.prog 46 [.sl (es.map c28), .agg (c36 p)] (.tup [.sl ((sideV es p false).1.map c28), .i .i64 (sideV es p false).2]) :=
  by
  refine con_lens 0 (c28) (es) (by kernel_rfl) Go.Proofs.Try.func46 (by kernel_rfl) fun hl_0 => ?_
  refine st_con tab_ok (by kernel_rfl) [.tmp 4, .tmp 5] 17 Go.Proofs.Try.func46 (by kernel_rfl) (by kernel_rfl) ?_
  intro e0 cx
  refine sq ?_
  refine rg (A := True) cx [] [0, 3] [3] trivial ?_
  refine sn ?_
  refine sq ?_
  refine sq ?_
  refine st_join (σ' := ⟨[(0, .sl (List.map c28 es)), (3, .ptr (3) (0) (0) (0)), (13, .b (decide (¬lstE es = (0 : Int) ∨ ¬p = normP p)))], [(3, ⟨0, 36, .var [.sl (List.map c3 p.vec), .sl (List.map c81 p.cloud)]⟩)]⟩) ?_ ?_
  refine st_split (¬lstE es = (0 : Int)) (fun h_1 => ?_) (fun h_1 => ?_)
  refine rg (A := _ ∧ (AV.b (lstE es != (0 : Int)) = AV.b true) ∧ (AV.b true = AV.b (decide (¬lstE es = (0 : Int) ∨ ¬p = normP p)))) cx [(1, { val := some (.i .i64 (lstE es)) }), (2, { tell := some (.b (true)) }), (7, { tell := some (.b (decide (¬lstE es = (0 : Int) ∨ ¬p = normP p))) })] [0, 3, 13] [3] ⟨(con16 (es)), (told_neqt h_1), (by simp only [eq_false h_1, told_simp1, told_simp2, and_true, true_and, and_false, false_and, or_true, true_or, or_false, false_or, not_true_eq_false, not_false_eq_true, decide_true, decide_false, Bool.decide_eq_true])⟩ ?_
  exact ⟨rfl, by kernel_rfl⟩
  refine rg (A := _ ∧ (AV.b (lstE es != (0 : Int)) = AV.b (decide ¬lstE es = (0 : Int))) ∧ _ ∧ _ ∧ ((AV.b !decide (p = normP p)) = AV.b (decide ¬p = normP p)) ∧ (AV.b (decide ¬p = normP p) = AV.b (decide (¬lstE es = (0 : Int) ∨ ¬p = normP p)))) cx [(1, { val := some (.i .i64 (lstE es)) }), (2, { tell := some (.b (decide ¬lstE es = (0 : Int))) }), (3, { tell := some (.b (false)) }), (5, { val := some (.b (decide (p = normP p))) }), (6, { tell := some (.b (decide ¬p = normP p)) }), (7, { tell := some (.b (decide (¬lstE es = (0 : Int) ∨ ¬p = normP p))) })] [0, 3, 13] [3] ⟨(con16 (es)), (told_neq), (told_false h_1), (con66 (p) (by (with_reducible assumption))), (told_notd), (by simp only [eq_false h_1, told_simp1, told_simp2, and_true, true_and, and_false, false_and, or_true, true_or, or_false, false_or, not_true_eq_false, not_false_eq_true, decide_true, decide_false, Bool.decide_eq_true])⟩ ?_
  exact ⟨rfl, by kernel_rfl⟩
  refine sn ?_
  refine st_dec (¬lstE es = (0 : Int) ∨ ¬p = normP p) (by kernel_rfl) (by kernel_rfl) (fun h_2 => ?_) (fun h_2 => ?_)
  refine sq ?_
  refine rg (A := True) cx [] [4, 5] [] trivial ?_
  refine sn ?_
  refine st_ret (by kernel_rfl) ?_
  refine q_seq_ret ?_
  refine q_ret (r := .tup [.nl, .i .i64 ((1 : Int))]) (obl := []) (by kernel_rfl) trivial (AVle.tup (ZLe.cons (AVle.nl' (show List.map c28 (sideV es p false).fst = [] from ?g1)) (ZLe.cons (AVle.eq (show AV.i IntKind.i64 (1 : Int) = AV.i IntKind.i64 (sideV es p false).snd from ?g0)) ZLe.nil))); rotate_left 2
  refine st_skip (by kernel_rfl) ?_
  refine sn ?_
  refine sq ?_
  refine rg (A := _) cx [(2, { val := some (.sl (List.map c28 (List.filter (fun e ↦ hasP p e.dot == false) es))) })] [4, 5] [] (con51_4 (es) (p) ?g2) ?_; rotate_left 1
  refine sn ?_
  refine st_ret (by kernel_rfl) ?_
  refine q_ret (r := .tup [.sl (List.map c28 (List.filter (fun e ↦ hasP p e.dot == false) es)), .i .i64 ((0 : Int))]) (obl := []) (by kernel_rfl) trivial (AVle.tup (ZLe.cons (AVle.eq (show AV.sl (List.map c28 (List.filter (fun e ↦ hasP p e.dot == false) es)) = AV.sl (List.map c28 (sideV es p false).fst) from ?g4)) (ZLe.cons (AVle.eq (show AV.i IntKind.i64 (0 : Int) = AV.i IntKind.i64 (sideV es p false).snd from ?g3)) ZLe.nil))); rotate_left 2
  revert h_2; rotate_left
  revert h_2; rotate_left
  revert h_2; rotate_left
  revert h_2; rotate_left
  revert h_2; rotate_left
  case g0 => exact (fun h => by rw [sideV_no h])
  case g1 => exact (fun h => by rw [sideV_no h]; rfl)
  case g2 => exact (fun h => by have := okL_len (lst_ok (ok_both h).1); omega)
  case g3 => exact (fun h => by rw [sideV_ok (ok_both h).1 (ok_both h).2])
  case g4 => exact (fun h => by rw [sideV_ok (ok_both h).1 (ok_both h).2])
end Go.Proofs.Ytjngmlkaijpbgaa
namespace Go.Proofs.Ytjngmlkaijpbgaa
open Go.E
set_option maxRecDepth 100000
set_option maxHeartbeats 4000000
open Go Go.Sort Go.RowKit Go.Lib Go.Shelf Go.Proofs
section
variable {α : Type} [Inhabited α] {enc : α → List Value} {k blk off : Nat}
/-- What is asked of 'swap', at two places that are not one. -/
def SwapAt (sf : Nat) (sb : Array Value) (enc : α → List Value) (k blk off size : Nat) : Prop :=
  ∀ (W : World) (dk : Array α), HoldsK enc k W blk off dk → dk.size = size → ∀ i j : Nat, i < size → j < size → i ≠ j →
    (callFunc sf (#[.int .i64 i, .int .i64 j] ++ sb)).run Try.prog W = .ok (.value (.tuple #[])) ((W.setCells blk (off + i * k) (enc dk[j]!)).setCells blk (off + j * k) (enc dk[i]!))
def boxW (w : World) (g : Nat) (lb : Array Value) (sf : Nat) (sb : Array Value) : World := w.alloc (.cells #[.func (.func g) #[] lb, .func (.func sf) #[] sb] 96)
theorem boxW_size (w : World) (g : Nat) (lb : Array Value) (sf : Nat) (sb : Array Value) : (boxW w g lb sf sb).heap.size = w.heap.size + 1 := by simp [boxW]
theorem boxW_fam {w0 : World} {d : Array α} (hH : HoldsK enc k w0 blk off d) (g : Nat) (lb : Array Value) (sf : Nat) (sb : Array Value) : Fam enc k blk off w0 d (boxW w0 g lb sf sb) := (Fam.start hH).alloc _
theorem boxW_cell {w0 : World} (hb : blk < w0.heap.size) (g : Nat) (lb : Array Value) (sf : Nat) (sb : Array Value) {W : World} {d' : Array α} (h : Fam enc k blk off (boxW w0 g lb sf sb) d' W) :
    W.cell? ⟨w0.heap.size, 0, none⟩ = some (.func (.func g) #[] lb) ∧ W.cell? ⟨w0.heap.size, 1, none⟩ = some (.func (.func sf) #[] sb) := by
  constructor
  · rw [h.cell (by show w0.heap.size < _; rw [boxW_size]; omega) (by show w0.heap.size ≠ blk; omega)]; simp [boxW]
  · rw [h.cell (by show w0.heap.size < _; rw [boxW_size]; omega) (by show w0.heap.size ≠ blk; omega)]; simp [boxW]
set_option maxHeartbeats 4000000 in
theorem swapRange_walk (hk : ∀ x, (enc x).length = k) (g : Nat) (lb : Array Value) (sf : Nat) (sb : Array Value) (w0 : World) (d : Array α) (hswap : SwapAt sf sb enc k blk off d.size) (hH : HoldsK enc k w0 blk off d) (hb : blk < w0.heap.size)
    (a b n : Nat) (hab : a + n ≤ b) (hbn : b + n ≤ d.size) (hsz : d.size < 4611686018427387904) :
    Calls Try.prog 131 #[.agg #[.func (.func g) #[] lb, .func (.func sf) #[] sb], .int .i64 a, .int .i64 b, .int .i64 n] w0 fun e w' =>
      e = .returned (.tuple #[]) ∧ ∃ d', Fam enc k blk off w0 d' w' ∧ d'.size = d.size ∧ PermIn a (b + n) d d' ∧ ∀ j, d'[j]! = d[swIx a b n j]! := by
  have HF : Hid (Fam enc k blk off w0 d (boxW w0 g lb sf sb)) := boxW_fam hH g lb sf sb
  have hb1 : blk < (boxW w0 g lb sf sb).heap.size := by rw [boxW_size]; omega
  have HH : Hid (HoldsK enc k (boxW w0 g lb sf sb) blk off d) := HF.out.holds hb hH rfl
  have HS : Hid (SwapAt sf sb enc k blk off d.size) := hswap
  clear hswap
  go_enter Try.func131, Try.ntmps131
  go_wp2
  go_loopw [8] (fun v8 wr => ∃ (i : Nat) (dk : Array α), v8 = .int .i64 i ∧ i ≤ n ∧ Hid (dk.size = d.size ∧ Fam enc k blk off (boxW w0 g lb sf sb) dk wr ∧ PermIn a (b + n) d dk ∧ ∀ j, dk[j]! = d[swIx a b i j]!)) (fun v8 _ => n - (intOf v8).toNat)
  case atStart => exact ⟨0, d, by go_num, by omega, rfl, Fam.start HH.out, permIn_refl d _ _, fun j => by rw [swIx_zero]⟩
  case round =>
    obtain ⟨i, dk, rfl, hin, HI⟩ := hrel
    have c := (boxW_cell hb g lb sf sb HI.out.2.1).2
    go_wp2
    · have hlt : i < n := by omega
      have hs := HS.out wr dk (HI.out.2.1.holds hb1 HH.out HI.out.1) HI.out.1 (a + i) (b + i) (by omega) (by omega) (by omega)
      rw [show ((a + i : Nat) : Int) = (a : Int) + (i : Int) by omega, show ((b + i : Nat) : Int) = (b : Int) + (i : Int) by omega] at hs
      rw [hs, Oper.upon_value]
      clear hs
      go_wp2
      go_roundw
      case rel =>
        obtain ⟨e1, e2, e3, e4⟩ := HI.out
        exact ⟨i + 1, swp dk (a + i) (b + i), by go_num, by omega, by rw [Sort.size_swp]; exact e1, e2.swap hk hb1 _ _ (by omega) (by omega),
          permIn_trans d dk _ _ _ e3 (swp_permIn dk a (b + n) (a + i) (b + i) (by omega) (by omega) (by omega) (by omega) (by omega)), sw_step (by omega) (by omega) e1 e4⟩
      case measure => simp [intOf]; omega
    · go_end0
      obtain ⟨e1, e2, e3, e4⟩ := HI.out
      have hi : i = n := by omega
      exact ⟨rfl, dk, HF.out.trans hb e2 e1, e1, e3, fun j => by rw [e4 j, hi]⟩
set_option maxHeartbeats 4000000 in
theorem rotate_walk (hk : ∀ x, (enc x).length = k) (g : Nat) (lb : Array Value) (sf : Nat) (sb : Array Value) (w0 : World) (d : Array α) (hswap : SwapAt sf sb enc k blk off d.size) (hH : HoldsK enc k w0 blk off d) (hb : blk < w0.heap.size)
    (a m b : Nat) (ham : a < m) (hmb : m < b) (hbn : b ≤ d.size) (hsz : d.size < 4611686018427387904) :
    Calls Try.prog 122 #[.agg #[.func (.func g) #[] lb, .func (.func sf) #[] sb], .int .i64 a, .int .i64 m, .int .i64 b] w0 fun e w' =>
      e = .returned (.tuple #[]) ∧ ∃ d', Fam enc k blk off w0 d' w' ∧ d'.size = d.size ∧ PermIn a b d d' ∧ ∀ j, d'[j]! = d[rotIx a m b j]! := by
  have HF : Hid (Fam enc k blk off w0 d (boxW w0 g lb sf sb)) := boxW_fam hH g lb sf sb
  have hb1 : blk < (boxW w0 g lb sf sb).heap.size := by rw [boxW_size]; omega
  have HH : Hid (HoldsK enc k (boxW w0 g lb sf sb) blk off d) := HF.out.holds hb hH rfl
  have HS : Hid (SwapAt sf sb enc k blk off d.size) := hswap
  have u := run_underlying (P := Try.prog) (tab_ok 96 _ rfl).1
  clear hswap
  go_enter Try.func122, Try.ntmps122
  go_wp2
  go_loopw [8, 9] (fun v8 v9 wr => ∃ (i j : Nat) (dk : Array α), v8 = .int .i64 i ∧ v9 = .int .i64 j ∧ 0 < i ∧ 0 < j ∧ a + i ≤ m ∧ m + j ≤ b ∧ Hid (dk.size = d.size ∧ Fam enc k blk off (boxW w0 g lb sf sb) dk wr ∧ PermIn a b d dk ∧ ∀ q, dk[rotIx (m - i) m (m + j) q]! = d[rotIx a m b q]!)) (fun v8 v9 _ => (intOf v8).toNat + (intOf v9).toNat)
  case atStart =>
    refine ⟨m - a, b - m, d, by go_num, by go_num, by omega, by omega, by omega, by omega, rfl, Fam.start HH.out, permIn_refl d _ _, fun q => ?_⟩
    rw [show m - (m - a) = a by omega, show m + (b - m) = b by omega]
  case round =>
    obtain ⟨i, j, dk, rfl, rfl, hi0, hj0, hi, hj, HI⟩ := hrel
    have c := boxW_cell hb g lb sf sb HI.out.2.1
    have c0 := c.1
    have c1 := c.2
    clear c
    have hw := HI.out.2.1.size
    by_cases hij : i = j
    · subst hij
      have hc := swapRange_walk hk g lb sf sb wr dk (HI.out.1 ▸ HS.out) (HI.out.2.1.holds hb1 HH.out HI.out.1) (by omega) (m - i) m i (by omega) (by rw [HI.out.1]; omega) (by rw [HI.out.1]; omega)
      rw [show ((m - i : Nat) : Int) = (m : Int) - (i : Int) by omega] at hc
      have HC := Box.mk hc
      clear hc
      go_wp2_with (go_at_call 131; refine HC.out.mono ?_; rintro e w' ⟨rfl, d', f1, f2, f3, f4⟩)
      go_end0
      obtain ⟨e1, e2, e3, e4⟩ := HI.out
      exact ⟨rfl, d', HF.out.trans hb (e2.trans hb1 f1 (by rw [f2, e1])) (by rw [f2, e1]), by rw [f2, e1], permIn_trans d dk d' _ _ e3 (perm_mono (by omega) (by omega) (by omega) f3), fun q => by rw [f4 q, rot_same (by omega), e4 q]⟩
    · by_cases hlt : j < i
      · have hc := swapRange_walk hk g lb sf sb wr dk (HI.out.1 ▸ HS.out) (HI.out.2.1.holds hb1 HH.out HI.out.1) (by omega) (m - i) m j (by omega) (by rw [HI.out.1]; omega) (by rw [HI.out.1]; omega)
        rw [show ((m - i : Nat) : Int) = (m : Int) - (i : Int) by omega] at hc
        have HC := Box.mk hc
        clear hc
        go_wp2_with (go_at_call 131; refine HC.out.mono ?_; rintro e w' ⟨rfl, d', f1, f2, f3, f4⟩)
        go_roundw
        case rel =>
          obtain ⟨e1, e2, e3, e4⟩ := HI.out
          exact ⟨i - j, j, d', by go_num, rfl, by omega, by omega, by omega, by omega, by rw [f2, e1], e2.trans hb1 f1 (by rw [f2]), permIn_trans d dk d' _ _ e3 (perm_mono (by omega) (by omega) (by omega) f3), fun q => by rw [f4, rot_left (by omega) hj0 hlt, e4 q]⟩
        case measure => simp [intOf]; omega
      · have hc := swapRange_walk hk g lb sf sb wr dk (HI.out.1 ▸ HS.out) (HI.out.2.1.holds hb1 HH.out HI.out.1) (by omega) (m - i) (m + j - i) i (by omega) (by rw [HI.out.1]; omega) (by rw [HI.out.1]; omega)
        rw [show ((m - i : Nat) : Int) = (m : Int) - (i : Int) by omega, show ((m + j - i : Nat) : Int) = (m : Int) + (j : Int) - (i : Int) by omega] at hc
        have HC := Box.mk hc
        clear hc
        go_wp2_with (go_at_call 131; refine HC.out.mono ?_; rintro e w' ⟨rfl, d', f1, f2, f3, f4⟩)
        go_roundw
        case rel =>
          obtain ⟨e1, e2, e3, e4⟩ := HI.out
          exact ⟨i, j - i, d', rfl, by go_num, by omega, by omega, by omega, by omega, by rw [f2, e1], e2.trans hb1 f1 (by rw [f2]), permIn_trans d dk d' _ _ e3 (perm_mono (by omega) (by omega) (by omega) f3), fun q => by rw [f4, rot_right (by omega) hi0 (by omega), e4 q]⟩
        case measure => simp [intOf]; omega
/-- What is asked of 'less': it answers, and turns nothing that was there. -/
def LessAt (g : Nat) (lb : Array Value) (enc : α → List Value) (k : Nat) (lt : α → α → Bool) (blk off size : Nat) (w0 : World) : Prop :=
  ∀ (W : World) (dk : Array α), Fam enc k blk off w0 dk W → dk.size = size → ∀ i j : Nat, i < size → j < size →
    Calls Try.prog g (#[.int .i64 i, .int .i64 j] ++ lb) W fun e w' => e = .returned (.bool (lt dk[i]! dk[j]!)) ∧ Below W.heap.size W w'
theorem LessAt.on {g : Nat} {lb : Array Value} {lt : α → α → Bool} {size : Nat} {w0 W : World} {d : Array α} (h : LessAt g lb enc k lt blk off size w0) (hb : blk < w0.heap.size) (hF : Fam enc k blk off w0 d W) (hs : d.size = size) : LessAt g lb enc k lt blk off size W :=
  fun W' dk hF' hs' i j hi hj => h W' dk (hF.trans hb hF' (by omega)) hs' i j hi hj
set_option maxHeartbeats 4000000 in
theorem insertion_walk (hk : ∀ x, (enc x).length = k) (lt : α → α → Bool) (g : Nat) (lb : Array Value) (sf : Nat) (sb : Array Value) (w0 : World) (d : Array α) (hg : Callable Try.prog g) (hless : LessAt g lb enc k lt blk off d.size w0) (hswap : SwapAt sf sb enc k blk off d.size) (hH : HoldsK enc k w0 blk off d) (hb : blk < w0.heap.size)
    (a b : Nat) (hab : a ≤ b) (hbn : b ≤ d.size) (hsz : d.size < 4611686018427387904) :
    Calls Try.prog 102 #[.agg #[.func (.func g) #[] lb, .func (.func sf) #[] sb], .int .i64 a, .int .i64 b] w0 fun e w' =>
      e = .returned (.tuple #[]) ∧ Fam enc k blk off w0 (Sort.insertionSort lt d a b) w' := by
  have HF := Box.mk (boxW_fam hH g lb sf sb)
  have hb1 : blk < (boxW w0 g lb sf sb).heap.size := by rw [boxW_size]; omega
  have HH := Box.mk (HF.out.holds hb hH rfl)
  have HS := Box.mk hswap
  have HL := Box.mk (hless.on hb HF.out rfl)
  have eg : ∀ args w, (callFunc g args).run Try.prog w = .ok (.enter g args) w := fun args w => run_callFunc hg w
  clear hswap hless
  go_enter Try.func102, Try.ntmps102
  go_wp2
  go_loopw [6] (fun vi wr => ∃ (i : Nat) (dk : Array α), vi = .int .i64 i ∧ a < i ∧ i ≤ b + 1 ∧ dk.size = d.size ∧ Box (Fam enc k blk off (boxW w0 g lb sf sb) dk wr) ∧ Box (insOuter lt a b i dk = insOuter lt a b (a + 1) d)) (fun vi _ => b + 1 - (intOf vi).toNat)
  case atStart => exact ⟨a + 1, d, by go_num, by omega, by omega, rfl, ⟨Fam.start HH.out⟩, ⟨rfl⟩⟩
  case round =>
    obtain ⟨i, dk, rfl, hai, hib, hsk, HW, HO⟩ := hrel
    go_wp2
    · go_loopw [7] (fun vj wr2 => ∃ (j : Nat) (dj : Array α), vj = .int .i64 j ∧ a ≤ j ∧ j ≤ i ∧ dj.size = d.size ∧ Box (Fam enc k blk off (boxW w0 g lb sf sb) dj wr2) ∧ Box (insInner lt a j dj = insInner lt a i dk)) (fun vj _ => (intOf vj).toNat)
      case atStart => exact ⟨i, dk, rfl, by omega, Nat.le_refl _, hsk, HW, ⟨rfl⟩⟩
      case round =>
        obtain ⟨j, dj, rfl, haj, hji, hsj, HJ, HI⟩ := hrel
        have hlt : i < b := by assumption
        have c := boxW_cell hb g lb sf sb HJ.out
        have c0 := c.1
        have c1 := c.2
        clear c
        by_cases hja : a < j
        · have hl := HL.out wr dj HJ.out hsj j (j - 1) (by omega) (by omega)
          rw [show (((j - 1 : Nat) : Int)) = (j : Int) - 1 by omega] at hl
          cases hlv : lt dj[j]! dj[j - 1]! with
          | true =>
            rw [hlv] at hl
            have HQ := Box.mk hl
            clear hl
            go_wp2_with (go_at_fn g; refine HQ.out.mono ?_; rintro e w' ⟨rfl, hB⟩; have c2 := (boxW_cell hb g lb sf sb (HJ.out.below hB)).2; have FB := Box.mk (HJ.out.below hB); clear hB)
            have hs := HS.out w' dj (FB.out.holds hb1 HH.out hsj) hsj j (j - 1) (by omega) (by omega) (by omega)
            rw [show (((j - 1 : Nat) : Int)) = (j : Int) - 1 by omega] at hs
            rw [hs, Oper.upon_value]
            clear hs
            go_wp2
            go_roundw
            case rel =>
              (repeat apply Exists.intro)
              refine ⟨⟨j - 1, swp dj j (j - 1), by congr 1 <;> omega, by omega, by omega, by rw [Sort.size_swp]; exact hsj, ⟨FB.out.swap hk hb1 _ _ (by omega) (by omega)⟩, ⟨?_⟩⟩, by rw [decide_eq_true hlt, show ((j - 1 : Nat) : Int) = (j : Int) - 1 by omega]⟩
              rw [← HI.out, insInner_go lt a j dj hja hlv]
            case measure => simp [intOf]; omega
          | false =>
            rw [hlv] at hl
            have HQ := Box.mk hl
            clear hl
            go_wp2_with (go_at_fn g; refine HQ.out.mono ?_; rintro e w' ⟨rfl, hB⟩)
            go_roundw
            case rel => exact ⟨i + 1, dj, by go_num, by omega, by omega, hsj, ⟨HJ.out.below hB⟩, ⟨by rw [← HO.out, insOuter_go _ _ _ _ _ hlt, ← HI.out, insInner_stop _ _ _ _ (Or.inr hlv)]⟩⟩
            case measure => simp [intOf]; omega
        · go_wp2
          go_roundw
          case rel => exact ⟨i + 1, dj, by go_num, by omega, by omega, hsj, HJ, ⟨by rw [← HO.out, insOuter_go _ _ _ _ _ hlt, ← HI.out, insInner_stop _ _ _ _ (Or.inl (by omega))]⟩⟩
          case measure => simp [intOf]; omega
    · have hge : ¬ i < b := by omega
      go_end0
      exact ⟨rfl, by unfold Sort.insertionSort; rw [← HO.out, insOuter_stop _ _ _ _ _ hge]; exact HF.out.trans hb HW.out hsk⟩
end
end Go.Proofs.Ytjngmlkaijpbgaa
namespace Go.Proofs.Ytjngmlkaijpbgaa
open Go.E
set_option maxRecDepth 100000
set_option maxHeartbeats 4000000
open Go Go.Sort Go.RowKit Go.Lib Go.Shelf Go.Proofs
section
variable {α : Type} [Inhabited α] {enc : α → List Value} {k blk off : Nat}
section
variable {lt0 lt : α → α → Bool} {d dA dB dC : Array α} {a m b start h h' : Nat}
theorem so_le (hO : SWO lt) (hs : SortedIn lt a b d) {i j : Nat} (h1 : a ≤ i) (h2 : i ≤ j) (h3 : j < b) : lt d[j]! d[i]! = false := by
  rcases Nat.lt_or_ge i j with h | h
  · exact hs i j h1 h h3
  · rw [show i = j by omega]; exact hO.irrefl _
theorem srA_t (hO : SWO lt) (hs : SortedIn lt m b d) {x : α} (h1 : h < b) (ht : lt d[h]! x = true) (h2 : m ≤ h') (h3 : h' ≤ h) : lt d[h']! x = true := by
  cases hc : lt d[h']! x with
  | true => rfl
  | false => rw [hO.ntrans _ _ _ (so_le hO hs h2 h3 h1) hc] at ht; cases ht
theorem srA_f (hO : SWO lt) (hs : SortedIn lt m b d) {x : α} (h1 : m ≤ h) (ht : lt d[h]! x = false) (h2 : h ≤ h') (h3 : h' < b) : lt d[h']! x = false := hO.ntrans _ _ _ (so_le hO hs h1 h2 h3) ht
theorem srB_f (hO : SWO lt) (hs : SortedIn lt a m d) {x : α} (h1 : h < m) (ht : lt x d[h]! = false) (h2 : a ≤ h') (h3 : h' ≤ h) : lt x d[h']! = false := hO.ntrans _ _ _ ht (so_le hO hs h2 h3 h1)
theorem srB_t (hO : SWO lt) (hs : SortedIn lt a m d) {x : α} (h1 : a ≤ h) (ht : lt x d[h]! = true) (h2 : h ≤ h') (h3 : h' < m) : lt x d[h']! = true := by
  cases hc : lt x d[h']! with
  | true => rfl
  | false => rw [hO.ntrans _ _ _ hc (so_le hO hs h1 h2 h3)] at ht; cases ht
theorem srC_f (hO : SWO lt) (hs1 : SortedIn lt a m d) (hs2 : SortedIn lt m b d) {p c c' : Nat} (hc : c < m) (hpc : m ≤ p - c) (ht : lt d[p - c]! d[c]! = false) (h2 : a ≤ c') (h3 : c' ≤ c) (h4 : p - c' < b) : lt d[p - c']! d[c']! = false :=
  hO.ntrans _ _ _ (hO.ntrans _ _ _ (so_le hO hs2 hpc (by omega) h4) ht) (so_le hO hs1 h2 h3 hc)
theorem srC_t (hO : SWO lt) (hs1 : SortedIn lt a m d) (hs2 : SortedIn lt m b d) {p c c' : Nat} (hc : a ≤ c) (hpc : p - c < b) (ht : lt d[p - c]! d[c]! = true) (h2 : c ≤ c') (h3 : c' < m) (h4 : m ≤ p - c') : lt d[p - c']! d[c']! = true := by
  cases hh : lt d[p - c']! d[c']! with
  | true => rfl
  | false => rw [hO.ntrans _ _ _ (hO.ntrans _ _ _ (so_le hO hs2 h4 (by omega) hpc) hh) (so_le hO hs1 hc h2 h3)] at ht; cases ht
theorem rotIx_id {a m b q : Nat} (h : a = m ∨ m = b) (h1 : a ≤ m) (h2 : m ≤ b) : rotIx a m b q = q := by
  unfold rotIx; rcases h with h | h
  · subst h; split
    · omega
    · rw [if_neg (by omega)]
  · subst h; rw [if_neg (by omega)]; split <;> omega
theorem ord_cut (ham : a < m) (hmb : m < b) (hC : Cut lt a m b start d) (hd : ∀ q, dA[q]! = d[rotIx start m ((a + b) / 2 + m - start) q]!) (ho : ∀ p q, a ≤ p → p < m → m ≤ q → q < b → lt0 d[q]! d[p]! = lt d[q]! d[p]!) :
    (∀ p q, a ≤ p → p < start → start ≤ q → q < (a + b) / 2 → lt0 dA[q]! dA[p]! = lt dA[q]! dA[p]!) ∧ (∀ p q, (a + b) / 2 ≤ p → p < (a + b) / 2 + m - start → (a + b) / 2 + m - start ≤ q → q < b → lt0 dA[q]! dA[p]! = lt dA[q]! dA[p]!) := by
  obtain ⟨c1, c2, c3, c4, c5, c6⟩ := hC
  clear c5 c6
  constructor
  · intro p q h1 h2 h3 h4
    rw [hd p, hd q]
    have e1 : rotIx start m ((a + b) / 2 + m - start) p = p := by unfold rotIx; rw [if_neg (by omega), if_neg (by omega)]
    have e2 : rotIx start m ((a + b) / 2 + m - start) q = q - start + m := by unfold rotIx; rw [if_pos (by omega)]
    rw [e1, e2]
    exact ho _ _ h1 (by omega) (by omega) (by omega)
  · intro p q h1 h2 h3 h4
    rw [hd p, hd q]
    have e1 : rotIx start m ((a + b) / 2 + m - start) p = p - ((a + b) / 2 + m - start - m) := by unfold rotIx; rw [if_neg (by omega), if_pos (by omega)]
    have e2 : rotIx start m ((a + b) / 2 + m - start) q = q := by unfold rotIx; rw [if_neg (by omega), if_neg (by omega)]
    rw [e1, e2]
    exact ho _ _ (by omega) (by omega) (by omega) (by omega)
theorem ord_keep {mid e : Nat} (h : PermIn a mid dA dB) (ho : ∀ p q, mid ≤ p → p < e → e ≤ q → q < b → lt0 dA[q]! dA[p]! = lt dA[q]! dA[p]!) : ∀ p q, mid ≤ p → p < e → e ≤ q → q < b → lt0 dB[q]! dB[p]! = lt dB[q]! dB[p]! := by
  intro p q h1 h2 h3 h4
  rw [h.2.1 p (by omega), h.2.1 q (by omega)]; exact ho p q h1 h2 h3 h4
theorem sorted_keep {mid e f : Nat} (h : PermIn a mid dA dB) (hm : mid ≤ e) (hs : SortedIn lt e f dA) : SortedIn lt e f dB := sorted_same hs fun i h1 h2 => h.2.1 i (by omega)
theorem sym_end {mid : Nat} (ham : a ≤ mid) (hmb : mid ≤ b) (hb : b ≤ d.size) (hA : PermIn a b d dA) (hx : ∀ p q, a ≤ p → p < mid → mid ≤ q → q < b → lt dA[q]! dA[p]! = false) (hB : PermIn a mid dA dB) (hBs : SortedIn lt a mid dB)
    (hC : PermIn mid b dB dC) (hCs : SortedIn lt mid b dC) : PermIn a b d dC ∧ SortedIn lt a b dC := by
  have sA : dA.size = d.size := hA.1
  have sB : dB.size = dA.size := hB.1
  refine ⟨permIn_trans d dA dC _ _ hA (permIn_trans dA dB dC _ _ (perm_mono (Nat.le_refl _) hmb (by omega) hB) (perm_mono ham (Nat.le_refl _) (by omega) hC)), ?_⟩
  exact sorted_halves (sorted_same hBs fun i h1 h2 => hC.2.1 i (by omega)) hCs (cross_perm' ham hmb (by omega) hC (cross_perm ham hmb (by omega) hB hx))
end
set_option maxHeartbeats 8000000 in
theorem symMerge_walk (hk : ∀ x, (enc x).length = k) (lt0 lt : α → α → Bool) (hO : SWO lt) (g : Nat) (lb : Array Value) (sf : Nat) (sb : Array Value) (hg : Callable Try.prog g) : ∀ (n : Nat) (w0 : World) (d : Array α) (hless : LessAt g lb enc k lt0 blk off d.size w0) (hswap : SwapAt sf sb enc k blk off d.size) (hH : HoldsK enc k w0 blk off d) (hb : blk < w0.heap.size)
    (a m b : Nat) (ham : a < m) (hmb : m < b) (hbn : b ≤ d.size) (hsz : d.size < 4611686018427387904) (hn : b - a ≤ n)
    (hord : ∀ p q, a ≤ p → p < m → m ≤ q → q < b → lt0 d[q]! d[p]! = lt d[q]! d[p]!) (hs1 : SortedIn lt a m d) (hs2 : SortedIn lt m b d),
    Calls Try.prog 103 #[.agg #[.func (.func g) #[] lb, .func (.func sf) #[] sb], .int .i64 a, .int .i64 m, .int .i64 b] w0 fun e w' =>
      e = .returned (.tuple #[]) ∧ ∃ d', Fam enc k blk off w0 d' w' ∧ d'.size = d.size ∧ PermIn a b d d' ∧ SortedIn lt a b d' := by
  intro n
  induction n with
  | zero => intros; omega
  | succ n ih =>
  intro w0 d hless hswap hH hb a m b ham hmb hbn hsz hn hord hs1 hs2
  have HF := Box.mk (boxW_fam hH g lb sf sb)
  have hb1 : blk < (boxW w0 g lb sf sb).heap.size := by rw [boxW_size]; omega
  have HH := Box.mk (HF.out.holds hb hH rfl)
  have HS := Box.mk hswap
  have HL := Box.mk (hless.on hb HF.out rfl)
  have HO := Box.mk hord
  have H1 := Box.mk hs1
  have H2 := Box.mk hs2
  have IH := Box.mk ih
  have eg : ∀ args w, (callFunc g args).run Try.prog w = .ok (.enter g args) w := fun args w => run_callFunc hg w
  clear hswap hless hord hs1 hs2 ih
  by_cases hone : m = a + 1
  · have hone1 : (m : Int) - a = 1 := by omega
    have hma1 : m ≤ a + 1 := by omega
    have HM := Box.mk hone
    clear hone
    go_enter Try.func103, Try.ntmps103
    go_wp2
    clear hone1
    go_loopw [8, 9] (fun v8 v9 wr => ∃ (i j : Nat), v8 = .int .i64 i ∧ v9 = .int .i64 j ∧ m ≤ i ∧ i ≤ j ∧ j ≤ b ∧ Box (Fam enc k blk off (boxW w0 g lb sf sb) d wr) ∧ Box ((∀ h, m ≤ h → h < i → lt d[h]! d[a]! = true) ∧ (∀ h, j ≤ h → h < b → lt d[h]! d[a]! = false))) (fun v8 v9 _ => (intOf v9).toNat - (intOf v8).toNat)
    case atStart => exact ⟨m, b, rfl, rfl, by omega, by omega, by omega, ⟨Fam.start HH.out⟩, ⟨fun h h1 h2 => by omega, fun h h1 h2 => by omega⟩⟩
    case round =>
      obtain ⟨i, j, rfl, rfl, hai, hij, hjb, HW, HI⟩ := hrel
      have c := boxW_cell hb g lb sf sb HW.out
      have c0 := c.1
      have c1 := c.2
      clear c
      by_cases hlt : i < j
      · have hl := HL.out wr d HW.out rfl ((i + j) / 2) a (by omega) (by omega)
        have ho := HO.out a ((i + j) / 2) (by omega) (by omega) (by omega) (by omega)
        cases hlv : lt d[(i + j) / 2]! d[a]! with
        | true =>
          rw [ho, hlv] at hl
          clear ho
          have HQ := Box.mk hl
          clear hl
          go_wp2_with (go_at_fn g; refine HQ.out.mono ?_; rintro e w' ⟨rfl, hB⟩; have FB := Box.mk (HW.out.below hB); clear hB)
          go_roundw
          case rel => exact ⟨(i + j) / 2 + 1, j, by go_num, rfl, by omega, by omega, by omega, FB, ⟨fun h h1 h2 => srA_t hO H2.out (by omega) hlv h1 (by omega), HI.out.2⟩⟩
          case measure => simp [intOf]; omega
        | false =>
          rw [ho, hlv] at hl
          clear ho
          have HQ := Box.mk hl
          clear hl
          go_wp2_with (go_at_fn g; refine HQ.out.mono ?_; rintro e w' ⟨rfl, hB⟩; have FB := Box.mk (HW.out.below hB); clear hB)
          go_roundw
          case rel => exact ⟨i, (i + j) / 2, rfl, by go_num, by omega, by omega, by omega, FB, ⟨HI.out.1, fun h h1 h2 => srA_f hO H2.out (by omega) hlv h1 h2⟩⟩
          case measure => simp [intOf]; omega
      · obtain rfl : i = j := by omega
        go_wp2
        go_loopw [11] (fun v11 wz => ∃ (c : Nat) (dk : Array α), v11 = .int .i64 c ∧ a ≤ c ∧ c + 1 ≤ i ∧ dk.size = d.size ∧ Box (Fam enc k blk off (boxW w0 g lb sf sb) dk wz) ∧ Box (PermIn a b d dk ∧ ∀ q, dk[q]! = d[rotIx a (a + 1) (c + 1) q]!)) (fun v11 _ => i - (intOf v11).toNat)
        case atStart => exact ⟨a, d, rfl, by omega, by omega, rfl, HW, ⟨permIn_refl d _ _, fun q => by rw [rotIx_one]⟩⟩
        case round =>
          obtain ⟨c, dk, rfl, hac, hci, hsk, HK, HD⟩ := hrel
          have c1' := (boxW_cell hb g lb sf sb HK.out).2
          clear c0 c1
          by_cases hend : c + 1 < i
          · have hs := HS.out wr dk (HK.out.holds hb1 HH.out hsk) hsk c (c + 1) (by omega) (by omega) (by omega)
            rw [show ((c + 1 : Nat) : Int) = (c : Int) + 1 by omega] at hs
            have hend1 : (c : Int) < (i : Int) - 1 := by omega
            go_wp2
            go_roundw
            case rel =>
              exact ⟨c + 1, swp dk c (c + 1), by go_num, by omega, by omega, by rw [Sort.size_swp]; exact hsk, ⟨HK.out.swap hk hb1 _ _ (by omega) (by omega)⟩,
                ⟨permIn_trans d dk _ _ _ HD.out.1 (swp_permIn dk a b c (c + 1) (by omega) (by omega) (by omega) (by omega) (by omega)), up_step hac (by omega) hsk HD.out.2⟩⟩
            case measure => simp [intOf]; omega
          · obtain rfl : i = c + 1 := by omega
            have hend1 : ¬ (c : Int) < ((c + 1 : Nat) : Int) - 1 := by omega
            go_wp2
            (try simp only [Exit.inBlock, Exit.then]); refine bodyPost_ret (results_none rfl _ _ _) rfl ?_
            obtain rfl := HM.out
            exact ⟨rfl, dk, HF.out.trans hb HK.out hsk, hsk, HD.out.1, merge_one_left hO H2.out (by omega) (by omega) (fun h h1 h2 => HI.out.1 h h1 h2) (fun h h1 h2 => HI.out.2 h h1 h2) HD.out.2⟩
  · by_cases hlast : b = m + 1
    · have hone1 : (b : Int) - m = 1 := by omega
      have hone0 : ¬ (m : Int) - a = 1 := by omega
      have hma1 : b ≤ m + 1 := by omega
      have hma2 : a + 2 ≤ m := by omega
      have HM := Box.mk hlast
      clear hlast hone
      go_enter Try.func103, Try.ntmps103
      go_wp2
      clear hone1 hone0
      have hx : ((m : Int) - a == 1) = false := beq_false_of_ne (by omega)
      try simp only [hx]
      clear hx
      go_loopw [12, 13] (fun v8 v9 wr => ∃ (i j : Nat), v8 = .int .i64 i ∧ v9 = .int .i64 j ∧ a ≤ i ∧ i ≤ j ∧ j ≤ m ∧ Box (Fam enc k blk off (boxW w0 g lb sf sb) d wr) ∧ Box ((∀ h, a ≤ h → h < i → lt d[m]! d[h]! = false) ∧ (∀ h, j ≤ h → h < m → lt d[m]! d[h]! = true))) (fun v8 v9 _ => (intOf v9).toNat - (intOf v8).toNat)
      case atStart => exact ⟨a, m, rfl, rfl, by omega, by omega, by omega, ⟨Fam.start HH.out⟩, ⟨fun h h1 h2 => by omega, fun h h1 h2 => by omega⟩⟩
      case round =>
        obtain ⟨i, j, rfl, rfl, hai, hij, hjb, HW, HI⟩ := hrel
        have c := boxW_cell hb g lb sf sb HW.out
        have c0 := c.1
        have c1 := c.2
        clear c
        by_cases hlt : i < j
        · have hl := HL.out wr d HW.out rfl m ((i + j) / 2) (by omega) (by omega)
          have ho := HO.out ((i + j) / 2) m (by omega) (by omega) (by omega) (by omega)
          cases hlv : lt d[m]! d[(i + j) / 2]! with
          | false =>
            rw [ho, hlv] at hl
            clear ho
            have HQ := Box.mk hl
            clear hl
            go_wp2_with (go_at_fn g; refine HQ.out.mono ?_; rintro e w' ⟨rfl, hB⟩; have FB := Box.mk (HW.out.below hB); clear hB)
            go_roundw
            case rel => exact ⟨(i + j) / 2 + 1, j, by go_num, rfl, by omega, by omega, by omega, FB, ⟨fun h h1 h2 => srB_f hO H1.out (by omega) hlv h1 (by omega), HI.out.2⟩⟩
            case measure => simp [intOf]; omega
          | true =>
            rw [ho, hlv] at hl
            clear ho
            have HQ := Box.mk hl
            clear hl
            go_wp2_with (go_at_fn g; refine HQ.out.mono ?_; rintro e w' ⟨rfl, hB⟩; have FB := Box.mk (HW.out.below hB); clear hB)
            go_roundw
            case rel => exact ⟨i, (i + j) / 2, rfl, by go_num, by omega, by omega, by omega, FB, ⟨HI.out.1, fun h h1 h2 => srB_t hO H1.out (by omega) hlv h1 h2⟩⟩
            case measure => simp [intOf]; omega
        · obtain rfl : i = j := by omega
          go_wp2
          go_loopw [15] (fun v11 wz => ∃ (c : Nat) (dk : Array α), v11 = .int .i64 c ∧ i ≤ c ∧ c ≤ m ∧ dk.size = d.size ∧ Box (Fam enc k blk off (boxW w0 g lb sf sb) dk wz) ∧ Box (PermIn a b d dk ∧ ∀ q, dk[q]! = d[rotIx c m (m + 1) q]!)) (fun v11 _ => (intOf v11).toNat - i)
          case atStart => exact ⟨m, d, rfl, by omega, by omega, rfl, HW, ⟨permIn_refl d _ _, fun q => by rw [rotIx_end]⟩⟩
          case round =>
            obtain ⟨c, dk, rfl, hac, hci, hsk, HK, HD⟩ := hrel
            have c1' := (boxW_cell hb g lb sf sb HK.out).2
            clear c0 c1
            by_cases hend : i < c
            · have hs := HS.out wr dk (HK.out.holds hb1 HH.out hsk) hsk c (c - 1) (by omega) (by omega) (by omega)
              rw [show ((c - 1 : Nat) : Int) = (c : Int) - 1 by omega] at hs
              go_wp2
              go_roundw
              case rel =>
                have hd := down_step (d := d) (dk := dk) (c := c - 1) (m := m) (by omega) (by omega) hsk
                rw [show c - 1 + 1 = c by omega] at hd
                exact ⟨c - 1, swp dk c (c - 1), by go_num, by omega, by omega, by rw [Sort.size_swp]; exact hsk, ⟨HK.out.swap hk hb1 _ _ (by omega) (by omega)⟩,
                  ⟨permIn_trans d dk _ _ _ HD.out.1 (swp_permIn dk a b c (c - 1) (by omega) (by omega) (by omega) (by omega) (by omega)), hd HD.out.2⟩⟩
              case measure => simp [intOf]; omega
            · obtain rfl : i = c := by omega
              go_wp2
              (try simp only [Exit.inBlock, Exit.then]); refine bodyPost_ret (results_none rfl _ _ _) rfl ?_
              obtain rfl := HM.out
              exact ⟨rfl, dk, HF.out.trans hb HK.out hsk, hsk, HD.out.1, merge_one_right hO H1.out (by omega) (by omega) (fun h h1 h2 => HI.out.1 h h1 h2) (fun h h1 h2 => HI.out.2 h h1 h2) HD.out.2⟩
    · have hone1 : ¬ (b : Int) - m = 1 := by omega
      have hone0 : ¬ (m : Int) - a = 1 := by omega
      clear hlast hone
      have hmid1 : 2 * ((a + b) / 2) ≤ a + b := by omega
      have hmid2 : a + b ≤ 2 * ((a + b) / 2) + 1 := by omega
      go_enter Try.func103, Try.ntmps103
      go_upto_if 106 with fail
      go_cut [18, 19] (fun s18 s19 wx => wx = boxW w0 g lb sf sb ∧ ∃ s0 r0 : Nat, s18 = .int .i64 s0 ∧ s19 = .int .i64 r0 ∧ a ≤ s0 ∧ (a + b) / 2 + m ≤ b + s0 ∧ (s0 = a ∨ s0 + b = (a + b) / 2 + m) ∧ r0 ≤ m ∧ r0 ≤ (a + b) / 2 ∧ (r0 = m ∨ r0 = (a + b) / 2) ∧ s0 ≤ r0)
      case first =>
        by_cases hm : (a + b) / 2 < m
        · go_wp2
          go_meet
          case rel => exact ⟨rfl, (a + b) / 2 + m - b, (a + b) / 2, by go_num, by go_num, by omega, by omega, by omega, by omega, by omega, by omega, by omega⟩
        · go_wp2
          go_meet
          case rel => exact ⟨rfl, a, m, by go_num, by go_num, by omega, by omega, by omega, by omega, by omega, by omega, by omega⟩
      case rest =>
        obtain ⟨rfl, s0, r0, rfl, rfl, g1, g2, g3, g4, g5, g6, g7⟩ := hcut
        go_wp2
        clear hone0 hone1
        go_loopw [18, 19] (fun v8 v9 wr => ∃ (i j : Nat), v8 = .int .i64 i ∧ v9 = .int .i64 j ∧ s0 ≤ i ∧ i ≤ j ∧ j ≤ r0 ∧ Box (Fam enc k blk off (boxW w0 g lb sf sb) d wr) ∧ Box ((∀ c, a ≤ c → (a + b) / 2 + m ≤ b + c → c < i → lt d[(a + b) / 2 + m - 1 - c]! d[c]! = false) ∧ (∀ c, j ≤ c → c < m → c < (a + b) / 2 → lt d[(a + b) / 2 + m - 1 - c]! d[c]! = true))) (fun v8 v9 _ => (intOf v9).toNat - (intOf v8).toNat)
        case atStart => exact ⟨s0, r0, rfl, rfl, by omega, by omega, by omega, ⟨Fam.start HH.out⟩, ⟨fun h h1 h2 h3 => by omega, fun h h1 h2 h3 => by omega⟩⟩
        case round =>
          obtain ⟨i, j, rfl, rfl, hai, hij, hjb, HW, HI⟩ := hrel
          by_cases hlt : i < j
          · have c := boxW_cell hb g lb sf sb HW.out
            have c0 := c.1
            have c1 := c.2
            clear c
            have hl := HL.out wr d HW.out rfl ((a + b) / 2 + m - 1 - (i + j) / 2) ((i + j) / 2) (by omega) (by omega)
            have ho := HO.out ((i + j) / 2) ((a + b) / 2 + m - 1 - (i + j) / 2) (by omega) (by omega) (by omega) (by omega)
            cases hlv : lt d[(a + b) / 2 + m - 1 - (i + j) / 2]! d[(i + j) / 2]! with
            | false =>
              rw [ho, hlv, show (((a + b) / 2 + m - 1 - (i + j) / 2 : Nat) : Int) = ((a : Int) + b) / 2 + m - 1 - ((i : Int) + j) / 2 by omega] at hl
              clear ho
              have HQ := Box.mk hl
              clear hl
              go_wp2_with (go_at_fn g; refine HQ.out.mono ?_; rintro e w' ⟨rfl, hB⟩; have FB := Box.mk (HW.out.below hB); clear hB)
              go_roundw
              case rel => exact ⟨(i + j) / 2 + 1, j, by go_num, rfl, by omega, by omega, by omega, FB, ⟨fun c h1 h2 h3 => srC_f hO H1.out H2.out (by omega) (by omega) hlv h1 (by omega) (by omega), HI.out.2⟩⟩
              case measure => simp [intOf]; omega
            | true =>
              rw [ho, hlv, show (((a + b) / 2 + m - 1 - (i + j) / 2 : Nat) : Int) = ((a : Int) + b) / 2 + m - 1 - ((i : Int) + j) / 2 by omega] at hl
              clear ho
              have HQ := Box.mk hl
              clear hl
              go_wp2_with (go_at_fn g; refine HQ.out.mono ?_; rintro e w' ⟨rfl, hB⟩; have FB := Box.mk (HW.out.below hB); clear hB)
              go_roundw
              case rel => exact ⟨i, (i + j) / 2, rfl, by go_num, by omega, by omega, by omega, FB, ⟨HI.out.1, fun c h1 h2 h3 => srC_t hO H1.out H2.out (by omega) (by omega) hlv h1 h2 (by omega)⟩⟩
              case measure => simp [intOf]; omega
          · obtain rfl : i = j := by omega
            have HC := Box.mk (Cut.mk (lt := lt) (a := a) (m := m) (b := b) (start := i) (d := d) (by omega) (by omega) (by omega) (by omega) HI.out.1 HI.out.2)
            have he : (((a + b) / 2 + m - i : Nat) : Int) = ((a : Int) + b) / 2 + m - i := by omega
            have HE := Box.mk he
            clear he
            go_upto_region 40 with fail
            go_cut [145] (fun s wx => wx = wr ∧ s = .bool (decide (i < m ∧ m < (a + b) / 2 + m - i)))
            case first =>
              by_cases h1 : i < m
              · by_cases h2 : m < (a + b) / 2 + m - i
                · go_wp2
                  go_meet
                  case rel => exact ⟨rfl, (congrArg Value.bool (by first | exact (decide_eq_true (by omega)).symm | exact (decide_eq_false (by omega)).symm | exact decide_eq_decide.mpr (by omega)))⟩
                · go_wp2
                  go_meet
                  case rel => exact ⟨rfl, (congrArg Value.bool (by first | exact (decide_eq_true (by omega)).symm | exact (decide_eq_false (by omega)).symm | exact decide_eq_decide.mpr (by omega)))⟩
              · go_wp2
                go_meet
                case rel => exact ⟨rfl, (congrArg Value.bool (by first | exact (decide_eq_true (by omega)).symm | exact (decide_eq_false (by omega)).symm | exact decide_eq_decide.mpr (by omega)))⟩
            case rest =>
              obtain ⟨rfl, rfl⟩ := hcut
              go_upto_if 145 with fail
              go_cut [] (fun wx => ∃ dA, Box (Fam enc k blk off (boxW w0 g lb sf sb) dA wx) ∧ Box (dA.size = d.size) ∧ Box (PermIn a b d dA ∧ ∀ q, dA[q]! = d[rotIx i m ((a + b) / 2 + m - i) q]!))
              case first =>
                by_cases h12 : i < m ∧ m < (a + b) / 2 + m - i
                · have hc := rotate_walk hk g lb sf sb wc d HS.out (HW.out.holds hb1 HH.out rfl) (by have := HW.out.size; omega) i m ((a + b) / 2 + m - i) h12.1 h12.2 (by omega) hsz
                  rw [HE.out] at hc
                  have HQ := Box.mk hc
                  have c := boxW_cell hb g lb sf sb HW.out
                  have c0 := c.1
                  have c1 := c.2
                  clear c
                  have h12b : decide (i < m ∧ m < (a + b) / 2 + m - i) = true := decide_eq_true h12
                  clear hc
                  go_wp2_with (go_at_call 122; refine HQ.out.mono ?_; rintro e w1 ⟨rfl, dA, f1, f2, f3, f4⟩; have FA := Box.mk (HW.out.trans hb1 f1 f2); have SA := Box.mk f2; have PA := Box.mk f3; have RA := Box.mk f4; clear f1 f2 f3 f4)
                  go_meet
                  case rel => exact ⟨dA, FA, SA, ⟨perm_mono (by omega) (by omega) (by omega) PA.out, RA.out⟩⟩
                · have h12b : decide (i < m ∧ m < (a + b) / 2 + m - i) = false := decide_eq_false h12
                  go_wp2_with fail
                  go_meet
                  case rel => exact ⟨d, HW, ⟨rfl⟩, ⟨permIn_refl d _ _, fun q => by rw [rotIx_id (by omega) (by omega) (by omega)]⟩⟩
              case rest =>
                obtain ⟨dA, FA, SA, PA⟩ := hcut
                have HP := Box.mk (cut_parts hO H1.out H2.out ham hmb HC.out PA.out.2)
                have HR := Box.mk (ord_cut ham hmb HC.out PA.out.2 HO.out)
                clear HW
                go_upto_region 42 with fail
                go_cut [158] (fun s wx => wx = wc ∧ s = .bool (decide (a < i ∧ i < (a + b) / 2)))
                case first =>
                  by_cases h1 : a < i
                  · by_cases h2 : i < (a + b) / 2
                    · go_wp2
                      go_meet
                      case rel => exact ⟨rfl, (congrArg Value.bool (by first | exact (decide_eq_true (by omega)).symm | exact (decide_eq_false (by omega)).symm | exact decide_eq_decide.mpr (by omega)))⟩
                    · go_wp2
                      go_meet
                      case rel => exact ⟨rfl, (congrArg Value.bool (by first | exact (decide_eq_true (by omega)).symm | exact (decide_eq_false (by omega)).symm | exact decide_eq_decide.mpr (by omega)))⟩
                  · go_wp2
                    go_meet
                    case rel => exact ⟨rfl, (congrArg Value.bool (by first | exact (decide_eq_true (by omega)).symm | exact (decide_eq_false (by omega)).symm | exact decide_eq_decide.mpr (by omega)))⟩
                case rest =>
                  obtain ⟨rfl, rfl⟩ := hcut
                  go_upto_if 158 with fail
                  go_cut [] (fun wx => ∃ dB, Box (Fam enc k blk off (boxW w0 g lb sf sb) dB wx) ∧ Box (dB.size = d.size) ∧ Box (PermIn a ((a + b) / 2) dA dB ∧ SortedIn lt a ((a + b) / 2) dB))
                  case first =>
                    by_cases h12 : a < i ∧ i < (a + b) / 2
                    · have hc := IH.out wc dA (by rw [SA.out]; exact HL.out.on hb1 FA.out SA.out) (by rw [SA.out]; exact HS.out) (FA.out.holds hb1 HH.out SA.out) (by have := FA.out.size; omega) a i ((a + b) / 2) h12.1 h12.2 (by rw [SA.out]; omega) (by rw [SA.out]; exact hsz) (by omega) HR.out.1 HP.out.1 HP.out.2.1
                      rw [show ((((a + b) / 2 : Nat)) : Int) = ((a : Int) + b) / 2 by omega] at hc
                      have HQ := Box.mk hc
                      have c := boxW_cell hb g lb sf sb FA.out
                      have c0 := c.1
                      have c1 := c.2
                      clear c
                      have h12b : decide (a < i ∧ i < (a + b) / 2) = true := decide_eq_true h12
                      clear hc
                      go_wp2_with (go_at_call 103; refine HQ.out.mono ?_; rintro e w1 ⟨rfl, dB, f1, f2, f3, f4⟩; have FB := Box.mk (FA.out.trans hb1 f1 f2); have SB := Box.mk (f2.trans SA.out); have PB := Box.mk f3; have RB := Box.mk f4; clear f1 f2 f3 f4)
                      go_meet
                      case rel => exact ⟨dB, FB, SB, ⟨PB.out, RB.out⟩⟩
                    · have h12b : decide (a < i ∧ i < (a + b) / 2) = false := decide_eq_false h12
                      go_wp2_with fail
                      go_meet
                      case rel =>
                        refine ⟨dA, FA, SA, ⟨permIn_refl dA _ _, ?_⟩⟩
                        have q1 := HC.out.hi2
                        have q2 := HC.out.lo
                        rcases Nat.lt_or_ge a i with q3 | q3
                        · have q4 : i = (a + b) / 2 := by omega
                          have q5 := HP.out.1
                          rw [q4] at q5
                          exact q5
                        · have q4 : i = a := by omega
                          have q5 := HP.out.2.1
                          rw [q4] at q5
                          exact q5
                  case rest =>
                    obtain ⟨dB, FB, SB, PB⟩ := hcut
                    go_upto_region 44 with fail
                    go_cut [171] (fun s wx => wx = wc ∧ s = .bool (decide ((a + b) / 2 < (a + b) / 2 + m - i ∧ (a + b) / 2 + m - i < b)))
                    case first =>
                      by_cases h1 : (a + b) / 2 < (a + b) / 2 + m - i
                      · by_cases h2 : (a + b) / 2 + m - i < b
                        · go_wp2
                          go_meet
                          case rel => exact ⟨rfl, (congrArg Value.bool (by first | exact (decide_eq_true (by omega)).symm | exact (decide_eq_false (by omega)).symm | exact decide_eq_decide.mpr (by omega)))⟩
                        · go_wp2
                          go_meet
                          case rel => exact ⟨rfl, (congrArg Value.bool (by first | exact (decide_eq_true (by omega)).symm | exact (decide_eq_false (by omega)).symm | exact decide_eq_decide.mpr (by omega)))⟩
                      · go_wp2
                        go_meet
                        case rel => exact ⟨rfl, (congrArg Value.bool (by first | exact (decide_eq_true (by omega)).symm | exact (decide_eq_false (by omega)).symm | exact decide_eq_decide.mpr (by omega)))⟩
                    case rest =>
                      obtain ⟨rfl, rfl⟩ := hcut
                      have PA1 := PA.out.1
                      have HX := Box.mk (fun dC h1 h2 => sym_end (lt := lt) (mid := (a + b) / 2) (dC := dC) (by omega) (by omega) hbn PA1 HP.out.2.2.2.2 PB.out.1 PB.out.2 h1 h2)
                      clear PA1
                      by_cases h12 : (a + b) / 2 < (a + b) / 2 + m - i ∧ (a + b) / 2 + m - i < b
                      · have hc := IH.out wc dB (by rw [SB.out]; exact HL.out.on hb1 FB.out SB.out) (by rw [SB.out]; exact HS.out) (FB.out.holds hb1 HH.out SB.out) (by have := FB.out.size; omega) ((a + b) / 2) ((a + b) / 2 + m - i) b h12.1 h12.2 (by rw [SB.out]; omega) (by rw [SB.out]; exact hsz) (by omega) (ord_keep PB.out.1 HR.out.2) (sorted_keep PB.out.1 (Nat.le_refl _) HP.out.2.2.1) (sorted_keep PB.out.1 (by omega) HP.out.2.2.2.1)
                        rw [HE.out, show ((((a + b) / 2 : Nat)) : Int) = ((a : Int) + b) / 2 by omega] at hc
                        have HQ := Box.mk hc
                        have c := boxW_cell hb g lb sf sb FB.out
                        have c0 := c.1
                        have c1 := c.2
                        clear c
                        have h12b : decide ((a + b) / 2 < (a + b) / 2 + m - i ∧ (a + b) / 2 + m - i < b) = true := decide_eq_true h12
                        clear hc
                        go_wp2_with (go_at_call 103; refine HQ.out.mono ?_; rintro e w1 ⟨rfl, dC, f1, f2, f3, f4⟩; have FC := Box.mk (FB.out.trans hb1 f1 f2); have SC := Box.mk (f2.trans SB.out); have PC := Box.mk f3; have RC := Box.mk f4; clear f1 f2 f3 f4)
                        go_end0
                        exact ⟨rfl, dC, HF.out.trans hb FC.out SC.out, SC.out, HX.out dC PC.out RC.out⟩
                      · have h12b : decide ((a + b) / 2 < (a + b) / 2 + m - i ∧ (a + b) / 2 + m - i < b) = false := decide_eq_false h12
                        go_wp2_with fail
                        go_end0
                        refine ⟨rfl, dB, HF.out.trans hb FB.out SB.out, SB.out, HX.out dB (permIn_refl dB _ _) ?_⟩
                        have q1 := HC.out.hi
                        have q2 := HC.out.lo2
                        have q6 := HC.out.hi2
                        rcases Nat.lt_or_ge ((a + b) / 2) ((a + b) / 2 + m - i) with q3 | q3
                        · have q4 : (a + b) / 2 + m - i = b := by omega
                          have q5 := sorted_keep PB.out.1 (Nat.le_refl _) HP.out.2.2.1
                          rw [q4] at q5
                          exact q5
                        · have q4 : (a + b) / 2 + m - i = (a + b) / 2 := by omega
                          have q5 := sorted_keep PB.out.1 (by omega) HP.out.2.2.2.1
                          rw [q4] at q5
                          exact q5
end
end Go.Proofs.Ytjngmlkaijpbgaa
namespace Go.Proofs.Ytjngmlkaijpbgaa
open Go.E
set_option maxRecDepth 100000
set_option maxHeartbeats 4000000
open Go Go.Sort Go.RowKit Go.Lib Go.Shelf Go.Proofs
section
variable {α : Type} [Inhabited α] {enc : α → List Value} {k blk off : Nat}
section
variable {lt0 lt : α → α → Bool} {d d' dk : Array α} {a b c n B : Nat}
/-- The two orders agree on what lies behind c and what lies ahead of it. -/
def OB (lt0 lt : α → α → Bool) (n c : Nat) (d : Array α) : Prop := ∀ p q, p < c → c ≤ q → q < n → lt0 d[q]! d[p]! = lt d[q]! d[p]!
theorem OB.keep (h : PermIn a b d d') (hb : b ≤ d.size) (hc : c ≤ a ∨ b ≤ c) (ho : OB lt0 lt n c d) (hbn : b ≤ n) : OB lt0 lt n c d' := by
  intro p q h1 h2 h3
  rcases hc with hc | hc
  · rw [h.2.1 p (by omega)]
    by_cases hq : a ≤ q ∧ q < b
    · exact permIn_all d d' a b (fun x => lt0 x d[p]! = lt x d[p]!) hb h (fun i hi him => ho p i h1 (by omega) (by omega)) q hq.1 hq.2
    · rw [h.2.1 q (by omega)]; exact ho p q h1 h2 h3
  · rw [h.2.1 q (by omega)]
    by_cases hp : a ≤ p ∧ p < b
    · exact permIn_all d d' a b (fun x => lt0 d[q]! x = lt d[q]! x) hb h (fun i hi him => ho i q (by omega) h2 h3) p hp.1 hp.2
    · rw [h.2.1 p (by omega)]; exact ho p q h1 h2 h3
theorem dvd_le (h1 : B ∣ c) (h2 : B ∣ a) (h : c < a) : c + B ≤ a := by
  obtain ⟨x, rfl⟩ := h1
  obtain ⟨y, rfl⟩ := h2
  have hxy : x < y := by
    rcases Nat.lt_or_ge x y with h' | h'
    · exact h'
    · exact absurd h (Nat.not_lt.mpr (Nat.mul_le_mul_left B h'))
  calc B * x + B = B * (x + 1) := by rw [Nat.mul_add, Nat.mul_one]
    _ ≤ B * y := Nat.mul_le_mul_left B hxy
theorem dvd_two (h : 2 * B ∣ c) : B ∣ c := Nat.dvd_trans ⟨2, Nat.mul_comm 2 B⟩ h
/-- Every block of B places is sorted. -/
structure Blocks (lt0 lt : α → α → Bool) (B n : Nat) (d : Array α) : Prop where
  hi : ∀ c, B ∣ c → SortedIn lt c (min (c + B) n) d
  o : ∀ c, B ∣ c → OB lt0 lt n c d
/-- Within a pass: below a the blocks of 2 B are sorted, from a on those of B. -/
structure Pass (lt0 lt : α → α → Bool) (B n a : Nat) (d : Array α) : Prop where
  al : 2 * B ∣ a
  lo : ∀ c, 2 * B ∣ c → c < a → SortedIn lt c (c + 2 * B) d
  hi : ∀ c, B ∣ c → a ≤ c → SortedIn lt c (min (c + B) n) d
  o1 : ∀ c, 2 * B ∣ c → OB lt0 lt n c d
  o2 : ∀ c, B ∣ c → a ≤ c → OB lt0 lt n c d
theorem Blocks.start (h : Blocks lt0 lt B n d) : Pass lt0 lt B n 0 d := ⟨Nat.dvd_zero _, fun c _ h1 => absurd h1 (Nat.not_lt_zero c), fun c h1 _ => h.hi c h1, fun c h1 => h.o c (dvd_two h1), fun c h1 _ => h.o c h1⟩
theorem Pass.args (h : Pass lt0 lt B n a d) (hb : b ≤ n) (h1 : a + B < b) (h2 : b = a + 2 * B ∨ (b = n ∧ b ≤ a + 2 * B)) :
    (∀ p q, a ≤ p → p < a + B → a + B ≤ q → q < b → lt0 d[q]! d[p]! = lt d[q]! d[p]!) ∧ SortedIn lt a (a + B) d ∧ SortedIn lt (a + B) b d := by
  have hB : B ∣ a := dvd_two h.al
  have hB2 : B ∣ a + B := Nat.dvd_add hB (Nat.dvd_refl B)
  refine ⟨fun p q _ k2 k3 k4 => h.o2 (a + B) hB2 (by omega) p q k2 k3 (by omega), ?_, ?_⟩
  · have := h.hi a hB (Nat.le_refl _); rw [show min (a + B) n = a + B by omega] at this; exact this
  · have := h.hi (a + B) hB2 (by omega); rw [show min (a + B + B) n = b by omega] at this; exact this
theorem Pass.step (h : Pass lt0 lt B n a d) (hB : 0 < B) (hn : n = d.size) (hb : a + 2 * B ≤ n) (hp : PermIn a (a + 2 * B) d d') (hs : SortedIn lt a (a + 2 * B) d') : Pass lt0 lt B n (a + 2 * B) d' := by
  refine ⟨Nat.dvd_add h.al (Nat.dvd_refl _), fun c h1 h2 => ?_, fun c h1 h2 => ?_, fun c h1 => ?_, fun c h1 h2 => ?_⟩
  · rcases Nat.lt_or_ge c a with h3 | h3
    · have := dvd_le h1 h.al h3
      exact sorted_same (h.lo c h1 h3) fun i k1 k2 => hp.2.1 i (by omega)
    · have h4 : c = a := by
        rcases Nat.lt_or_ge a c with h5 | h5
        · have := dvd_le h.al h1 h5; omega
        · omega
      rw [h4]; exact hs
  · exact sorted_same (h.hi c h1 (by omega)) fun i k1 k2 => hp.2.1 i (by omega)
  · refine OB.keep hp (by omega) ?_ (h.o1 c h1) hb
    rcases Nat.lt_or_ge a c with h5 | h5
    · exact Or.inr (dvd_le h.al h1 h5)
    · exact Or.inl h5
  · exact OB.keep hp (by omega) (Or.inr h2) (h.o2 c h1 (by omega)) hb
theorem Pass.last (h : Pass lt0 lt B n a d) (hB : 0 < B) (hn : n = d.size) (ha : a ≤ n) (hb : n < a + 2 * B) (hp : PermIn a n d d') (hs : SortedIn lt a n d') : Blocks lt0 lt (2 * B) n d' := by
  refine ⟨fun c h1 => ?_, fun c h1 => ?_⟩
  · rcases Nat.lt_or_ge c a with h3 | h3
    · have := dvd_le h1 h.al h3
      rw [show min (c + 2 * B) n = c + 2 * B by omega]
      exact sorted_same (h.lo c h1 h3) fun i k1 k2 => hp.2.1 i (by omega)
    · rcases Nat.lt_or_ge a c with h5 | h5
      · have := dvd_le h.al h1 h5
        intro i j k1 k2 k3; omega
      · have h4 : c = a := by omega
        rw [h4, show min (a + 2 * B) n = n by omega]; exact hs
  · rcases Nat.lt_or_ge a c with h5 | h5
    · intro p q k1 k2 k3
      have := dvd_le h.al h1 h5
      omega
    · exact OB.keep hp (by omega) (Or.inl h5) (h.o1 c h1) (Nat.le_refl _)
theorem Pass.skip (h : Pass lt0 lt B n a d) (hb : n ≤ a + B) : SortedIn lt a n d := by
  have := h.hi a (dvd_two h.al) (Nat.le_refl _); rw [show min (a + B) n = n by omega] at this; exact this
theorem Blocks.all (h : Blocks lt0 lt B n d) (hb : n ≤ B) : SortedIn lt 0 n d := by
  have := h.hi 0 (Nat.dvd_zero _); rw [show min (0 + B) n = n by omega] at this; exact this
theorem insInner_perm (a i : Nat) : ∀ (j : Nat) (d : Array α), a ≤ j → j ≤ i → i < d.size → PermIn a (i + 1) d (insInner lt a j d)
  | 0, d, _, _, _ => permIn_refl d _ _
  | j + 1, d, h1, h2, h3 => by
    unfold insInner
    split
    · rename_i hc
      simp only [Bool.and_eq_true, decide_eq_true_eq] at hc
      exact permIn_trans _ _ _ a (i + 1) (swp_permIn d a (i + 1) (j + 1) j (by omega) (by omega) (by omega) (by omega) (by omega)) (insInner_perm a i j (swp d (j + 1) j) (by omega) (by omega) (by rw [Sort.size_swp]; exact h3))
    · exact permIn_refl d _ _
theorem insInner_agree (a : Nat) : ∀ (j : Nat) (d : Array α), j < d.size → (∀ p, a ≤ p → p < j → lt0 d[j]! d[p]! = lt d[j]! d[p]!) → insInner lt0 a j d = insInner lt a j d
  | 0, d, _, _ => rfl
  | j + 1, d, hj, h => by
    unfold insInner
    by_cases hc : a < j + 1
    · rw [h j (by omega) (by omega)]
      split
      · refine insInner_agree a j (swp d (j + 1) j) (by rw [Sort.size_swp]; omega) fun p h1 h2 => ?_
        rw [swp_get d (by omega) (by omega), swp_get d (by omega) (by omega)]
        rw [if_pos rfl, if_neg (by omega), if_neg (by omega)]
        exact h p h1 (by omega)
      · rfl
    · rw [if_neg (by simp; omega), if_neg (by simp; omega)]
theorem insOuter_agree (a b : Nat) : ∀ (m i : Nat) (d : Array α), b - i = m → a < i → b ≤ d.size → (∀ p q, a ≤ p → p < q → i ≤ q → q < b → lt0 d[q]! d[p]! = lt d[q]! d[p]!) → insOuter lt0 a b i d = insOuter lt a b i d
  | 0, i, d, hm, _, _, _ => by rw [insOuter_stop lt0 a b i d (by omega), insOuter_stop lt a b i d (by omega)]
  | m + 1, i, d, hm, hai, hb, h => by
    rw [insOuter_go lt0 a b i d (by omega), insOuter_go lt a b i d (by omega), insInner_agree a i d (by omega) (fun p h1 h2 => h p i h1 h2 (Nat.le_refl _) (by omega))]
    have hp : PermIn a (i + 1) d (insInner lt a i d) := insInner_perm a i i d (by omega) (Nat.le_refl _) (by omega)
    refine insOuter_agree a b m (i + 1) _ (by omega) (by omega) (by rw [hp.1]; exact hb) fun p q h1 h2 h3 h4 => ?_
    rw [hp.2.1 q (by omega)]
    by_cases hpi : p < i + 1
    · exact permIn_all d _ a (i + 1) (fun x => lt0 d[q]! x = lt d[q]! x) (by omega) hp (fun r k1 k2 => h r q k1 (by omega) (by omega) h4) p h1 hpi
    · rw [hp.2.1 p (by omega)]; exact h p q h1 h2 (by omega) h4
theorem insertion_agree (hb : b ≤ d.size) (h : ∀ p q, a ≤ p → p < q → q < b → lt0 d[q]! d[p]! = lt d[q]! d[p]!) : Sort.insertionSort lt0 d a b = Sort.insertionSort lt d a b :=
  insOuter_agree a b _ (a + 1) d rfl (by omega) hb fun p q h1 h2 _ h4 => h p q h1 h2 h4
/-- Within the first pass: below a the blocks are sorted, from a on nothing has been turned. -/
structure First (lt0 lt : α → α → Bool) (B a : Nat) (d dk : Array α) : Prop where
  sz : dk.size = d.size
  p : PermIn 0 d.size d dk
  al : B ∣ a
  lo : ∀ c, B ∣ c → c < a → SortedIn lt c (c + B) dk
  o : ∀ c, B ∣ c → OB lt0 lt d.size c dk
  same : ∀ q, a ≤ q → dk[q]! = d[q]!
theorem First.start (hord : ∀ p q, p < q → q < d.size → lt0 d[q]! d[p]! = lt d[q]! d[p]!) : First lt0 lt B 0 d d :=
  ⟨rfl, permIn_refl d _ _, Nat.dvd_zero _, fun c _ h => absurd h (Nat.not_lt_zero c), fun c _ p q h1 h2 h3 => hord p q (by omega) h3, fun _ _ => rfl⟩
theorem First.agree (h : First lt0 lt B a d dk) (hord : ∀ p q, p < q → q < d.size → lt0 d[q]! d[p]! = lt d[q]! d[p]!) (hb : b ≤ d.size) : Sort.insertionSort lt0 dk a b = Sort.insertionSort lt dk a b :=
  insertion_agree (by rw [h.sz]; exact hb) fun p q h1 h2 h3 => by rw [h.same p h1, h.same q (by omega)]; exact hord p q h2 (by omega)
theorem First.step (h : First lt0 lt B a d dk) (hO : SWO lt) (hB : 0 < B) (hb : a + B ≤ d.size) : First lt0 lt B (a + B) d (Sort.insertionSort lt dk a (a + B)) := by
  obtain ⟨hp, hs⟩ := insertionSort_holds hO dk a (a + B) (by omega) (by rw [h.sz]; exact hb)
  refine ⟨hp.1.trans h.sz, permIn_trans _ _ _ _ _ h.p (perm_mono (Nat.zero_le _) hb (by rw [h.sz]; exact Nat.le_refl _) hp), Nat.dvd_add h.al (Nat.dvd_refl _), fun c h1 h2 => ?_, fun c h1 => ?_, fun q hq => ?_⟩
  · rcases Nat.lt_or_ge c a with h3 | h3
    · have := dvd_le h1 h.al h3
      exact sorted_same (h.lo c h1 h3) fun i k1 k2 => hp.2.1 i (by omega)
    · have h4 : c = a := by
        rcases Nat.lt_or_ge a c with h5 | h5
        · have := dvd_le h.al h1 h5; omega
        · omega
      rw [h4]; exact hs
  · refine OB.keep hp (by rw [h.sz]; exact hb) ?_ (h.o c h1) hb
    rcases Nat.lt_or_ge a c with h5 | h5
    · exact Or.inr (dvd_le h.al h1 h5)
    · exact Or.inl h5
  · rw [hp.2.1 q (by omega)]; exact h.same q (by omega)
theorem First.last (h : First lt0 lt B a d dk) (hO : SWO lt) (hB : 0 < B) (ha : a ≤ d.size) (hb : d.size < a + B) : Blocks lt0 lt B d.size (Sort.insertionSort lt dk a d.size) ∧ PermIn 0 d.size d (Sort.insertionSort lt dk a d.size) := by
  obtain ⟨hp, hs⟩ := insertionSort_holds hO dk a d.size ha (by rw [h.sz]; exact Nat.le_refl _)
  refine ⟨⟨fun c h1 => ?_, fun c h1 => ?_⟩, permIn_trans _ _ _ _ _ h.p (perm_mono (Nat.zero_le _) (Nat.le_refl _) (by rw [h.sz]; exact Nat.le_refl _) hp)⟩
  · rcases Nat.lt_or_ge c a with h3 | h3
    · have := dvd_le h1 h.al h3
      rw [show min (c + B) d.size = c + B by omega]
      exact sorted_same (h.lo c h1 h3) fun i k1 k2 => hp.2.1 i (by omega)
    · rcases Nat.lt_or_ge a c with h5 | h5
      · have := dvd_le h.al h1 h5
        intro i j k1 k2 k3; omega
      · have h4 : c = a := by omega
        rw [h4, show min (a + B) d.size = d.size by omega]; exact hs
  · rcases Nat.lt_or_ge a c with h5 | h5
    · intro p q k1 k2 k3
      have := dvd_le h.al h1 h5
      omega
    · exact OB.keep hp (by rw [h.sz]; exact Nat.le_refl _) (Or.inl h5) (h.o c h1) (Nat.le_refl _)
end
set_option maxHeartbeats 8000000 in
theorem stable_walk (hk : ∀ x, (enc x).length = k) (lt0 lt : α → α → Bool) (hO : SWO lt) (g : Nat) (lb : Array Value) (sf : Nat) (sb : Array Value) (hg : Callable Try.prog g) (w0 : World) (d : Array α) (hless : LessAt g lb enc k lt0 blk off d.size w0) (hswap : SwapAt sf sb enc k blk off d.size) (hH : HoldsK enc k w0 blk off d) (hb : blk < w0.heap.size)
    (hsz : d.size < 1152921504606846976) (hord : ∀ p q, p < q → q < d.size → lt0 d[q]! d[p]! = lt d[q]! d[p]!) :
    Calls Try.prog 74 #[.agg #[.func (.func g) #[] lb, .func (.func sf) #[] sb], .int .i64 d.size] w0 fun e w' =>
      e = .returned (.tuple #[]) ∧ ∃ d', Fam enc k blk off w0 d' w' ∧ d'.size = d.size ∧ PermIn 0 d.size d d' ∧ SortedIn lt 0 d.size d' := by
  have HF := Box.mk (boxW_fam hH g lb sf sb)
  have hb1 : blk < (boxW w0 g lb sf sb).heap.size := by rw [boxW_size]; omega
  have HH := Box.mk (HF.out.holds hb hH rfl)
  have HS := Box.mk hswap
  have HL := Box.mk (hless.on hb HF.out rfl)
  have HO := Box.mk hord
  clear hswap hless hord
  generalize hn : d.size = n at hsz
  have HN := Box.mk hn
  clear hn
  go_enter Try.func74, Try.ntmps74
  go_wp2
  go_loopw [5, 6] (fun v5 v6 wr => ∃ (a : Nat) (dk : Array α), v5 = .int .i64 a ∧ v6 = .int .i64 ((a : Int) + 20) ∧ a ≤ n ∧ Box (Fam enc k blk off (boxW w0 g lb sf sb) dk wr) ∧ Box (First lt0 lt 20 a d dk)) (fun v5 _ _ => n - (intOf v5).toNat)
  case atStart => exact ⟨0, d, rfl, rfl, by omega, ⟨Fam.start HH.out⟩, ⟨First.start HO.out⟩⟩
  case round =>
    obtain ⟨a, dk, rfl, rfl, han, HW, HI⟩ := hrel
    have c := boxW_cell hb g lb sf sb HW.out
    have c0 := c.1
    have c1 := c.2
    clear c
    by_cases hfit : a + 20 ≤ n
    · have hc := insertion_walk hk lt0 g lb sf sb wr dk hg (by rw [HI.out.sz]; exact HL.out.on hb1 HW.out HI.out.sz) (by rw [HI.out.sz]; exact HS.out) (HW.out.holds hb1 HH.out HI.out.sz) (by have := HW.out.size; omega) a (a + 20) (by omega) (by rw [HI.out.sz, HN.out]; exact hfit) (by rw [HI.out.sz, HN.out]; omega)
      rw [show ((a + 20 : Nat) : Int) = (a : Int) + 20 by omega, HI.out.agree HO.out (by rw [HN.out]; exact hfit)] at hc
      have HQ := Box.mk hc
      have HI2 := Box.mk (HI.out.step hO (by omega) (by rw [HN.out]; exact hfit))
      clear hc
      go_wp2_with (go_at_call 102; refine HQ.out.mono ?_; rintro e w1 ⟨rfl, f1⟩; have FA := Box.mk (HW.out.trans hb1 f1 (HI2.out.sz.trans HI.out.sz.symm)); clear f1)
      go_roundw
      case rel => exact ⟨a + 20, _, by go_num, by go_num, hfit, FA, HI2⟩
      case measure => simp [intOf]; omega
    · have hc := insertion_walk hk lt0 g lb sf sb wr dk hg (by rw [HI.out.sz]; exact HL.out.on hb1 HW.out HI.out.sz) (by rw [HI.out.sz]; exact HS.out) (HW.out.holds hb1 HH.out HI.out.sz) (by have := HW.out.size; omega) a n han (by rw [HI.out.sz, HN.out]; exact Nat.le_refl _) (by rw [HI.out.sz, HN.out]; omega)
      rw [HI.out.agree HO.out (by rw [HN.out]; exact Nat.le_refl _)] at hc
      have HQ := Box.mk hc
      have HI2 := HI.out.last hO (by omega) (by rw [HN.out]; exact han) (by rw [HN.out]; omega)
      rw [HN.out] at HI2
      have HI3 := Box.mk HI2
      clear hc HI2
      go_wp2_with (go_at_call 102; refine HQ.out.mono ?_; rintro e w1 ⟨rfl, f1⟩; have FA := Box.mk (HW.out.trans hb1 f1 (by rw [HI3.out.2.1, HI.out.sz])); clear f1)
      go_loopw [4] (fun v4 wr => ∃ (B : Nat) (dj : Array α), v4 = .int .i64 B ∧ 0 < B ∧ (B ≤ 20 ∨ B < 2 * n) ∧ Box (Fam enc k blk off (boxW w0 g lb sf sb) dj wr) ∧ Box (dj.size = d.size) ∧ Box (Blocks lt0 lt B n dj ∧ PermIn 0 n d dj)) (fun v4 _ => n - (intOf v4).toNat)
      case atStart => exact ⟨20, _, rfl, by omega, by omega, FA, ⟨HI3.out.2.1⟩, HI3⟩
      case round =>
        obtain ⟨B, dj, rfl, hB0, hBn, FJ, SJ, HJ⟩ := hrel
        clear c0 c1
        by_cases hbn : B < n
        · go_wp2
          go_loopw [5, 6] (fun v5 v6 wr => ∃ (a : Nat) (dl : Array α), v5 = .int .i64 a ∧ v6 = .int .i64 ((a : Int) + 2 * B) ∧ a ≤ n ∧ Box (Fam enc k blk off (boxW w0 g lb sf sb) dl wr) ∧ Box (dl.size = d.size) ∧ Box (Pass lt0 lt B n a dl ∧ PermIn 0 n d dl)) (fun v5 _ _ => n - (intOf v5).toNat)
          case atStart => exact ⟨0, dj, rfl, by go_num, by omega, FJ, SJ, ⟨HJ.out.1.start, HJ.out.2⟩⟩
          case round =>
            obtain ⟨a, dl, rfl, rfl, han, FL, SL, HP⟩ := hrel
            have c := boxW_cell hb g lb sf sb FL.out
            have c0 := c.1
            have c1 := c.2
            clear c
            by_cases hfit : a + 2 * B ≤ n
            · have PG := HP.out.1.args (b := a + 2 * B) hfit (by omega) (Or.inl rfl)
              have hc := symMerge_walk hk lt0 lt hO g lb sf sb hg (2 * B) wr dl (by rw [SL.out]; exact HL.out.on hb1 FL.out SL.out) (by rw [SL.out]; exact HS.out) (FL.out.holds hb1 HH.out SL.out) (by have := FL.out.size; omega) a (a + B) (a + 2 * B) (by omega) (by omega) (by rw [SL.out, HN.out]; omega) (by rw [SL.out, HN.out]; omega) (by omega) PG.1 PG.2.1 PG.2.2
              rw [show ((a + B : Nat) : Int) = (a : Int) + B by omega, show ((a + 2 * B : Nat) : Int) = (a : Int) + 2 * B by omega] at hc
              have HQ := Box.mk hc
              clear hc PG
              go_wp2_with (go_at_call 103; refine HQ.out.mono ?_; rintro e w1 ⟨rfl, dM, f1, f2, f3, f4⟩; have FA := Box.mk (FL.out.trans hb1 f1 f2); have SA := Box.mk (f2.trans SL.out); have PA := Box.mk f3; have RA := Box.mk f4; clear f1 f2 f3 f4)
              go_roundw
              case rel =>
                exact ⟨a + 2 * B, dM, by go_num, by go_num, hfit, FA, SA, ⟨HP.out.1.step hB0 (by rw [SL.out, HN.out]) hfit PA.out RA.out, permIn_trans d dl dM _ _ HP.out.2 (perm_mono (by omega) hfit (by rw [SL.out, HN.out]; exact Nat.le_refl _) PA.out)⟩⟩
              case measure => simp [intOf]; omega
            · by_cases hmn : a + B < n
              · have PG := HP.out.1.args (b := n) (Nat.le_refl _) hmn (Or.inr ⟨rfl, by omega⟩)
                have hc := symMerge_walk hk lt0 lt hO g lb sf sb hg n wr dl (by rw [SL.out]; exact HL.out.on hb1 FL.out SL.out) (by rw [SL.out]; exact HS.out) (FL.out.holds hb1 HH.out SL.out) (by have := FL.out.size; omega) a (a + B) n (by omega) (by omega) (by rw [SL.out, HN.out]; omega) (by rw [SL.out, HN.out]; omega) (by omega) PG.1 PG.2.1 PG.2.2
                rw [show ((a + B : Nat) : Int) = (a : Int) + B by omega] at hc
                have HQ := Box.mk hc
                clear hc PG
                go_wp2_with (go_at_call 103; refine HQ.out.mono ?_; rintro e w1 ⟨rfl, dM, f1, f2, f3, f4⟩; have FA := Box.mk (FL.out.trans hb1 f1 f2); have SA := Box.mk (f2.trans SL.out); have PA := Box.mk f3; have RA := Box.mk f4; clear f1 f2 f3 f4)
                go_roundw
                case rel =>
                  exact ⟨2 * B, dM, by go_num, by omega, by omega, FA, SA, ⟨HP.out.1.last hB0 (by rw [SL.out, HN.out]) han (by omega) PA.out RA.out, permIn_trans d dl dM _ _ HP.out.2 (perm_mono (by omega) (Nat.le_refl _) (by rw [SL.out, HN.out]; exact Nat.le_refl _) PA.out)⟩⟩
                case measure => simp [intOf]; omega
              · go_wp2
                go_roundw
                case rel =>
                  exact ⟨2 * B, dl, by go_num, by omega, by omega, FL, SL, ⟨HP.out.1.last hB0 (by rw [SL.out, HN.out]) han (by omega) (permIn_refl dl _ _) (HP.out.1.skip (by omega)), HP.out.2⟩⟩
                case measure => simp [intOf]; omega
        · go_wp2
          go_end0
          exact ⟨rfl, dj, HF.out.trans hb FJ.out SJ.out, SJ.out.trans HN.out, HJ.out.2, HJ.out.1.all (by omega)⟩
end
end Go.Proofs.Ytjngmlkaijpbgaa
namespace Go.Proofs.Ytjngmlkaijpbgaa
open Go.E
set_option maxRecDepth 100000
set_option maxHeartbeats 4000000
open Go Go.Sort Go.RowKit Go.Lib Go.Shelf Go.Proofs
section
variable {α : Type} [Inhabited α] {enc : α → List Value} {k blk off : Nat}
/-- The stable order. -/
def stS (lt : α → α → Bool) (d : Array α) : Array α := (d.toList.mergeSort (fun x y => !lt y x)).toArray
theorem stS_size (lt : α → α → Bool) (d : Array α) : (stS lt d).size = d.size := by simp [stS]
/-- Elements with their places: equals are told apart by their place. -/
def ltT (lt : α → α → Bool) (x y : α × Nat) : Bool := lt x.1 y.1 || (!lt y.1 x.1 && decide (x.2 < y.2))
theorem ltT_true {lt : α → α → Bool} {x y : α × Nat} : ltT lt x y = true ↔ lt x.1 y.1 = true ∨ (lt y.1 x.1 = false ∧ x.2 < y.2) := by simp [ltT]
theorem ltT_false {lt : α → α → Bool} {x y : α × Nat} : ltT lt x y = false ↔ lt x.1 y.1 = false ∧ (lt y.1 x.1 = true ∨ y.2 ≤ x.2) := by
  simp only [ltT, Bool.or_eq_false_iff, Bool.and_eq_false_iff, Bool.not_eq_false', decide_eq_false_iff_not, Nat.not_lt]
theorem ntrans_t {lt : α → α → Bool} (hO : SWO lt) {x y z : α} (h1 : lt x y = true) (h2 : lt z y = false) : lt x z = true := by
  cases h : lt x z with
  | true => rfl
  | false => rw [hO.ntrans _ _ _ h h2] at h1; cases h1
theorem ntrans_t' {lt : α → α → Bool} (hO : SWO lt) {x y z : α} (h1 : lt y x = false) (h2 : lt y z = true) : lt x z = true := by
  cases h : lt x z with
  | true => rfl
  | false => rw [hO.ntrans _ _ _ h1 h] at h2; cases h2
theorem swo_ltT {lt : α → α → Bool} (hO : SWO lt) : SWO (ltT lt) := by
  refine ⟨fun x => ltT_false.2 ⟨hO.irrefl _, Or.inr (Nat.le_refl _)⟩, fun x y z h1 h2 => ?_, fun x y z h1 h2 => ?_⟩
  · rw [ltT_true] at h1 h2 ⊢
    rcases h1 with h1 | ⟨h1, t1⟩ <;> rcases h2 with h2 | ⟨h2, t2⟩
    · exact Or.inl (hO.trans _ _ _ h1 h2)
    · exact Or.inl (ntrans_t hO h1 h2)
    · exact Or.inl (ntrans_t' hO h1 h2)
    · exact Or.inr ⟨hO.ntrans _ _ _ h2 h1, by omega⟩
  · rw [ltT_false] at h1 h2 ⊢
    obtain ⟨h1, g1⟩ := h1
    obtain ⟨h2, g2⟩ := h2
    refine ⟨hO.ntrans _ _ _ h1 h2, ?_⟩
    rcases g1 with g1 | g1
    · exact Or.inl (ntrans_t' hO h2 g1)
    · rcases g2 with g2 | g2
      · exact Or.inl (ntrans_t hO g2 h1)
      · exact Or.inr (by omega)
theorem ltT_le {lt : α → α → Bool} (hO : SWO lt) : (fun x y => !ltT lt y x) = List.zipIdxLE (fun x y => !lt y x) := by
  funext x y
  simp only [List.zipIdxLE, ltT]
  by_cases h1 : lt y.1 x.1 = true <;> by_cases h2 : lt x.1 y.1 = true <;> simp [h1, h2]
  rw [Bool.eq_iff_iff]; simp
def tagged (d : Array α) : Array (α × Nat) := d.toList.zipIdx.toArray
theorem tagged_size (d : Array α) : (tagged d).size = d.size := by simp [tagged]
theorem tagged_get (d : Array α) {i : Nat} (h : i < d.size) : (tagged d)[i]! = (d[i]!, i) := by
  rw [getElem!_pos (tagged d) i (by rw [tagged_size]; exact h), getElem!_pos d i h]
  simp [tagged]
theorem tagged_agree (lt : α → α → Bool) (d : Array α) : ∀ p q, p < q → q < (tagged d).size → (fun x y : α × Nat => lt x.1 y.1) (tagged d)[q]! (tagged d)[p]! = ltT lt (tagged d)[q]! (tagged d)[p]! := by
  intro p q h1 h2
  rw [tagged_size] at h2
  rw [tagged_get d h2, tagged_get d (show p < d.size by omega)]
  simp only [ltT]
  rw [decide_eq_false (by omega)]; simp
theorem fsts_get (d : Array (α × Nat)) (i : Nat) : (d.map (·.1))[i]! = d[i]!.1 := by
  by_cases h : i < d.size
  · rw [getElem!_pos (d.map (·.1)) i (by simpa using h), getElem!_pos d i h]; simp
  · rw [getElem!_neg (d.map (·.1)) i (by simpa using h), getElem!_neg d i h]; rfl
theorem fsts_tagged (d : Array α) : (tagged d).map (·.1) = d := by
  simp [tagged]
theorem flatK_fst (d : Array (α × Nat)) : flatK (fun x => enc x.1) k d = flatK enc k (d.map (·.1)) := by
  unfold flatK
  rw [Array.size_map]
  congr 1
  funext t
  rw [fsts_get]
theorem sorted_tags (lt : α → α → Bool) (hO : SWO lt) (d : Array α) (d' : Array (α × Nat)) (hp : PermIn 0 (tagged d).size (tagged d) d') (hs : SortedIn (ltT lt) 0 (tagged d).size d') : d'.map (·.1) = stS lt d := by
  have hperm : d'.toList.Perm (tagged d).toList := by
    obtain ⟨hsz, _, hperm⟩ := hp
    have e1 : d'.extract 0 (tagged d).size = d' := by rw [← hsz]; exact Array.extract_size
    rw [e1, Array.extract_size] at hperm
    exact hperm
  have hT := swo_ltT hO
  have e : d'.toList = (d.toList.zipIdx).mergeSort (List.zipIdxLE (fun x y => !lt y x)) := by
    rw [← ltT_le hO]
    refine List.Perm.eq_of_pairwise (le := fun x y => (!ltT lt y x) = true) ?_ ?_ ?_ (hperm.trans (by simpa [tagged] using (List.mergeSort_perm d.toList.zipIdx _).symm))
    · rintro ⟨a, i⟩ ⟨b, j⟩ ha hb h1 h2
      have ha' : (a, i) ∈ d.toList.zipIdx := by have := hperm.subset ha; simpa [tagged] using this
      have hb' : (b, j) ∈ d.toList.zipIdx := List.mem_mergeSort.1 hb
      simp only [Bool.not_eq_true'] at h1 h2
      rw [ltT_false] at h1 h2
      simp only at h1 h2
      have hij : i = j := by
        obtain ⟨k1, k2⟩ := h1
        obtain ⟨k3, k4⟩ := h2
        rw [k3] at k2
        rw [k1] at k4
        simp at k2 k4
        omega
      subst hij
      have m1 := List.mem_zipIdx ha'
      have m2 := List.mem_zipIdx hb'
      simp_all
    · rw [List.pairwise_iff_getElem]
      intro i j hi hj hij
      have hi' : i < d'.size := by simpa using hi
      have hj' : j < d'.size := by simpa using hj
      have := hs i j (Nat.zero_le _) hij (by rw [← hp.1]; exact hj')
      rw [getElem!_pos d' j hj', getElem!_pos d' i hi'] at this
      simpa using this
    · refine List.pairwise_mergeSort ?_ ?_ _
      · intro a b c h1 h2
        simp only [Bool.not_eq_true'] at h1 h2 ⊢
        exact hT.ntrans _ _ _ h2 h1
      · intro a b
        cases h : ltT lt b a with
        | false => rfl
        | true => simp [hT.asymmA h]
  unfold stS
  rw [← List.mergeSort_zipIdx, ← e]
  exact (Array.toList_inj).1 (by simp)
/-- stable_func: it puts the row into the stable order. -/
theorem stable_tags (hk : ∀ x, (enc x).length = k) (lt : α → α → Bool) (hO : SWO lt) (g : Nat) (lb : Array Value) (sf : Nat) (sb : Array Value) (hg : Callable Try.prog g) (w0 : World) (d : Array α) (hless : LessAt g lb enc k lt blk off d.size w0) (hswap : SwapAt sf sb enc k blk off d.size) (hH : HoldsK enc k w0 blk off d) (hb : blk < w0.heap.size)
    (hsz : d.size < 1152921504606846976) :
    Calls Try.prog 74 #[.agg #[.func (.func g) #[] lb, .func (.func sf) #[] sb], .int .i64 d.size] w0 fun e w' =>
      e = .returned (.tuple #[]) ∧ Fam enc k blk off w0 (stS lt d) w' := by
  have fam : ∀ dk W, Fam (fun x : α × Nat => enc x.1) k blk off w0 dk W → Fam enc k blk off w0 (dk.map (·.1)) W := by
    rintro dk W ⟨q, os, rfl⟩
    exact ⟨q, os, by unfold putRowK; rw [flatK_fst]⟩
  have hold : ∀ dk W, HoldsK (fun x : α × Nat => enc x.1) k W blk off dk → HoldsK enc k W blk off (dk.map (·.1)) := by
    intro dk W h
    unfold HoldsK at h ⊢
    rw [← flatK_fst]; exact h
  have h := stable_walk (enc := fun x : α × Nat => enc x.1) (fun x => hk x.1) (fun x y => lt x.1 y.1) (ltT lt) (swo_ltT hO) g lb sf sb hg w0 (tagged d) (blk := blk) (off := off)
    (fun W dk hF hs i j hi hj => by
      rw [tagged_size] at hs hi hj
      have := hless W _ (fam dk W hF) (by simpa using hs) i j hi hj
      rw [fsts_get, fsts_get] at this
      exact this)
    (fun W dk hF hs i j hi hj hij => by
      rw [tagged_size] at hs hi hj
      have := hswap W _ (hold dk W hF) (by simpa using hs) i j hi hj hij
      rw [fsts_get, fsts_get] at this
      exact this)
    (by unfold HoldsK at hH ⊢; rw [flatK_fst, fsts_tagged]; exact hH) hb (by rw [tagged_size]; exact hsz) (tagged_agree lt d)
  rw [tagged_size] at h
  refine h.mono ?_
  rintro e w' ⟨rfl, d', f1, f2, f3, f4⟩
  refine ⟨rfl, ?_⟩
  rw [← sorted_tags lt hO d d' (by rw [tagged_size]; exact f3) (by rw [tagged_size]; exact f4)]
  exact fam d' w' f1
end
end Go.Proofs.Ytjngmlkaijpbgaa
namespace Go.Proofs.Ytjngmlkaijpbgaa
open Go.E
set_option maxRecDepth 100000
set_option maxHeartbeats 4000000
open Go Go.Sort Go.RowKit Go.Lib Go.Shelf Go.Proofs
section
variable {α : Type} [Inhabited α] {enc : α → List Value} {k blk off : Nat}
noncomputable def boundS (e : TypeId) (ie : TypeInfo) (ke : Nat) (p : Option Addr) (n c : Nat) : Array Value :=
  if swapperK n ie ke ≤ 2 then #[] else #[.slice p n c, typeHandle Try.prog e]
noncomputable def worldS (t : TypeId) (p : Option Addr) (n c : Nat) (w : World) : World :=
  (w.alloc (.cells #[.slice p n c] t)).alloc (.cells #[.pointer (some ⟨Try.prog.globals.size, t, none⟩), .pointer (some ⟨w.heap.size, 0, none⟩), .int .u64 151] 90)
set_option maxHeartbeats 4000000 in
theorem sliceStable_of (t e : TypeId) (i ie : TypeInfo) (hi : Try.prog.info? t = some i) (hd : i.desc = .slice e) (hpk : Try.prog.packed t = false) (hie : Try.prog.info? e = some ie) (ke : Nat) (hke : ∀ w, (Extern.Rtype.kind e).run Try.prog w = .ok ke w)
    (p : Option Addr) (n c : Nat) (hn : n < 1152921504606846976) (f : Nat) (hf : Try.prog.funcs.findIdx? (·.name == "internal/reflectlite" ++ ".Swapper$" ++ toString (swapperK n ie ke)) = some f) (lf : Fn) (la lb : Array Value) (w : World) (R : World → Prop)
    (hp : Calls Try.prog 74 #[.agg #[.func lf la lb, .func (.func f) #[] (boundS e ie ke p n c)], .int .i64 n] (worldS t p n c w) fun e w' => e = .returned (.tuple #[]) ∧ R w') :
    Calls Try.prog 55 #[.iface t (.slice p n c), .func lf la lb] w fun e w' => e = .returned (.tuple #[]) ∧ R w' := by
  have hv := run_valueOf_slice (P := Try.prog) t e i hi hd p n c w
  have hs := fun w => run_swapper_slice (P := Try.prog) t e i ie hi hd hie ke hke p n c f hf w
  have hl := fun a w ha => run_valueLen_slice (P := Try.prog) t e i hi hd hpk a p n c w ha
  unfold boundS worldS at hp
  generalize (if swapperK n ie ke ≤ 2 then (#[] : Array Value) else #[.slice p n c, typeHandle Try.prog e]) = B at hs hp
  have hz : Try.prog.globals.size = 0 := by kernel_rfl
  simp only [typeHandle, hz] at hv hl hp
  have HP := Box.mk hp
  have HV := Box.mk hv
  have HS := Box.mk hs
  have HL := Box.mk hl
  clear hp hv hs hl
  go_enter Try.func55, Try.ntmps55
  go_wp2
  rw [run_callFunc_extern Try.func72 (by kernel_rfl) (by kernel_rfl) (by kernel_rfl) (e := fun args => Extern.ReflectliteValue.unpack (args.getD 0 (.tuple #[]))) (by kernel_rfl),
    show Sem.run Try.prog ((fun args : Array Value => Extern.ReflectliteValue.unpack (args.getD 0 (.tuple #[]))) #[.iface t (.slice p n c)]) w = _ from HV.out]
  simp only [Result.andThen]
  rw [Oper.upon_value]
  go_wp2
  rw [run_callFunc_extern Try.func73 (by kernel_rfl) (by kernel_rfl) (by kernel_rfl) (e := Extern.ReflectliteSwapper.swapper "internal/reflectlite" (Extern.ReflectliteValue.valueError "Swapper")) (by kernel_rfl), HS.out]
  simp only [Result.andThen]
  rw [Oper.upon_value]
  go_wp2
  rw [run_callFunc_extern Try.func75 (by kernel_rfl) (by kernel_rfl) (by kernel_rfl) (e := Extern.ReflectliteValue.method (Extern.ReflectliteValue.valueError "reflectlite.Value.Len" 0) Extern.ReflectliteValue.len) (by kernel_rfl),
    HL.out _ _ (by simp)]
  simp only [Result.andThen]
  rw [Oper.upon_value]
  go_wp2_with (go_at_call 74; refine HP.out.mono ?_; rintro e w' ⟨rfl, hR⟩; have HR := Box.mk hR; clear hR)
  go_end0
  exact ⟨rfl, HR.out⟩
theorem swapAt_literal (gS : Bool) (sf : Nat) (hx : ∀ args W, (callFunc sf args).run Try.prog W = ((Extern.ReflectliteSwapper.swap gS args).run Try.prog W).andThen fun v w' => .ok (.value v) w')
    (e : TypeId) (ie : TypeInfo) (hie : Try.prog.info? e = some ie) (hk : ∀ x, (enc x).length = k) (hs : ie.size = k) (hagg : ∀ w, (isAgg e).run Try.prog w = .ok true w) (h1 : ∀ x, ∀ v ∈ enc x, v.oneCell' = true) (n c : Nat) :
    SwapAt sf #[.slice (some ⟨blk, off, none⟩) n c, typeHandle Try.prog e] enc k blk off n := by
  intro W dk hH hsz i j hi hj _
  subst hs
  have cc : ∀ x, x < dk.size → ∀ u v, (enc dk[x]!)[u]? = some v → W.cell? ⟨blk, off + x * ie.size + u, none⟩ = some v := fun x hx u v h => by
    have hu : u < ie.size := by rw [← hk dk[x]!]; exact (List.getElem?_eq_some_iff.mp h).1
    rw [(hH.cell hx hu).1]; simp [h]
  have := run_swap_cells (P := Try.prog) gS e ie hie hagg blk off n c i j hi hj (enc dk[i]!) (enc dk[j]!) (hk _) (hk _) (h1 _) (h1 _) W (cc i (by omega)) (cc j (by omega))
    (fun u hu => (hH.cell (by omega) hu).2) (fun u hu => (hH.cell (by omega) hu).2)
  rw [hx, show (#[Value.int .i64 (i : Int), Value.int .i64 (j : Int)] ++ #[Value.slice (some ⟨blk, off, none⟩) n c, typeHandle Try.prog e]) = #[.int .i64 i, .int .i64 j, .slice (some ⟨blk, off, none⟩) n c, typeHandle Try.prog e] from rfl, this]
  rfl
end
open Go Go.Sort Go.RowKit Go.Lib Go.Shelf Go.Proofs
section
variable {α : Type} [Inhabited α] {enc : α → List Value} {k blk off : Nat}
theorem swK_gt (n : Nat) (ie : TypeInfo) (ke : Nat) (h2 : 2 ≤ n) : ¬ swapperK n ie ke ≤ 2 := by
  have c : (n == 0) = false := by simp; omega
  have d : (n == 1) = false := by simp; omega
  unfold swapperK
  simp only [c, d, Bool.false_eq_true, if_false]
  repeat' split
  all_goals omega
/-- What is asked of the types and of the program, for a slice of type t with elements of type e in k cells. -/
structure SortTy (t e k : Nat) (fN : Nat → Nat) : Prop where
  ex : ∃ i ie ke gS, Try.prog.info? t = some i ∧ i.desc = .slice e ∧ Try.prog.packed t = false ∧ Try.prog.info? e = some ie ∧ (∀ w, (Extern.Rtype.kind e).run Try.prog w = .ok ke w) ∧
    (∀ n, Try.prog.funcs.findIdx? (·.name == "internal/reflectlite" ++ ".Swapper$" ++ toString (swapperK n ie ke)) = some (fN n)) ∧ ie.size = k ∧ (∀ w, (isAgg e).run Try.prog w = .ok true w) ∧
    (∀ n, 2 ≤ n → ∀ args W, (callFunc (fN n) args).run Try.prog W = ((Extern.ReflectliteSwapper.swap gS args).run Try.prog W).andThen fun v w' => .ok (.value v) w')
theorem sliceStable_walk {t e : Nat} {fN : Nat → Nat} (hT : SortTy t e k fN) (hk : ∀ x, (enc x).length = k) (h1 : ∀ x, ∀ v ∈ enc x, v.oneCell' = true) (lt : α → α → Bool) (hO : SWO lt) (g : Nat) (lb : Array Value) (hg : Callable Try.prog g) (c : Nat) (d : Array α)
    (hsz : d.size < 1152921504606846976) (w : World) (hless : LessAt g lb enc k lt blk off d.size w) (hH : HoldsK enc k w blk off d) (hb : blk < w.heap.size) :
    Calls Try.prog 55 #[.iface t (.slice (some ⟨blk, off, none⟩) d.size c), .func (.func g) #[] lb] w fun e w' => e = .returned (.tuple #[]) ∧ Fam enc k blk off w (stS lt d) w' := by
  obtain ⟨i, ie, ke, gS, a1, a2, a3, a4, a5, a6, a7, a8, a9⟩ := hT.ex
  refine sliceStable_of t e i ie a1 a2 a3 a4 ke a5 _ d.size c hsz (fN d.size) (a6 _) (.func g) #[] lb w _ ?_
  have F0 : Fam enc k blk off w d (worldS t (some ⟨blk, off, none⟩) d.size c w) := ((Fam.start hH).alloc _).alloc _
  have hb0 : blk < (worldS t (some ⟨blk, off, none⟩) d.size c w).heap.size := Nat.lt_of_lt_of_le hb F0.size
  refine (stable_tags hk lt hO g lb (fN d.size) _ hg _ d (hless.on hb F0 rfl) ?_ (F0.holds hb hH rfl) hb0 hsz).mono ?_
  · by_cases h2 : 2 ≤ d.size
    · unfold boundS
      rw [if_neg (swK_gt _ _ _ h2)]
      exact swapAt_literal gS (fN d.size) (a9 _ h2) e ie a4 hk a7 a8 h1 d.size c
    · intro W dk _ _ i j hi hj hij
      omega
  · rintro e' w' ⟨rfl, hF⟩
    exact ⟨rfl, F0.trans hb hF (stS_size lt d)⟩
theorem sliceStable_nil {t e : Nat} {fN : Nat → Nat} (hT : SortTy t e k fN) (lt : α → α → Bool) (hO : SWO lt) (hk : ∀ x, (enc x).length = k) (g : Nat) (lb : Array Value) (hg : Callable Try.prog g) (w : World) :
    Calls Try.prog 55 #[.iface t (.slice none 0 0), .func (.func g) #[] lb] w fun e w' => e = .returned (.tuple #[]) ∧ Below w.heap.size w w' := by
  obtain ⟨i, ie, ke, gS, a1, a2, a3, a4, a5, a6, a7, a8, a9⟩ := hT.ex
  refine sliceStable_of t e i ie a1 a2 a3 a4 ke a5 none 0 0 (by omega) (fN 0) (a6 _) (.func g) #[] lb w _ ?_
  have hsize : (worldS t none 0 0 w).heap.size = w.heap.size + 2 := by simp [worldS]
  have hB0 : Below w.heap.size w (worldS t none 0 0 w) := by
    unfold worldS
    exact ((Below.refl _ w).alloc (Nat.le_refl _) _).alloc (by simp) _
  refine (stable_tags (blk := w.heap.size) (off := 0) (enc := enc) hk lt hO g lb (fN 0) _ hg (worldS t none 0 0 w) (#[] : Array α) (fun W dk _ _ i j hi hj => by simp at hi) (fun W dk _ _ i j hi hj => by simp at hi) (fun j hj => by simp at hj) (by rw [hsize]; omega) (by simp)).mono ?_
  rintro e' w' ⟨rfl, hF⟩
  have f := hF.facts
  refine ⟨rfl, hB0.trans ⟨f.1, f.2.1, f.2.2.1, hF.size, fun j hj => f.2.2.2 j (by rw [hsize]; omega) (by omega)⟩⟩
end
end Go.Proofs.Ytjngmlkaijpbgaa
namespace Go.Proofs.Ytjngmlkaijpbgaa
open Go.E
set_option maxRecDepth 100000
set_option maxHeartbeats 4000000
open Go Go.Sort Go.RowKit Go.Lib Go.Shelf Go.Proofs
section
variable {α : Type} [Inhabited α] {encA : α → List AV} {k blk : Nat}
def encV (encA : α → List AV) (x : α) : List Value := (encA x).map valA
theorem encV_flat (d : List α) : (d.map (encV encA)).flatten = ((d.map encA).flatten).map valA := by
  induction d with
  | nil => rfl
  | cons x d ih => simp only [List.map_cons, List.flatten_cons, List.map_append, ih, encV]
/-- 'less', bound to the variable that holds the row, by its contract. -/
theorem lessAt_con (hk : ∀ x, (encA x).length = k) (hp : ∀ x, ∀ a ∈ encA x, plainA a = true) (lt : α → α → Bool) (g : Nat)
    (hcon : ∀ (d : List α) (i j : Nat), i < d.length → j < d.length → Con Try.prog g [.i .i64 i, .i .i64 j, .eptr [.sl (d.map encA)]] (.b (lt d[i]! d[j]!)))
    {w : World} {gv n cap : Nat} (hgv : gv < w.heap.size) (hne : gv ≠ blk) (hb : blk < w.heap.size) (hc : w.cell? ⟨gv, 0, none⟩ = some (.slice (some ⟨blk, 0, none⟩) n cap)) (hn : n ≤ cap) (hm : n ≤ maxLen) (d0 : Array α) (hs0 : d0.size = n) (hH : HoldsK (encV encA) k w blk 0 d0) :
    LessAt g #[.pointer (some ⟨gv, 0, none⟩)] (encV encA) k lt blk 0 n w := by
  intro W dk hF hs i j hi hj
  have hkV : ∀ x, (encV encA x).length = k := fun x => by simp [encV, hk]
  have hHW : HoldsK (encV encA) k W blk 0 dk := hF.holds hb hH (by omega)
  have hsize := hF.size
  have hcW : W.cell? ⟨gv, 0, none⟩ = some (.slice (some ⟨blk, 0, none⟩) n cap) := by rw [hF.cell hgv hne]; exact hc
  have hlen : dk.toList.length = n := by simpa using hs
  have hrel : RelV0 (fun b => b < W.heap.size) W (.sl (dk.toList.map encA)) (.slice (some ⟨blk, 0, none⟩) n cap) := by
    have hl : (dk.toList.map encA).length = n := by simpa using hs
    have hel : ∀ j q, j < n → q < k → ∃ a, (encA dk[j]!)[q]? = some a ∧ plainA a = true ∧ (encV encA dk[j]!)[q]! = valA a := by
      intro j q hj hq
      have hq' : q < (encA dk[j]!).length := by rw [hk]; exact hq
      refine ⟨(encA dk[j]!)[q], List.getElem?_eq_getElem hq', hp _ _ (List.getElem_mem hq'), ?_⟩
      rw [getElem!_pos _ q (by rw [hkV]; exact hq)]
      simp [encV]
    have := RelV0.sl (S := fun b => b < W.heap.size) (w := W) (dk.toList.map encA) (some ⟨blk, 0, none⟩) cap k (fun j q => if j < n ∧ q < k then (encV encA dk[j]!)[q]! else .bool false) (by omega) (by omega) (fun h => by cases h)
      (fun r hr => by obtain ⟨x, _, rfl⟩ := List.mem_map.1 hr; exact hk x)
      (fun _ => ⟨⟨blk, 0, none⟩, rfl, by show blk < W.heap.size; omega, fun j q hj hq => by
        have := (hHW.cell (i := j) (c := q) (by omega) hq).1
        rw [if_pos ⟨by omega, hq⟩, ← this]
        congr 1
        simp [Addr.add]
        try (intros; omega)⟩)
      (fun j q => by
        split
        · rename_i h
          obtain ⟨a, _, h2, h3⟩ := hel j q h.1 h.2
          rw [h3]
          exact plain_one h2
        · rfl)
      (fun j q r a hr ha => by
        have hj : j < n := by have := lt_of_getElem? hr; omega
        rw [List.getElem?_map] at hr
        have e1 : dk.toList[j]? = some dk[j]! := by rw [Array.getElem?_toList, getElem?_pos dk j (by omega), getElem!_pos dk j (by omega)]
        rw [e1, Option.map_some, Option.some.injEq] at hr
        subst hr
        have hq : q < k := by have := lt_of_getElem? ha; rw [hk] at this; exact this
        rw [if_pos ⟨hj, hq⟩]
        obtain ⟨a', h1, h2, h3⟩ := hel j q hj hq
        rw [ha, Option.some.injEq] at h1
        subst h1
        rw [h3]
        exact plain_rel h2)
    rw [hl] at this
    exact this
  have hC := (hcon dk.toList i j (by omega) (by omega)).2 W (fun b => b < W.heap.size) [.int .i64 i, .int .i64 j, .pointer (some ⟨gv, 0, none⟩)] (fun _ h => h) rfl (fun q a u ha hu => by
    match q with
    | 0 => simp only [List.getElem?_cons_zero, Option.some.injEq] at ha hu; subst ha; subst hu; exact .i _ _
    | 1 => simp only [List.getElem?_cons_succ, List.getElem?_cons_zero, Option.some.injEq] at ha hu; subst ha; subst hu; exact .i _ _
    | 2 =>
      simp only [List.getElem?_cons_succ, List.getElem?_cons_zero, Option.some.injEq] at ha hu
      subst ha; subst hu
      refine .eptr _ ⟨gv, 0, none⟩ (fun _ => .slice (some ⟨blk, 0, none⟩) n cap) (by show gv < W.heap.size; omega) (fun q hq => ?_) (fun _ => rfl) (fun q a ha => ?_)
      · have : q = 0 := by simpa using hq
        subst this
        exact hcW
      · have : q = 0 := by have := lt_of_getElem? ha; simpa using this
        subst this
        simp only [List.getElem?_cons_zero, Option.some.injEq] at ha
        subst ha
        exact hrel
    | q + 3 => simp at ha)
  refine hC.mono ?_
  rintro e w' ⟨v, rfl, hr, hB⟩
  cases hr
  refine ⟨?_, hB⟩
  rw [← Array.getElem!_toList, ← Array.getElem!_toList]
theorem ioStable {t e : Nat} {fN : Nat → Nat} (hT : SortTy t e k fN) (hk : ∀ x, (encA x).length = k) (hp : ∀ x, ∀ a ∈ encA x, plainA a = true) (lt : α → α → Bool) (hO : SWO lt) (g : Nat) (hg : Callable Try.prog g) (hS : Callable Try.prog 55)
    (hcon : ∀ (d : List α) (i j : Nat), i < d.length → j < d.length → Con Try.prog g [.i .i64 i, .i .i64 j, .eptr [.sl (d.map encA)]] (.b (lt d[i]! d[j]!))) (d : List α) (hlen : d.length < 1152921504606846976) :
    IOCon Try.prog 55 g t true e k (d.map encA) ((d.mergeSort (fun x y => !lt y x)).map encA) := by
  have hkV : ∀ x, (encV encA x).length = k := fun x => by simp [encV, hk]
  have hone : ∀ x, ∀ v ∈ encV encA x, v.oneCell' = true := by
    intro x v hv
    obtain ⟨a, ha, rfl⟩ := List.mem_map.1 hv
    exact plain_one (hp x a ha)
  have hpl : ∀ l : List α, ∀ a ∈ (l.map encA).flatten, plainA a = true := by
    intro l a ha
    obtain ⟨r, hr, har⟩ := List.mem_flatten.1 ha
    obtain ⟨x, _, rfl⟩ := List.mem_map.1 hr
    exact hp x a har
  refine ⟨hS, by simp, fun r hr => ?_, hpl _, hpl _, fun w base v cv ho hcap => ?_⟩
  · obtain ⟨x, _, rfl⟩ := List.mem_map.1 hr; exact hk x
  · obtain ⟨gv, rfl, q1, q2, q3⟩ := hcap rfl
    simp only [if_true]
    rw [List.length_map] at ho ⊢
    rcases ho.2 with ⟨rfl, h0⟩ | ⟨b, cap, cur, rfl, hb, hh, h1, h2, h3, h4⟩
    · have : d = [] := List.eq_nil_of_length_eq_zero h0
      subst this
      refine (sliceStable_nil (enc := encV encA) hT lt hO hkV g #[.pointer (some ⟨gv, 0, none⟩)] hg w).mono ?_
      rintro e' w' ⟨rfl, hB⟩
      refine ⟨rfl, ⟨by simp, .inl ⟨rfl, rfl⟩⟩, fun j hj _ => hB.block j hj, hB.os, hB.tape, hB.output, hB.size⟩
    · have hbl : b < w.heap.size := (Array.getElem?_eq_some_iff.1 hh).1
      have hne : gv ≠ b := fun e => q3 (by rw [e]; rfl)
      have hHd : HoldsK (encV encA) k w b 0 d.toArray := holds_of_owns hkV ho (by simp) (by rw [← encV_flat])
      have hl := lessAt_con (blk := b) hk hp lt g hcon q1 hne hbl q2 h1 (by omega) d.toArray (by simp) hHd
      have hw := sliceStable_walk (blk := b) (off := 0) (enc := encV encA) hT hkV hone lt hO g #[.pointer (some ⟨gv, 0, none⟩)] hg cap d.toArray (by simp; omega) w (by simpa using hl) hHd hbl
      rw [show d.toArray.size = d.length by simp] at hw
      refine hw.mono ?_
      rintro e' w' ⟨rfl, hF⟩
      have f := hF.facts
      have ow := hF.owns hkV (stS_size lt d.toArray) (by rw [← encV_flat]) (by simp) ho
      refine ⟨rfl, ?_, fun j hj hjb => f.2.2.2 j hj (fun e => hjb (by rw [e]; rfl)), f.1, f.2.1, f.2.2.1, hF.size⟩
      rw [← encV_flat]
      exact ow
end
end Go.Proofs.Ytjngmlkaijpbgaa
