/- Pe: past: what the sets come to. Conditions: sizes. Pf: past: dots, and the set of dots. Conditions: sizes. Pg: past: the sets that pasts mean. Conditions: sizes. Ph: past: Norm. Conditions: sizes. Pi: past: the library's Equal, IsNorm. Conditions: sizes. Pj: past: Has. Conditions: none. Rh: the past in plain words: what is in a set in form. Conditions: none. Lm: lines: Dots, Inside, Outside. Conditions: sizes. Ra: the document's past: dots, Has, Same, sorted. Conditions: sizes. Rb: the document's turns: sorted (by halves). Conditions: sizes. Rt: the document's turns, in plain words: a sweep over where runs begin and end. Conditions: none. -/
import Derived.Test.YtjngmlkaijpbgaaQ3
set_option linter.unusedVariables false
set_option linter.unusedSimpArgs false
namespace Go.Proofs.Ytjngmlkaijpbgaa
open Go.E
set_option maxRecDepth 100000
set_option maxHeartbeats 4000000
def leadT (T : Nat → List Run) (r : Nat) : Int := (leadR (nrm (T r))).1
def restT (T : Nat → List Run) (r : Nat) : List Span := (leadR (nrm (T r))).2.map fun x => ⟨r, x.lo, x.hi⟩
def szT (T : Nat → List Run) : Nat → Int
  | 0 => 0
  | n + 1 => if 0 < leadT T n then n + 1 else szT T n
def cloudT (T : Nat → List Run) : Nat → List Span
  | 0 => []
  | n + 1 => cloudT T n ++ restT T n
def vecT (T : Nat → List Run) (n : Nat) : List Int := (List.range n).map (leadT T) ++ List.replicate (16 - n) 0
def tabP (T : Nat → List Run) : Past := ⟨(vecT T 16).take (szT T 16).toNat, cloudT T 16⟩
def isSz (T : Nat → List Run) (r s : Int) : Prop := s = szT T r.toNat
def isVec (T : Nat → List Run) (r : Int) (v : List Int) : Prop := v = vecT T r.toNat
def isCloud (T : Nat → List Run) (r : Int) (c : List Span) : Prop := c = cloudT T r.toNat
def isCloud2 (T : Nat → List Run) (r j : Int) (c : List Span) : Prop := c = cloudT T r.toNat ++ (restT T r.toNat).take j.toNat
def inv81a (T : Nat → List Run) (s r : Int) (v : List Int) (c : List Span) : Prop := 0 ≤ r ∧ r ≤ 16 ∧ 0 ≤ s ∧ s ≤ r ∧ v.length = 16 ∧ isSz T r s ∧ isVec T r v ∧ isCloud T r c
def dec81a (s r : Int) (v : List Int) (c : List Span) : Nat := (16 - r).toNat
def inv81b (T : Nat → List Run) (r : Int) (w : List Int) (j : Int) (v : List Int) (c : List Span) : Prop := v = w ∧ 0 ≤ j ∧ j ≤ (leadR (nrm (T r.toNat))).2.length ∧ isCloud2 T r j c
def dec81b (T : Nat → List Run) (r : Int) (j : Int) (v : List Int) (c : List Span) : Nat := ((leadR (nrm (T r.toNat))).2.length - j).toNat
theorem rest_len (T : Nat → List Run) (r : Nat) : (leadR (nrm (T r))).2.length ≤ 500000000 := by
  have h := sepR_len (nrm_sep (T r))
  unfold leadR
  split
  · exact h
  · simp only [List.length_drop]; omega
theorem cloud_len (T : Nat → List Run) : ∀ n : Nat, (cloudT T n).length ≤ n * 500000000
  | 0 => by simp [cloudT]
  | n + 1 => by
    have h1 := cloud_len T n
    have h2 := rest_len T n
    rw [cloudT, List.length_append, restT, List.length_map]
    omega
theorem cloud2_len {T : Nat → List Run} {r j : Int} {c : List Span} (h0 : 0 ≤ r) (h1 : r < 16) (hc : isCloud2 T r j c) : c.length ≤ 8000000000 := by
  unfold isCloud2 at hc
  have h2 := cloud_len T r.toNat
  have h3 := rest_len T r.toNat
  rw [hc, List.length_append, List.length_take, restT, List.length_map]
  omega
theorem cloud2_start {T : Nat → List Run} {r : Int} {c : List Span} (hc : isCloud T r c) : isCloud2 T r 0 c := by
  unfold isCloud isCloud2 at *
  simpa using hc
theorem cloud2_next {T : Nat → List Run} {r j : Int} {c : List Span} (h0 : 0 ≤ r) (j0 : 0 ≤ j) (jl : j < (leadR (nrm (T r.toNat))).2.length) (hc : isCloud2 T r j c) :
    isCloud2 T r (j + 1) (c ++ [⟨r, ((leadR (nrm (T r.toNat))).2[j.toNat]!).lo, ((leadR (nrm (T r.toNat))).2[j.toNat]!).hi⟩]) := by
  unfold isCloud2 at *
  have hl : (j : Int) < (restT T r.toNat).length := by rw [restT, List.length_map]; exact jl
  rw [← take_step j0 hl, ← List.append_assoc, ← hc]
  have e : (restT T r.toNat)[j.toNat]! = ⟨r, ((leadR (nrm (T r.toNat))).2[j.toNat]!).lo, ((leadR (nrm (T r.toNat))).2[j.toNat]!).hi⟩ := by
    have hj : j.toNat < (leadR (nrm (T r.toNat))).2.length := by omega
    rw [getElem!_pos (restT T r.toNat) j.toNat (by omega), getElem!_pos (leadR (nrm (T r.toNat))).2 j.toNat hj]
    simp only [restT, List.getElem_map]
    congr 1
    omega
  rw [e]
theorem cloud_next {T : Nat → List Run} {r j : Int} {c : List Span} (h0 : 0 ≤ r) (jl : ¬ j < (leadR (nrm (T r.toNat))).2.length) (hc : isCloud2 T r j c) : isCloud T (r + 1) c := by
  unfold isCloud2 isCloud at *
  rw [hc, show (r + 1).toNat = r.toNat + 1 by omega, cloudT, List.take_of_length_le (by rw [restT, List.length_map]; omega)]
theorem vec_next {T : Nat → List Run} {r : Int} {v : List Int} (h0 : 0 ≤ r) (h1 : r < 16) (hv : isVec T r v) : isVec T (r + 1) (v.set r.toNat (leadR (nrm (T r.toNat))).1) := by
  unfold isVec at *
  rw [hv, show (r + 1).toNat = r.toNat + 1 by omega]
  unfold vecT
  generalize hn : r.toNat = n
  have hn' : n < 16 := by omega
  rw [List.set_append_right _ _ (by simp), List.length_map, List.length_range, Nat.sub_self, show 16 - n = (16 - (n + 1)) + 1 by omega, List.replicate_succ, List.set_cons_zero, List.range_succ, List.map_append, List.append_assoc]
  rfl
theorem sz_next {T : Nat → List Run} {r s : Int} (h0 : 0 ≤ r) (hs : isSz T r s) : isSz T (r + 1) (if 0 < (leadR (nrm (T r.toNat))).1 then r + 1 else s) := by
  unfold isSz at *
  rw [show (r + 1).toNat = r.toNat + 1 by omega, szT, leadT, hs]
  split
  · omega
  · rfl
theorem tab_end {T : Nat → List Run} {r s : Int} {v : List Int} {c : List Span} (h1 : r ≤ 16) (h : ¬ r < 16) (hs : isSz T r s) (hv : isVec T r v) (hc : isCloud T r c) : tabP T = ⟨v.take s.toNat, c⟩ := by
  unfold isSz isVec isCloud at *
  have : r.toNat = 16 := by omega
  rw [this] at hs hv hc
  unfold tabP
  rw [hs, hv, hc]
theorem con81 (t : Nat → List Run) (hb : ∀ r : Nat, r < 16 → (t r).length * 16 ≤ 140737488351232) : Con Try.prog 81 [.eptr (tabC c108 16 t)] (.agg (c36 (tabP t))) :=
  by
  refine st_con tab_ok (by kernel_rfl) [.cell 2 36] 59 Go.Proofs.Try.func81 (by kernel_rfl) (by kernel_rfl) ?_
  intro e0 cx
  refine sq ?_
  refine rg (A := True) cx [] [0, 2] [2] trivial ?_
  refine sn ?_
  refine sq ?_
  refine rg (A := True) cx [] [0, 2, 3] [2, 3] trivial ?_
  refine sn ?_
  refine sq ?_
  refine rg (A := ((16 : Int) = (↑(16 : Nat) : Int)) ∧ ((16 : Int) = (↑(16 : Nat) : Int)) ∧ ((8 : Nat) * (16 : Nat) ≤ (281474976710656 : Nat)) ∧ ((16 : Nat) ≤ maxLen) ∧ ([AV.i IntKind.i64 (0 : Int)].length = (1 : Nat)) ∧ (ZLe [AV.i IntKind.i64 (0 : Int)] [AV.i IntKind.i64 (0 : Int)]) ∧ (List.replicate (16 : Nat) [AV.i IntKind.i64 (0 : Int)] = List.map c3 (List.replicate (16 : Nat) (0 : Int)))) cx [(0, { row := [.i .i64 ((0 : Int))], rows := some (List.map c3 (List.replicate (16 : Nat) (0 : Int))), n := (16 : Nat) })] [0, 2, 3, 4] [2, 3, 11] ⟨(by kernel_rfl), (by kernel_rfl), (by omega), (by (simp only [Go.maxLen]; omega)), (by kernel_rfl), (by (with_reducible exact ZLe.refl _)), (by (with_reducible refine rep_map ?_; kernel_rfl))⟩ ?_
  refine sn ?_
  refine sq ?_
  refine rg (A := True) cx [] [0, 2, 3, 4, 5] [2, 3, 11] trivial ?_
  refine sn ?_
  refine sq ?_
  refine sq ?_
  refine rg (A := True) cx [] [0, 2, 3, 4, 5, 12] [2, 3, 11] trivial ?_
  refine sn ?_
  refine st_block 0 (by kernel_rfl) ?_
  refine awp_cellIn 3 81 3 1 5301 (σ' := ⟨[(0, .eptr (tabC c108 (16 : Nat) t)), (2, .ptr (2) (0) (0) (0)), (3, .ptr (3) (0) (0) (0)), (4, .own 11 0), (5, .i .i64 ((0 : Int))), (12, .i .i64 ((0 : Int)))], [(2, ⟨0, 36, .var [.nl, .nl]⟩), (3, ⟨0, 36, .var [.nl, .own 5301 0]⟩), (11, ⟨0, 3, .row 1 (List.map c3 (List.replicate (16 : Nat) (0 : Int)))⟩), (5301, ⟨0, 81, .row 3 (List.map c81 [])⟩)]⟩) (by kernel_rfl) ?_
  refine st_loop (X := Int × Int × List Int × List Span) (fun x => ⟨[(0, .eptr (tabC c108 (16 : Nat) t)), (2, .ptr (2) (0) (0) (0)), (3, .ptr (3) (0) (0) (0)), (4, .own 11 0), (5, .i .i64 (x.fst)), (12, .i .i64 (x.snd.fst))], [(2, ⟨0, 36, .var [.nl, .nl]⟩), (3, ⟨0, 36, .var [.nl, .own 5301 0]⟩), (11, ⟨0, 3, .row 1 (List.map c3 x.snd.snd.fst)⟩), (5301, ⟨0, 81, .row 3 (List.map c81 x.snd.snd.snd)⟩)]⟩) (fun x ↦ dec81a x.fst x.snd.fst x.snd.snd.fst x.snd.snd.snd) (fun x ↦ inv81a t x.fst x.snd.fst x.snd.snd.fst x.snd.snd.snd) [0, 2, 3, 4, 5, 12] [2, 3, 11, 5301] (((0 : Int), (0 : Int), List.replicate (16 : Nat) (0 : Int), [])) (by kernel_rfl) (by kernel_rfl) (show inv81a t (0 : Int) (0 : Int) (List.replicate (16 : Nat) (0 : Int)) [] from ?g0) ?_; rotate_left 1
  rintro ⟨s_0, r_1, v_2, c_3⟩ h_4
  obtain ⟨h_5, h_6, h_7, h_8, h_9, h_10, h_11, h_12⟩ : (0 : Int) ≤ r_1 ∧ r_1 ≤ (16 : Int) ∧ (0 : Int) ≤ s_0 ∧ s_0 ≤ r_1 ∧ v_2.length = (16 : Nat) ∧ isSz t r_1 s_0 ∧ isVec t r_1 v_2 ∧ isCloud t r_1 c_3 := h_4
  refine sq ?_
  refine rg (A := (AV.b (decide (r_1 < (16 : Int))) = AV.b (decide (r_1 < (16 : Int))))) cx [(0, { tell := some (.b (decide (r_1 < (16 : Int)))) })] [0, 2, 3, 4, 5, 12, 13] [2, 3, 11, 5301] (by kernel_rfl) ?_
  refine sn ?_
  refine sq ?_
  refine st_dec (r_1 < (16 : Int)) (by kernel_rfl) (by kernel_rfl) (fun h_13 => ?_) (fun h_13 => ?_)
  refine st_skip (by kernel_rfl) ?_
  refine sn ?_
  refine sq ?_
  refine st_block 1 (by kernel_rfl) ?_
  refine sq ?_
  refine rg (A := True) cx [] [0, 2, 3, 4, 5, 12, 6] [2, 3, 11, 5301] trivial ?_
  refine sn ?_
  refine sq ?_
  have hl_14 := (rng_nrm (t r_1.toNat))
  refine rg (A := ((0 : Int) ≤ r_1) ∧ (r_1 < (↑(16 : Nat) : Int)) ∧ ((List.drop (r_1.toNat * (1 : Nat)) (tabC c108 (16 : Nat) t))[(0 : Nat)]? = some (AV.sl (List.map c108 (t r_1.toNat)))) ∧ _) cx [(4, { row := [.sl (List.map c108 (t r_1.toNat))] }), (5, { val := some (.tup [.i .i64 ((leadR (nrm (t r_1.toNat))).fst), .sl (List.map c108 (leadR (nrm (t r_1.toNat))).snd)]) })] [0, 2, 3, 4, 5, 12, 6, 7, 8] [2, 3, 11, 5301] ⟨(by (with_reducible assumption)), (by omega), (by (exact get_tabC_drop (by omega))), (con113 (t r_1.toNat) ?g1)⟩ ?_; rotate_left 1
  refine sn ?_
  refine sq ?_
  refine rg (A := ((0 : Int) ≤ r_1) ∧ (r_1.toNat < (List.map c3 v_2).length) ∧ ((1 : Nat) = 1) ∧ ((List.map c3 v_2)[r_1.toNat]? = some (c3 v_2[r_1.toNat]!)) ∧ ((cellsA (AV.i IntKind.i64 (leadR (nrm (t r_1.toNat))).fst)).length = (1 : Nat)) ∧ (0 + (1 : Nat) ≤ 1) ∧ ((List.map c3 v_2).set r_1.toNat (List.take (0) (c3 v_2[r_1.toNat]!) ++ cellsA (AV.i IntKind.i64 (leadR (nrm (t r_1.toNat))).fst) ++ List.drop (0 + (1 : Nat)) (c3 v_2[r_1.toNat]!)) = List.map c3 (v_2.set r_1.toNat (leadR (nrm (t r_1.toNat))).fst))) cx [(4, { row := (c3 v_2[r_1.toNat]!), rows := some (List.map c3 (v_2.set r_1.toNat (leadR (nrm (t r_1.toNat))).fst)) })] [0, 2, 3, 4, 5, 12, 6, 7, 8] [2, 3, 11, 5301] ⟨(by (with_reducible assumption)), (by (first | omega | (simp only [List.length_map]; omega))), (by kernel_rfl), (by (with_reducible refine get_map ?_; omega)), (by kernel_rfl), (by (first | omega | (simp only [List.length_map]; omega))), (by (with_reducible refine set_map ?_; kernel_rfl))⟩ ?_
  refine sn ?_
  refine sq ?_
  refine sq ?_
  refine rg (A := (AV.b (decide ((leadR (nrm (t r_1.toNat))).fst > (0 : Int))) = AV.b (decide ((0 : Int) < (leadR (nrm (t r_1.toNat))).fst)))) cx [(1, { tell := some (.b (decide ((0 : Int) < (leadR (nrm (t r_1.toNat))).fst))) })] [0, 2, 3, 4, 5, 12, 6, 8, 29] [2, 3, 11, 5301] (by kernel_rfl) ?_
  refine sn ?_
  refine st_dec ((0 : Int) < (leadR (nrm (t r_1.toNat))).fst) (by kernel_rfl) (by kernel_rfl) (fun h_15 => ?_) (fun h_15 => ?_)
  refine rg (A := (AV.i IntKind.i64 (IntKind.i64.wrap (r_1 + (1 : Int))) = AV.i IntKind.i64 (r_1 + (1 : Int)))) cx [(1, { tell := some (.i .i64 (r_1 + (1 : Int))) })] [0, 2, 3, 4, 5, 12, 6, 8] [2, 3, 11, 5301] (told_i64 (by omega) (by omega)) ?_
  refine sn ?_
  refine sq ?_
  refine rg (A := _) cx [(1, { tell := some (.i .i64 ((↑(leadR (nrm (t r_1.toNat))).snd.length : Int))) })] [0, 2, 3, 4, 5, 12, 6, 32, 33, 34] [2, 3, 11, 5301] (told_len c108 (leadR (nrm (t r_1.toNat))).snd) ?_
  refine sn ?_
  refine st_block 2 (by kernel_rfl) ?_
  refine st_loop (X := Int × List Int × List Span) (fun x => ⟨[(0, .eptr (tabC c108 (16 : Nat) t)), (2, .ptr (2) (0) (0) (0)), (3, .ptr (3) (0) (0) (0)), (4, .own 11 0), (5, .i .i64 (r_1 + (1 : Int))), (12, .i .i64 (r_1)), (6, .i .i64 (r_1)), (32, .sl (List.map c108 (leadR (nrm (t r_1.toNat))).snd)), (33, .i .i64 ((↑(leadR (nrm (t r_1.toNat))).snd.length : Int))), (34, .i .i64 (x.fst))], [(2, ⟨0, 36, .var [.nl, .nl]⟩), (3, ⟨0, 36, .var [.nl, .own 5301 0]⟩), (11, ⟨0, 3, .row 1 (List.map c3 x.snd.fst)⟩), (5301, ⟨0, 81, .row 3 (List.map c81 x.snd.snd)⟩)]⟩) (fun x ↦ dec81b t r_1 x.fst x.snd.fst x.snd.snd) (fun x ↦ inv81b t r_1 (v_2.set r_1.toNat (leadR (nrm (t r_1.toNat))).fst) x.fst x.snd.fst x.snd.snd) [0, 2, 3, 4, 5, 12, 6, 32, 33, 34] [2, 3, 11, 5301] (((0 : Int), v_2.set r_1.toNat (leadR (nrm (t r_1.toNat))).fst, c_3)) (by kernel_rfl) (by kernel_rfl) (show inv81b t r_1 (v_2.set r_1.toNat (leadR (nrm (t r_1.toNat))).fst) (0 : Int) (v_2.set r_1.toNat (leadR (nrm (t r_1.toNat))).fst) c_3 from ?g2) ?_; rotate_left 1
  rintro ⟨j_16, v_17, c_18⟩ h_19
  obtain ⟨h_20, h_21, h_22, h_23⟩ : v_17 = v_2.set r_1.toNat (leadR (nrm (t r_1.toNat))).fst ∧ (0 : Int) ≤ j_16 ∧ j_16 ≤ (↑(leadR (nrm (t r_1.toNat))).snd.length : Int) ∧ isCloud2 t r_1 j_16 c_18 := h_19
  refine sq ?_
  refine rg (A := (AV.b (decide (j_16 < (↑(leadR (nrm (t r_1.toNat))).snd.length : Int))) = AV.b (decide (j_16 < (↑(leadR (nrm (t r_1.toNat))).snd.length : Int))))) cx [(0, { tell := some (.b (decide (j_16 < (↑(leadR (nrm (t r_1.toNat))).snd.length : Int)))) })] [0, 2, 3, 4, 5, 12, 6, 32, 33, 34, 35] [2, 3, 11, 5301] (by kernel_rfl) ?_
  refine sn ?_
  refine sq ?_
  refine st_dec (j_16 < (↑(leadR (nrm (t r_1.toNat))).snd.length : Int)) (by kernel_rfl) (by kernel_rfl) (fun h_24 => ?_) (fun h_24 => ?_)
  refine st_skip (by kernel_rfl) ?_
  refine sn ?_
  refine sq ?_
  refine st_block 3 (by kernel_rfl) ?_
  refine sq ?_
  refine rg (A := ((0 : Int) ≤ j_16) ∧ ((List.map c108 (leadR (nrm (t r_1.toNat))).snd)[j_16.toNat]? = some (c108 (leadR (nrm (t r_1.toNat))).snd[j_16.toNat]!)) ∧ ((c108 (leadR (nrm (t r_1.toNat))).snd[j_16.toNat]!).length = (2 : Nat)) ∧ ((2 : Nat) ≤ [AV.i IntKind.i64 (leadR (nrm (t r_1.toNat))).snd[j_16.toNat]!.lo, AV.i IntKind.i64 (leadR (nrm (t r_1.toNat))).snd[j_16.toNat]!.hi].length)) cx [(0, { row := (c108 (leadR (nrm (t r_1.toNat))).snd[j_16.toNat]!) })] [0, 2, 3, 4, 5, 12, 6, 32, 33, 34, 10] [2, 3, 11, 5301, 10] ⟨(by (with_reducible assumption)), (by (with_reducible refine get_map ?_; omega)), (by kernel_rfl), (by (simp only [List.length_append, List.length_cons, List.length_nil]; omega))⟩ ?_
  refine sn ?_
  refine rg (A := (81 = (81 : Nat)) ∧ ((3 : Nat) = 3) ∧ ([AV.i IntKind.i64 (0 : Int), AV.i IntKind.i64 (0 : Int), AV.i IntKind.i64 (0 : Int)].length = (3 : Nat)) ∧ (∀ (r : List AV), r ∈ List.map c81 [{ rep := r_1, lo := (leadR (nrm (t r_1.toNat))).snd[j_16.toNat]!.lo, hi := (leadR (nrm (t r_1.toNat))).snd[j_16.toNat]!.hi : Span }] → r.length = 3) ∧ ((List.map c81 c_18).length + (List.map c81 [{ rep := r_1, lo := (leadR (nrm (t r_1.toNat))).snd[j_16.toNat]!.lo, hi := (leadR (nrm (t r_1.toNat))).snd[j_16.toNat]!.hi : Span }]).length ≤ maxLen) ∧ (((List.map c81 c_18).length + (List.map c81 [{ rep := r_1, lo := (leadR (nrm (t r_1.toNat))).snd[j_16.toNat]!.lo, hi := (leadR (nrm (t r_1.toNat))).snd[j_16.toNat]!.hi : Span }]).length) * (24 : Nat) ≤ (140737488355328 : Nat)) ∧ (List.map c81 c_18 ++ List.map c81 [{ rep := r_1, lo := (leadR (nrm (t r_1.toNat))).snd[j_16.toNat]!.lo, hi := (leadR (nrm (t r_1.toNat))).snd[j_16.toNat]!.hi : Span }] = List.map c81 (c_18 ++ [{ rep := r_1, lo := (leadR (nrm (t r_1.toNat))).snd[j_16.toNat]!.lo, hi := (leadR (nrm (t r_1.toNat))).snd[j_16.toNat]!.hi : Span }]))) cx [(9, { rows := some (List.map c81 (c_18 ++ [{ rep := r_1, lo := (leadR (nrm (t r_1.toNat))).snd[j_16.toNat]!.lo, hi := (leadR (nrm (t r_1.toNat))).snd[j_16.toNat]!.hi : Span }])) })] [0, 2, 3, 4, 5, 12, 6, 32, 33, 34] [2, 3, 11, 5301] ⟨(by kernel_rfl), (by kernel_rfl), (by kernel_rfl), (by (with_reducible refine len_map (fun _ => ?_) _; kernel_rfl)), ?g3, ?g4, (by (with_reducible refine app_map ?_; kernel_rfl))⟩ ?_; rotate_left 2
  refine q_blk_normal ?_
  refine sn ?_
  refine rg (A := (AV.i IntKind.i64 (IntKind.i64.wrap (j_16 + (1 : Int))) = AV.i IntKind.i64 (j_16 + (1 : Int)))) cx [(0, { tell := some (.i .i64 (j_16 + (1 : Int))) })] [0, 2, 3, 4, 5, 12, 6, 32, 33, 34] [2, 3, 11, 5301] (told_i64 (by omega) ?g5) ?_; rotate_left 1
  refine sn ?_
  refine loop_next ((j_16 + (1 : Int), v_17, c_18 ++ [{ rep := r_1, lo := (leadR (nrm (t r_1.toNat))).snd[j_16.toNat]!.lo, hi := (leadR (nrm (t r_1.toNat))).snd[j_16.toNat]!.hi : Span }])) (by kernel_rfl) (show ((↑(leadR (nrm (t r_1.toNat))).snd.length : Int) - (j_16 + (1 : Int))).toNat < ((↑(leadR (nrm (t r_1.toNat))).snd.length : Int) - j_16).toNat from (by omega)) (show inv81b t r_1 (v_2.set r_1.toNat (leadR (nrm (t r_1.toNat))).fst) (j_16 + (1 : Int)) v_17 (c_18 ++ [{ rep := r_1, lo := (leadR (nrm (t r_1.toNat))).snd[j_16.toNat]!.lo, hi := (leadR (nrm (t r_1.toNat))).snd[j_16.toNat]!.hi : Span }]) from ?g6); rotate_left 1
  refine st_exit 2 (by kernel_rfl) ?_
  refine q_seq_exit ?_
  refine q_seq_exit ?_
  refine q_blk_hit ?_
  refine q_blk_normal ?_
  refine sn ?_
  refine rg (A := (AV.i IntKind.i64 (IntKind.i64.wrap (r_1 + (1 : Int))) = AV.i IntKind.i64 (r_1 + (1 : Int)))) cx [(0, { tell := some (.i .i64 (r_1 + (1 : Int))) })] [0, 2, 3, 4, 5, 12] [2, 3, 11, 5301] (told_i64 (by omega) (by omega)) ?_
  refine sn ?_
  refine loop_next ((r_1 + (1 : Int), r_1 + (1 : Int), v_17, c_18)) (by kernel_rfl) (show ((16 : Int) - (r_1 + (1 : Int))).toNat < ((16 : Int) - r_1).toNat from (by omega)) (show inv81a t (r_1 + (1 : Int)) (r_1 + (1 : Int)) v_17 c_18 from ?g7); rotate_left 1
  refine st_skip (by kernel_rfl) ?_
  refine sn ?_
  refine sq ?_
  refine rg (A := _) cx [(1, { tell := some (.i .i64 ((↑(leadR (nrm (t r_1.toNat))).snd.length : Int))) })] [0, 2, 3, 4, 5, 12, 6, 32, 33, 34] [2, 3, 11, 5301] (told_len c108 (leadR (nrm (t r_1.toNat))).snd) ?_
  refine sn ?_
  refine st_block 2 (by kernel_rfl) ?_
  refine st_loop (X := Int × List Int × List Span) (fun x => ⟨[(0, .eptr (tabC c108 (16 : Nat) t)), (2, .ptr (2) (0) (0) (0)), (3, .ptr (3) (0) (0) (0)), (4, .own 11 0), (5, .i .i64 (s_0)), (12, .i .i64 (r_1)), (6, .i .i64 (r_1)), (32, .sl (List.map c108 (leadR (nrm (t r_1.toNat))).snd)), (33, .i .i64 ((↑(leadR (nrm (t r_1.toNat))).snd.length : Int))), (34, .i .i64 (x.fst))], [(2, ⟨0, 36, .var [.nl, .nl]⟩), (3, ⟨0, 36, .var [.nl, .own 5301 0]⟩), (11, ⟨0, 3, .row 1 (List.map c3 x.snd.fst)⟩), (5301, ⟨0, 81, .row 3 (List.map c81 x.snd.snd)⟩)]⟩) (fun x ↦ dec81b t r_1 x.fst x.snd.fst x.snd.snd) (fun x ↦ inv81b t r_1 (v_2.set r_1.toNat (leadR (nrm (t r_1.toNat))).fst) x.fst x.snd.fst x.snd.snd) [0, 2, 3, 4, 5, 12, 6, 32, 33, 34] [2, 3, 11, 5301] (((0 : Int), v_2.set r_1.toNat (leadR (nrm (t r_1.toNat))).fst, c_3)) (by kernel_rfl) (by kernel_rfl) (show inv81b t r_1 (v_2.set r_1.toNat (leadR (nrm (t r_1.toNat))).fst) (0 : Int) (v_2.set r_1.toNat (leadR (nrm (t r_1.toNat))).fst) c_3 from ?g8) ?_; rotate_left 1
  rintro ⟨j_25, v_26, c_27⟩ h_28
  obtain ⟨h_29, h_30, h_31, h_32⟩ : v_26 = v_2.set r_1.toNat (leadR (nrm (t r_1.toNat))).fst ∧ (0 : Int) ≤ j_25 ∧ j_25 ≤ (↑(leadR (nrm (t r_1.toNat))).snd.length : Int) ∧ isCloud2 t r_1 j_25 c_27 := h_28
  refine sq ?_
  refine rg (A := (AV.b (decide (j_25 < (↑(leadR (nrm (t r_1.toNat))).snd.length : Int))) = AV.b (decide (j_25 < (↑(leadR (nrm (t r_1.toNat))).snd.length : Int))))) cx [(0, { tell := some (.b (decide (j_25 < (↑(leadR (nrm (t r_1.toNat))).snd.length : Int)))) })] [0, 2, 3, 4, 5, 12, 6, 32, 33, 34, 35] [2, 3, 11, 5301] (by kernel_rfl) ?_
  refine sn ?_
  refine sq ?_
  refine st_dec (j_25 < (↑(leadR (nrm (t r_1.toNat))).snd.length : Int)) (by kernel_rfl) (by kernel_rfl) (fun h_33 => ?_) (fun h_33 => ?_)
  refine st_skip (by kernel_rfl) ?_
  refine sn ?_
  refine sq ?_
  refine st_block 3 (by kernel_rfl) ?_
  refine sq ?_
  refine rg (A := ((0 : Int) ≤ j_25) ∧ ((List.map c108 (leadR (nrm (t r_1.toNat))).snd)[j_25.toNat]? = some (c108 (leadR (nrm (t r_1.toNat))).snd[j_25.toNat]!)) ∧ ((c108 (leadR (nrm (t r_1.toNat))).snd[j_25.toNat]!).length = (2 : Nat)) ∧ ((2 : Nat) ≤ [AV.i IntKind.i64 (leadR (nrm (t r_1.toNat))).snd[j_25.toNat]!.lo, AV.i IntKind.i64 (leadR (nrm (t r_1.toNat))).snd[j_25.toNat]!.hi].length)) cx [(0, { row := (c108 (leadR (nrm (t r_1.toNat))).snd[j_25.toNat]!) })] [0, 2, 3, 4, 5, 12, 6, 32, 33, 34, 10] [2, 3, 11, 5301, 10] ⟨(by (with_reducible assumption)), (by (with_reducible refine get_map ?_; omega)), (by kernel_rfl), (by (simp only [List.length_append, List.length_cons, List.length_nil]; omega))⟩ ?_
  refine sn ?_
  refine rg (A := (81 = (81 : Nat)) ∧ ((3 : Nat) = 3) ∧ ([AV.i IntKind.i64 (0 : Int), AV.i IntKind.i64 (0 : Int), AV.i IntKind.i64 (0 : Int)].length = (3 : Nat)) ∧ (∀ (r : List AV), r ∈ List.map c81 [{ rep := r_1, lo := (leadR (nrm (t r_1.toNat))).snd[j_25.toNat]!.lo, hi := (leadR (nrm (t r_1.toNat))).snd[j_25.toNat]!.hi : Span }] → r.length = 3) ∧ ((List.map c81 c_27).length + (List.map c81 [{ rep := r_1, lo := (leadR (nrm (t r_1.toNat))).snd[j_25.toNat]!.lo, hi := (leadR (nrm (t r_1.toNat))).snd[j_25.toNat]!.hi : Span }]).length ≤ maxLen) ∧ (((List.map c81 c_27).length + (List.map c81 [{ rep := r_1, lo := (leadR (nrm (t r_1.toNat))).snd[j_25.toNat]!.lo, hi := (leadR (nrm (t r_1.toNat))).snd[j_25.toNat]!.hi : Span }]).length) * (24 : Nat) ≤ (140737488355328 : Nat)) ∧ (List.map c81 c_27 ++ List.map c81 [{ rep := r_1, lo := (leadR (nrm (t r_1.toNat))).snd[j_25.toNat]!.lo, hi := (leadR (nrm (t r_1.toNat))).snd[j_25.toNat]!.hi : Span }] = List.map c81 (c_27 ++ [{ rep := r_1, lo := (leadR (nrm (t r_1.toNat))).snd[j_25.toNat]!.lo, hi := (leadR (nrm (t r_1.toNat))).snd[j_25.toNat]!.hi : Span }]))) cx [(9, { rows := some (List.map c81 (c_27 ++ [{ rep := r_1, lo := (leadR (nrm (t r_1.toNat))).snd[j_25.toNat]!.lo, hi := (leadR (nrm (t r_1.toNat))).snd[j_25.toNat]!.hi : Span }])) })] [0, 2, 3, 4, 5, 12, 6, 32, 33, 34] [2, 3, 11, 5301] ⟨(by kernel_rfl), (by kernel_rfl), (by kernel_rfl), (by (with_reducible refine len_map (fun _ => ?_) _; kernel_rfl)), ?g9, ?g10, (by (with_reducible refine app_map ?_; kernel_rfl))⟩ ?_; rotate_left 2
  refine q_blk_normal ?_
  refine sn ?_
  refine rg (A := (AV.i IntKind.i64 (IntKind.i64.wrap (j_25 + (1 : Int))) = AV.i IntKind.i64 (j_25 + (1 : Int)))) cx [(0, { tell := some (.i .i64 (j_25 + (1 : Int))) })] [0, 2, 3, 4, 5, 12, 6, 32, 33, 34] [2, 3, 11, 5301] (told_i64 (by omega) ?g11) ?_; rotate_left 1
  refine sn ?_
  refine loop_next ((j_25 + (1 : Int), v_26, c_27 ++ [{ rep := r_1, lo := (leadR (nrm (t r_1.toNat))).snd[j_25.toNat]!.lo, hi := (leadR (nrm (t r_1.toNat))).snd[j_25.toNat]!.hi : Span }])) (by kernel_rfl) (show ((↑(leadR (nrm (t r_1.toNat))).snd.length : Int) - (j_25 + (1 : Int))).toNat < ((↑(leadR (nrm (t r_1.toNat))).snd.length : Int) - j_25).toNat from (by omega)) (show inv81b t r_1 (v_2.set r_1.toNat (leadR (nrm (t r_1.toNat))).fst) (j_25 + (1 : Int)) v_26 (c_27 ++ [{ rep := r_1, lo := (leadR (nrm (t r_1.toNat))).snd[j_25.toNat]!.lo, hi := (leadR (nrm (t r_1.toNat))).snd[j_25.toNat]!.hi : Span }]) from ?g12); rotate_left 1
  refine st_exit 2 (by kernel_rfl) ?_
  refine q_seq_exit ?_
  refine q_seq_exit ?_
  refine q_blk_hit ?_
  refine q_blk_normal ?_
  refine sn ?_
  refine rg (A := (AV.i IntKind.i64 (IntKind.i64.wrap (r_1 + (1 : Int))) = AV.i IntKind.i64 (r_1 + (1 : Int)))) cx [(0, { tell := some (.i .i64 (r_1 + (1 : Int))) })] [0, 2, 3, 4, 5, 12] [2, 3, 11, 5301] (told_i64 (by omega) (by omega)) ?_
  refine sn ?_
  refine loop_next ((s_0, r_1 + (1 : Int), v_26, c_27)) (by kernel_rfl) (show ((16 : Int) - (r_1 + (1 : Int))).toNat < ((16 : Int) - r_1).toNat from (by omega)) (show inv81a t s_0 (r_1 + (1 : Int)) v_26 c_27 from ?g13); rotate_left 1
  refine st_exit 0 (by kernel_rfl) ?_
  refine q_seq_exit ?_
  refine q_seq_exit ?_
  refine q_blk_hit ?_
  refine sn ?_
  refine sq ?_
  refine sq ?_
  refine rg (A := (AV.b (decide (s_0 > (0 : Int))) = AV.b (decide ((0 : Int) < s_0)))) cx [(1, { tell := some (.b (decide ((0 : Int) < s_0))) })] [2, 3, 4, 5, 52] [2, 3, 11, 5301] (by kernel_rfl) ?_
  refine sn ?_
  refine st_dec ((0 : Int) < s_0) (by kernel_rfl) (by kernel_rfl) (fun h_34 => ?_) (fun h_34 => ?_)
  refine rg (A := ((0 : Int) ≤ (0 : Int)) ∧ ((0 : Int) ≤ s_0) ∧ (s_0 ≤ (↑(List.map c3 v_2).length : Int)) ∧ ((0 : Int) < (↑(List.map c3 v_2).length : Int)) ∧ (Option.map TI.size (E.look tab (3 : Nat)) = some (1)) ∧ (ConB Try.prog (114 : Nat) [AV.sl (List.take (s_0 - (0 : Int)).toNat (List.drop (0) (List.map c3 v_2)))] (3 : Nat) (BK.row (1 : Nat) (List.map c3 (List.take (s_0 - (0 : Int)).toNat (List.drop (0) v_2)))))) cx [(3, { val := some (.own (3 : Nat) (1 : Nat)), rows := some (List.map c3 (List.take (s_0 - (0 : Int)).toNat (List.drop (0) v_2))) })] [2, 3] [2, 3, 5301, 56] ⟨(by omega), (by (with_reducible assumption)), (by (first | omega | (simp only [List.length_map]; omega))), (by (first | omega | (simp only [List.length_map]; omega))), (by kernel_rfl), (ConB.le (con114 (List.take (s_0 - (0 : Int)).toNat (List.drop (0) v_2)) ?g14) (ZLe.cons (AVle.eq (by simp only [List.map_take, List.map_drop])) ZLe.nil))⟩ ?_; rotate_left 1
  refine sn ?_
  refine sq ?_
  refine awp_norm [56, 5301] [2, 3] [2, 3] (σ' := ⟨[(2, .ptr (2) (0) (0) (0)), (3, .ptr (3) (0) (0) (0))], [(2, ⟨0, 36, .var [.nl, .nl]⟩), (3, ⟨0, 36, .var [.sl (((E.look [(3, { val := some (AV.own (3 : Nat) (1 : Nat)), rows := some (List.map c3 (List.take (s_0 - (0 : Int)).toNat (List.drop (0) v_2))) : Ov })] (3)).getD { : Ov }).rows.getD []), .sl (List.map c81 c_3)]⟩)]⟩) (by kernel_rfl) ?_
  refine rg (A := True) cx [] [2] [2, 3] trivial ?_
  refine sn ?_
  refine st_ret (by kernel_rfl) ?_
  refine q_ret (r := .agg [.sl (((E.look [(3, { val := some (AV.own (3 : Nat) (1 : Nat)), rows := some (List.map c3 (List.take (s_0 - (0 : Int)).toNat (List.drop (0) v_2))) : Ov })] (3)).getD { : Ov }).rows.getD []), .sl (List.map c81 c_3)]) (obl := []) (by kernel_rfl) trivial (AVle.eq (show AV.agg [AV.sl (((E.look [(3, { val := some (AV.own (3 : Nat) (1 : Nat)), rows := some (List.map c3 (List.take (s_0 - (0 : Int)).toNat (List.drop (0) v_2))) : Ov })] (3)).getD { : Ov }).rows.getD []), AV.sl (List.map c81 c_3)] = AV.agg (c36 (tabP t)) from ?g15)); rotate_left 1
  refine st_skip (by kernel_rfl) ?_
  refine sn ?_
  refine sq ?_
  refine awp_norm [5301] [2, 3, 4, 5, 52] [2, 3, 11] (σ' := ⟨[(2, .ptr (2) (0) (0) (0)), (3, .ptr (3) (0) (0) (0)), (4, .own 11 0), (5, .i .i64 (s_0)), (52, .b (decide ((0 : Int) < s_0)))], [(2, ⟨0, 36, .var [.nl, .nl]⟩), (3, ⟨0, 36, .var [.nl, .sl (List.map c81 c_3)]⟩), (11, ⟨0, 3, .row 1 (List.map c3 v_2)⟩)]⟩) (by kernel_rfl) ?_
  refine rg (A := True) cx [] [2] [2] trivial ?_
  refine sn ?_
  refine st_ret (by kernel_rfl) ?_
  refine q_ret (r := .agg [.nl, .sl (List.map c81 c_3)]) (obl := []) (by kernel_rfl) trivial (AVle.agg (ZLe.cons (AVle.nl' (show List.map c3 (tabP t).vec = [] from ?g17)) (ZLe.cons (AVle.eq (show AV.sl (List.map c81 c_3) = AV.sl (List.map c81 (tabP t).cloud) from ?g16)) ZLe.nil))); rotate_left 2
  rotate_left
  clear hl_14; revert s_0 r_1 v_2 c_3 h_5 h_6 h_7 h_8 h_9 h_10 h_11 h_12 h_13; rotate_left
  clear hl_14; revert s_0 r_1 v_2 c_3 h_5 h_6 h_7 h_8 h_9 h_10 h_11 h_12 h_13 h_15; rotate_left
  clear hl_14; revert s_0 r_1 v_2 c_3 h_5 h_6 h_7 h_8 h_9 h_10 h_11 h_12 h_13 h_15 j_16 v_17 c_18 h_20 h_21 h_22 h_23 h_24; rotate_left
  clear hl_14; revert s_0 r_1 v_2 c_3 h_5 h_6 h_7 h_8 h_9 h_10 h_11 h_12 h_13 h_15 j_16 v_17 c_18 h_20 h_21 h_22 h_23 h_24; rotate_left
  clear hl_14; revert s_0 r_1 v_2 c_3 h_5 h_6 h_7 h_8 h_9 h_10 h_11 h_12 h_13 h_15 j_16 v_17 c_18 h_20 h_21 h_22 h_23 h_24; rotate_left
  clear hl_14; revert s_0 r_1 v_2 c_3 h_5 h_6 h_7 h_8 h_9 h_10 h_11 h_12 h_13 h_15 j_16 v_17 c_18 h_20 h_21 h_22 h_23 h_24; rotate_left
  clear hl_14; revert s_0 r_1 v_2 c_3 h_5 h_6 h_7 h_8 h_9 h_10 h_11 h_12 h_13 h_15 j_16 v_17 c_18 h_20 h_21 h_22 h_23 h_24; rotate_left
  clear hl_14; revert s_0 r_1 v_2 c_3 h_5 h_6 h_7 h_8 h_9 h_10 h_11 h_12 h_13 h_15; rotate_left
  clear hl_14; revert s_0 r_1 v_2 c_3 h_5 h_6 h_7 h_8 h_9 h_10 h_11 h_12 h_13 h_15 j_25 v_26 c_27 h_29 h_30 h_31 h_32 h_33; rotate_left
  clear hl_14; revert s_0 r_1 v_2 c_3 h_5 h_6 h_7 h_8 h_9 h_10 h_11 h_12 h_13 h_15 j_25 v_26 c_27 h_29 h_30 h_31 h_32 h_33; rotate_left
  clear hl_14; revert s_0 r_1 v_2 c_3 h_5 h_6 h_7 h_8 h_9 h_10 h_11 h_12 h_13 h_15 j_25 v_26 c_27 h_29 h_30 h_31 h_32 h_33; rotate_left
  clear hl_14; revert s_0 r_1 v_2 c_3 h_5 h_6 h_7 h_8 h_9 h_10 h_11 h_12 h_13 h_15 j_25 v_26 c_27 h_29 h_30 h_31 h_32 h_33; rotate_left
  clear hl_14; revert s_0 r_1 v_2 c_3 h_5 h_6 h_7 h_8 h_9 h_10 h_11 h_12 h_13 h_15 j_25 v_26 c_27 h_29 h_30 h_31 h_32 h_33; rotate_left
  revert s_0 r_1 v_2 c_3 h_5 h_6 h_7 h_8 h_9 h_10 h_11 h_12 h_13 h_34; rotate_left
  revert s_0 r_1 v_2 c_3 h_5 h_6 h_7 h_8 h_9 h_10 h_11 h_12 h_13 h_34; rotate_left
  revert s_0 r_1 v_2 c_3 h_5 h_6 h_7 h_8 h_9 h_10 h_11 h_12 h_13 h_34; rotate_left
  revert s_0 r_1 v_2 c_3 h_5 h_6 h_7 h_8 h_9 h_10 h_11 h_12 h_13 h_34; rotate_left
  case g0 => exact ⟨by omega, by omega, by omega, by omega, by simp, rfl, by simp [isVec, vecT], rfl⟩
  case g1 => intro s r v c h0 h1 h2 h3 h4 h5 h6 h7 h8; exact hb _ (by omega)
  case g2 => intro s r v c h0 h1 h2 h3 h4 h5 h6 h7 h8 h9; exact ⟨rfl, by omega, by omega, cloud2_start h7⟩
  case g8 => intro s r v c h0 h1 h2 h3 h4 h5 h6 h7 h8 h9; exact ⟨rfl, by omega, by omega, cloud2_start h7⟩
  case g3 => intro s r v c h0 h1 h2 h3 h4 h5 h6 h7 h8 h9 j w d k0 k1 k2 k3 k4; have := cloud2_len h0 h8 k3; simp only [List.length_map, List.length_cons, List.length_nil, Go.maxLen]; omega
  case g9 => intro s r v c h0 h1 h2 h3 h4 h5 h6 h7 h8 h9 j w d k0 k1 k2 k3 k4; have := cloud2_len h0 h8 k3; simp only [List.length_map, List.length_cons, List.length_nil, Go.maxLen]; omega
  case g4 => intro s r v c h0 h1 h2 h3 h4 h5 h6 h7 h8 h9 j w d k0 k1 k2 k3 k4; have := cloud2_len h0 h8 k3; simp only [List.length_map, List.length_cons, List.length_nil]; omega
  case g10 => intro s r v c h0 h1 h2 h3 h4 h5 h6 h7 h8 h9 j w d k0 k1 k2 k3 k4; have := cloud2_len h0 h8 k3; simp only [List.length_map, List.length_cons, List.length_nil]; omega
  case g5 => intro s r v c h0 h1 h2 h3 h4 h5 h6 h7 h8 h9 j w d k0 k1 k2 k3 k4; have := rest_len t r.toNat; omega
  case g11 => intro s r v c h0 h1 h2 h3 h4 h5 h6 h7 h8 h9 j w d k0 k1 k2 k3 k4; have := rest_len t r.toNat; omega
  case g6 => intro s r v c h0 h1 h2 h3 h4 h5 h6 h7 h8 h9 j w d k0 k1 k2 k3 k4; exact ⟨k0, by omega, by omega, cloud2_next h0 k1 k4 k3⟩
  case g12 => intro s r v c h0 h1 h2 h3 h4 h5 h6 h7 h8 h9 j w d k0 k1 k2 k3 k4; exact ⟨k0, by omega, by omega, cloud2_next h0 k1 k4 k3⟩
  case g7 =>
    intro s r v c h0 h1 h2 h3 h4 h5 h6 h7 h8 h9 j w d k0 k1 k2 k3 k4
    have hs := sz_next h0 h5
    rw [if_pos h9] at hs
    subst k0
    exact ⟨by omega, by omega, by omega, by omega, by simpa using h4, hs, vec_next h0 h8 h6, cloud_next h0 k4 k3⟩
  case g13 =>
    intro s r v c h0 h1 h2 h3 h4 h5 h6 h7 h8 h9 j w d k0 k1 k2 k3 k4
    have hs := sz_next h0 h5
    rw [if_neg h9] at hs
    subst k0
    exact ⟨by omega, by omega, by omega, by omega, by simpa using h4, hs, vec_next h0 h8 h6, cloud_next h0 k4 k3⟩
  case g14 => intro s r v c h0 h1 h2 h3 h4 h5 h6 h7 h8 h9; rw [List.drop_zero, List.length_take]; omega
  case g15 =>
    intro s r v c h0 h1 h2 h3 h4 h5 h6 h7 h8 h9
    rw [tab_end h1 h8 h5 h6 h7]
    show AV.agg [AV.sl (List.map c3 (List.take (s - 0).toNat (List.drop 0 v))), AV.sl (List.map c81 c)] = _
    rw [List.drop_zero, Int.sub_zero]
    rfl
  case g16 => intro s r v c h0 h1 h2 h3 h4 h5 h6 h7 h8 h9; rw [tab_end h1 h8 h5 h6 h7]
  case g17 => intro s r v c h0 h1 h2 h3 h4 h5 h6 h7 h8 h9; rw [tab_end h1 h8 h5 h6 h7, show s.toNat = 0 by omega]; rfl
end Go.Proofs.Ytjngmlkaijpbgaa
namespace Go.Proofs.Ytjngmlkaijpbgaa
open Go.E
set_option maxRecDepth 100000
set_option maxHeartbeats 4000000
def dotB (d : Dot) : Bool := decide (0 ≤ d.rep ∧ d.rep < 16 ∧ 1 ≤ d.num ∧ d.num ≤ 1000000000)
def ofT (dots : List Dot) (r : Nat) : List Run := (dots.filter fun d => dotB d && decide (d.rep = r)).map fun d => ⟨d.num, d.num⟩
def isTab (dots : List Dot) (i : Int) (T : Nat → List Run) : Prop := ∀ r : Nat, r < 16 → T r = ofT (dots.take i.toNat) r
def inv62 (dots : List Dot) (i : Int) (T : Nat → List Run) : Prop := 0 ≤ i ∧ i ≤ dots.length ∧ isTab dots i T
def dec62 (dots : List Dot) (i : Int) (T : Nat → List Run) : Nat := (dots.length - i).toNat
theorem tabP_congr {T U : Nat → List Run} (h : ∀ r : Nat, r < 16 → T r = U r) : tabP T = tabP U := by
  have hl : ∀ n : Nat, n ≤ 16 → szT T n = szT U n ∧ cloudT T n = cloudT U n := by
    intro n
    induction n with
    | zero => intro _; exact ⟨rfl, rfl⟩
    | succ n ih =>
      intro hn
      obtain ⟨h1, h2⟩ := ih (by omega)
      have e := h n (by omega)
      exact ⟨by rw [szT, szT, h1, leadT, leadT, e], by rw [cloudT, cloudT, h2, restT, restT, e]⟩
  have hv : vecT T 16 = vecT U 16 := by
    unfold vecT
    congr 1
    refine List.map_congr_left fun r hr => ?_
    have hr : r < 16 := by simpa using hr
    rw [leadT, leadT, h r hr]
  unfold tabP
  rw [(hl 16 (Nat.le_refl _)).1, (hl 16 (Nat.le_refl _)).2, hv]
theorem ofT_len (dots : List Dot) (r : Nat) : (ofT dots r).length ≤ dots.length := by
  unfold ofT
  rw [List.length_map]
  exact List.length_filter_le _ _
theorem ofT_app (a : List Dot) (d : Dot) (r : Nat) : ofT (a ++ [d]) r = ofT a r ++ if dotB d = true ∧ d.rep = (r : Int) then [⟨d.num, d.num⟩] else [] := by
  unfold ofT
  rw [List.filter_append, List.map_append]
  congr 1
  by_cases h : dotB d = true ∧ d.rep = (r : Int)
  · rw [if_pos h]; simp [List.filter_cons, h.1, h.2]
  · rw [if_neg h]
    have : (dotB d && decide (d.rep = (r : Int))) = false := by
      rw [Bool.and_eq_false_iff]
      by_cases h1 : dotB d = true
      · exact .inr (by simpa using fun h2 => h ⟨h1, h2⟩)
      · exact .inl (by simpa using h1)
    simp [List.filter_cons, this]
theorem dotB_in {d : Dot} (h : dotB d = true) : 0 ≤ d.rep ∧ d.rep < 16 ∧ 1 ≤ d.num ∧ d.num ≤ 1000000000 := by
  unfold dotB at h
  simpa using h
theorem tab_len {dots : List Dot} {i : Int} {T : Nat → List Run} (h1 : i ≤ dots.length) (ht : isTab dots i T) {r : Nat} (hr : r < 16) : ((T r).length : Int) ≤ i ∨ (T r).length = 0 := by
  rw [ht r hr]
  have := ofT_len (dots.take i.toNat) r
  rw [List.length_take] at this
  omega
theorem tab_in {dots : List Dot} {i : Int} {T : Nat → List Run} (h0 : 0 ≤ i) (h1 : i < dots.length) (ht : isTab dots i T) (hd : dotB dots[i.toNat]! = true) :
    isTab dots (i + 1) (updF T dots[i.toNat]!.rep.toNat (T dots[i.toNat]!.rep.toNat ++ [⟨dots[i.toNat]!.num, dots[i.toNat]!.num⟩])) := by
  intro r hr
  have hb := dotB_in hd
  rw [← take_step h0 h1, ofT_app]
  unfold updF
  by_cases e : r = dots[i.toNat]!.rep.toNat
  · rw [if_pos e, if_pos ⟨hd, by omega⟩, ← e, ht r hr]
  · rw [if_neg e, if_neg (fun k => e (by omega)), List.append_nil, ht r hr]
theorem tab_out {dots : List Dot} {i : Int} {T : Nat → List Run} (h0 : 0 ≤ i) (h1 : i < dots.length) (ht : isTab dots i T) (hd : dotB dots[i.toNat]! = false) : isTab dots (i + 1) T := by
  intro r hr
  rw [← take_step h0 h1, ofT_app, if_neg (fun k => by rw [hd] at k; cases k.1), List.append_nil, ht r hr]
theorem con80 (d : Dot) : Con Try.prog 80 [.agg (c26 d)] (.b (dotB d)) :=
  by
  refine st_con tab_ok (by kernel_rfl) [.tmp 2] 21 Go.Proofs.Try.func80 (by kernel_rfl) (by kernel_rfl) ?_
  intro e0 cx
  refine sq ?_
  refine rg (A := True) cx [] [1] [1] trivial ?_
  refine sn ?_
  refine sq ?_
  refine st_join (σ' := ⟨[(2, .b (decide ((0 : Int) ≤ d.rep ∧ d.rep < (16 : Int) ∧ (1 : Int) ≤ d.num ∧ d.num ≤ (1000000000 : Int))))], []⟩) ?_ ?_
  refine st_split ((0 : Int) ≤ d.rep) (fun h_1 => ?_) (fun h_1 => ?_)
  refine st_split (d.rep < (16 : Int)) (fun h_2 => ?_) (fun h_2 => ?_)
  refine st_split ((1 : Int) ≤ d.num) (fun h_3 => ?_) (fun h_3 => ?_)
  refine rg (A := _ ∧ _ ∧ _ ∧ (AV.b (decide (d.num ≤ (1000000000 : Int))) = AV.b (decide (d.num ≤ (1000000000 : Int)))) ∧ (AV.b (decide (d.num ≤ (1000000000 : Int))) = AV.b (decide ((0 : Int) ≤ d.rep ∧ d.rep < (16 : Int) ∧ (1 : Int) ≤ d.num ∧ d.num ≤ (1000000000 : Int))))) cx [(2, { tell := some (.b (true)) }), (6, { tell := some (.b (true)) }), (11, { tell := some (.b (true)) }), (16, { tell := some (.b (decide (d.num ≤ (1000000000 : Int)))) }), (18, { tell := some (.b (decide ((0 : Int) ≤ d.rep ∧ d.rep < (16 : Int) ∧ (1 : Int) ≤ d.num ∧ d.num ≤ (1000000000 : Int)))) })] [2] [] ⟨(told_true h_1), (told_true h_2), (told_true h_3), (by kernel_rfl), (by simp only [eq_true h_1, eq_true h_2, eq_true h_3, told_simp1, told_simp2, and_true, true_and, and_false, false_and, or_true, true_or, or_false, false_or, not_true_eq_false, not_false_eq_true, decide_true, decide_false, Bool.decide_eq_true])⟩ ?_
  exact ⟨rfl, by kernel_rfl⟩
  refine rg (A := _ ∧ _ ∧ _ ∧ (AV.b false = AV.b (decide ((0 : Int) ≤ d.rep ∧ d.rep < (16 : Int) ∧ (1 : Int) ≤ d.num ∧ d.num ≤ (1000000000 : Int))))) cx [(2, { tell := some (.b (true)) }), (6, { tell := some (.b (true)) }), (11, { tell := some (.b (false)) }), (18, { tell := some (.b (decide ((0 : Int) ≤ d.rep ∧ d.rep < (16 : Int) ∧ (1 : Int) ≤ d.num ∧ d.num ≤ (1000000000 : Int)))) })] [2] [] ⟨(told_true h_1), (told_true h_2), (told_false h_3), (by simp only [eq_true h_1, eq_true h_2, eq_false h_3, told_simp1, told_simp2, and_true, true_and, and_false, false_and, or_true, true_or, or_false, false_or, not_true_eq_false, not_false_eq_true, decide_true, decide_false, Bool.decide_eq_true])⟩ ?_
  exact ⟨rfl, by kernel_rfl⟩
  refine rg (A := _ ∧ _ ∧ (AV.b false = AV.b (decide ((0 : Int) ≤ d.rep ∧ d.rep < (16 : Int) ∧ (1 : Int) ≤ d.num ∧ d.num ≤ (1000000000 : Int))))) cx [(2, { tell := some (.b (true)) }), (6, { tell := some (.b (false)) }), (18, { tell := some (.b (decide ((0 : Int) ≤ d.rep ∧ d.rep < (16 : Int) ∧ (1 : Int) ≤ d.num ∧ d.num ≤ (1000000000 : Int)))) })] [2] [] ⟨(told_true h_1), (told_false h_2), (by simp only [eq_true h_1, eq_false h_2, told_simp1, told_simp2, and_true, true_and, and_false, false_and, or_true, true_or, or_false, false_or, not_true_eq_false, not_false_eq_true, decide_true, decide_false, Bool.decide_eq_true])⟩ ?_
  exact ⟨rfl, by kernel_rfl⟩
  refine rg (A := _ ∧ (AV.b false = AV.b (decide ((0 : Int) ≤ d.rep ∧ d.rep < (16 : Int) ∧ (1 : Int) ≤ d.num ∧ d.num ≤ (1000000000 : Int))))) cx [(2, { tell := some (.b (false)) }), (18, { tell := some (.b (decide ((0 : Int) ≤ d.rep ∧ d.rep < (16 : Int) ∧ (1 : Int) ≤ d.num ∧ d.num ≤ (1000000000 : Int)))) })] [2] [] ⟨(told_false h_1), (by simp only [eq_false h_1, told_simp1, told_simp2, and_true, true_and, and_false, false_and, or_true, true_or, or_false, false_or, not_true_eq_false, not_false_eq_true, decide_true, decide_false, Bool.decide_eq_true])⟩ ?_
  exact ⟨rfl, by kernel_rfl⟩
  refine sn ?_
  refine st_ret (by kernel_rfl) ?_
  refine q_ret (r := .b (decide ((0 : Int) ≤ d.rep ∧ d.rep < (16 : Int) ∧ (1 : Int) ≤ d.num ∧ d.num ≤ (1000000000 : Int)))) (obl := []) (by kernel_rfl) trivial (AVle.eq (show AV.b (decide ((0 : Int) ≤ d.rep ∧ d.rep < (16 : Int) ∧ (1 : Int) ≤ d.num ∧ d.num ≤ (1000000000 : Int))) = AV.b (dotB d) from ?g0)); rotate_left 1
  case g0 => exact rfl
theorem con62 (dots : List Dot) (hb : dots.length * 16 ≤ 140737488351232) : Con Try.prog 62 [.sl (dots.map c26)] (.agg (c36 (tabP (ofT dots)))) :=
  by
  refine con_lens 0 (c26) (dots) (by kernel_rfl) Go.Proofs.Try.func62 (by kernel_rfl) fun hl_0 => ?_
  refine st_con tab_ok (by kernel_rfl) [.cell 2 36] 37 Go.Proofs.Try.func62 (by kernel_rfl) (by kernel_rfl) ?_
  intro e0 cx
  refine sq ?_
  refine rg (A := True) cx [] [0, 2] [2] trivial ?_
  refine sn ?_
  refine sq ?_
  refine rg (A := True) cx [] [0, 2, 3] [2, 7] trivial ?_
  refine sn ?_
  refine sq ?_
  refine sq ?_
  refine rg (A := _) cx [(1, { tell := some (.i .i64 ((↑dots.length : Int))) })] [2, 3, 8, 9, 10] [2, 7] (told_len c26 dots) ?_
  refine sn ?_
  refine st_block 0 (by kernel_rfl) ?_
  refine awp_tabIn 7 108 2 100700 16 (σ' := ⟨[(2, .ptr (2) (0) (0) (0)), (3, .ptr (7) (0) (0) (0)), (8, .sl (List.map c26 dots)), (9, .i .i64 ((↑dots.length : Int))), (10, .i .i64 ((0 : Int)))], [(2, ⟨0, 36, .var [.nl, .nl]⟩), (7, ⟨0, 106, .var (ownsC 100700 16)⟩)] ++ tabRows 100700 108 2 16 (c108) (fun x ↦ [])⟩) (by kernel_rfl) ?_
  refine st_loop (X := Int × (Nat → List Run)) (fun x => ⟨[(2, .ptr (2) (0) (0) (0)), (3, .ptr (7) (0) (0) (0)), (8, .sl (List.map c26 dots)), (9, .i .i64 ((↑dots.length : Int))), (10, .i .i64 (x.fst))], [(2, ⟨0, 36, .var [.nl, .nl]⟩), (7, ⟨0, 106, .var (ownsC 100700 16)⟩)] ++ tabRows 100700 108 2 16 (c108) (x.snd)⟩) (fun x ↦ dec62 dots x.fst x.snd) (fun x ↦ inv62 dots x.fst x.snd) [2, 3, 8, 9, 10] ([2, 7] ++ List.range' 100700 16) (((0 : Int), fun x ↦ [])) (by kernel_rfl) (by kernel_rfl) (show inv62 dots (0 : Int) fun x ↦ [] from ?g0) ?_; rotate_left 1
  rintro ⟨i_0, T_1⟩ h_2
  obtain ⟨h_3, h_4, h_5⟩ : (0 : Int) ≤ i_0 ∧ i_0 ≤ (↑dots.length : Int) ∧ isTab dots i_0 T_1 := h_2
  refine sq ?_
  refine rg (A := (AV.b (decide (i_0 < (↑dots.length : Int))) = AV.b (decide (i_0 < (↑dots.length : Int))))) cx [(0, { tell := some (.b (decide (i_0 < (↑dots.length : Int)))) })] [2, 3, 8, 9, 10, 11] ([2, 7] ++ List.range' 100700 16) (by kernel_rfl) ?_
  refine sn ?_
  refine sq ?_
  refine st_dec (i_0 < (↑dots.length : Int)) (by kernel_rfl) (by kernel_rfl) (fun h_6 => ?_) (fun h_6 => ?_)
  refine st_skip (by kernel_rfl) ?_
  refine sn ?_
  refine sq ?_
  refine st_block 1 (by kernel_rfl) ?_
  refine sq ?_
  refine rg (A := ((0 : Int) ≤ i_0) ∧ ((List.map c26 dots)[i_0.toNat]? = some (c26 dots[i_0.toNat]!)) ∧ ((c26 dots[i_0.toNat]!).length = (2 : Nat)) ∧ ((2 : Nat) ≤ [AV.i IntKind.i64 dots[i_0.toNat]!.rep, AV.i IntKind.i64 dots[i_0.toNat]!.num].length)) cx [(0, { row := (c26 dots[i_0.toNat]!) })] [2, 3, 8, 9, 10, 5] ([2, 7] ++ List.range' 100700 16 ++ [5]) ⟨(by (with_reducible assumption)), (by (with_reducible refine get_map ?_; omega)), (by kernel_rfl), (by (simp only [List.length_append, List.length_cons, List.length_nil]; omega))⟩ ?_
  refine sn ?_
  refine sq ?_
  refine rg (A := _) cx [(1, { val := some (.b (dotB dots[i_0.toNat]!)) })] [2, 3, 8, 9, 10, 5, 15] ([2, 7] ++ List.range' 100700 16 ++ [5]) (con80 (dots[i_0.toNat]!)) ?_
  refine sn ?_
  refine st_cond (dotB dots[i_0.toNat]!) (by kernel_rfl) (by kernel_rfl) (fun h_7 => ?_) (fun h_7 => ?_)
  refine st_any16 (F := fun kx => ⟨[(2, .ptr (2) (0) (0) (0)), (3, .ptr (7) (0) (0) (0)), (8, .sl (List.map c26 dots)), (9, .i .i64 ((↑dots.length : Int))), (10, .i .i64 (i_0)), (5, .ptr (5) (0) (0) (0)), (15, .b (dotB dots[i_0.toNat]!))], [(2, ⟨0, 36, .var [.nl, .nl]⟩), (7, ⟨0, 106, .var (ownsC 100700 16)⟩)] ++ tabRows 100700 108 2 16 (c108) (T_1) ++ [(5, ⟨0, 26, .var [.i .i64 (kx), .i .i64 (dots[i_0.toNat]!.num)]⟩)]⟩) (G := fun kx => ⟨[(2, .ptr (2) (0) (0) (0)), (3, .ptr (7) (0) (0) (0)), (8, .sl (List.map c26 dots)), (9, .i .i64 ((↑dots.length : Int))), (10, .i .i64 (i_0))], [(2, ⟨0, 36, .var [.nl, .nl]⟩), (7, ⟨0, 106, .var (ownsC 100700 16)⟩)] ++ tabRows 100700 108 2 16 (c108) (updF T_1 kx.toNat (T_1 kx.toNat ++ [{ lo := dots[i_0.toNat]!.num, hi := dots[i_0.toNat]!.num : Run }]))⟩) (A := fun kx => ((0 : Int) ≤ kx) ∧ (kx < (↑(16 : Nat) : Int)) ∧ (108 = (108 : Nat)) ∧ ((2 : Nat) = 2) ∧ ([AV.i IntKind.i64 (0 : Int), AV.i IntKind.i64 (0 : Int)].length = (2 : Nat)) ∧ (∀ (r : List AV), r ∈ List.map c108 [{ lo := dots[i_0.toNat]!.num, hi := dots[i_0.toNat]!.num : Run }] → r.length = 2) ∧ ((List.map c108 (T_1 kx.toNat)).length + (List.map c108 [{ lo := dots[i_0.toNat]!.num, hi := dots[i_0.toNat]!.num : Run }]).length ≤ maxLen) ∧ (((List.map c108 (T_1 kx.toNat)).length + (List.map c108 [{ lo := dots[i_0.toNat]!.num, hi := dots[i_0.toNat]!.num : Run }]).length) * (16 : Nat) ≤ (140737488355328 : Nat)) ∧ (List.map c108 (T_1 kx.toNat) ++ List.map c108 [{ lo := dots[i_0.toNat]!.num, hi := dots[i_0.toNat]!.num : Run }] = List.map c108 (T_1 kx.toNat ++ [{ lo := dots[i_0.toNat]!.num, hi := dots[i_0.toNat]!.num : Run }])) ∧ ((0 : Int) ≤ kx) ∧ (kx < (↑(16 : Nat) : Int))) cx (fun kx => [(15, { rows := some (List.map c108 (T_1 kx.toNat ++ [{ lo := dots[i_0.toNat]!.num, hi := dots[i_0.toNat]!.num : Run }])) })]) [2, 3, 8, 9, 10] ([2, 7] ++ List.range' 100700 16) (dots[i_0.toNat]!.rep) ?g7 ?g8 (by kernel_rfl) (by kernel_rfl) ⟨(by show _ = _; kernel_rfl), (by show _ = _; kernel_rfl), (by show _ = _; kernel_rfl), (by show _ = _; kernel_rfl), (by show _ = _; kernel_rfl), (by show _ = _; kernel_rfl), (by show _ = _; kernel_rfl), (by show _ = _; kernel_rfl), (by show _ = _; kernel_rfl), (by show _ = _; kernel_rfl), (by show _ = _; kernel_rfl), (by show _ = _; kernel_rfl), (by show _ = _; kernel_rfl), (by show _ = _; kernel_rfl), (by show _ = _; kernel_rfl), (by show _ = _; kernel_rfl)⟩ ⟨?g1, ?g2, (by kernel_rfl), (by kernel_rfl), (by kernel_rfl), (by (with_reducible refine len_map (fun _ => ?_) _; kernel_rfl)), ?g3, ?g4, (by (with_reducible refine app_map ?_; kernel_rfl)), ?g5, ?g6⟩ ?_; rotate_left 8
  refine q_blk_normal ?_
  refine sn ?_
  refine rg (A := (AV.i IntKind.i64 (IntKind.i64.wrap (i_0 + (1 : Int))) = AV.i IntKind.i64 (i_0 + (1 : Int)))) cx [(0, { tell := some (.i .i64 (i_0 + (1 : Int))) })] [2, 3, 8, 9, 10] ([2, 7] ++ List.range' 100700 16) (told_i64 (by omega) (by omega)) ?_
  refine sn ?_
  refine loop_next ((i_0 + (1 : Int), updF T_1 dots[i_0.toNat]!.rep.toNat (T_1 dots[i_0.toNat]!.rep.toNat ++ [{ lo := dots[i_0.toNat]!.num, hi := dots[i_0.toNat]!.num : Run }]))) (by kernel_rfl) (show ((↑dots.length : Int) - (i_0 + (1 : Int))).toNat < ((↑dots.length : Int) - i_0).toNat from (by omega)) (show inv62 dots (i_0 + (1 : Int)) (updF T_1 dots[i_0.toNat]!.rep.toNat (T_1 dots[i_0.toNat]!.rep.toNat ++ [{ lo := dots[i_0.toNat]!.num, hi := dots[i_0.toNat]!.num : Run }])) from ?g9); rotate_left 1
  refine st_skip (by kernel_rfl) ?_
  refine q_blk_normal ?_
  refine sn ?_
  refine rg (A := (AV.i IntKind.i64 (IntKind.i64.wrap (i_0 + (1 : Int))) = AV.i IntKind.i64 (i_0 + (1 : Int)))) cx [(0, { tell := some (.i .i64 (i_0 + (1 : Int))) })] [2, 3, 8, 9, 10] ([2, 7] ++ List.range' 100700 16) (told_i64 (by omega) (by omega)) ?_
  refine sn ?_
  refine loop_next ((i_0 + (1 : Int), T_1)) (by kernel_rfl) (show ((↑dots.length : Int) - (i_0 + (1 : Int))).toNat < ((↑dots.length : Int) - i_0).toNat from (by omega)) (show inv62 dots (i_0 + (1 : Int)) T_1 from ?g10); rotate_left 1
  refine st_exit 0 (by kernel_rfl) ?_
  refine q_seq_exit ?_
  refine q_seq_exit ?_
  refine q_blk_hit ?_
  refine sn ?_
  refine sq ?_
  refine awp_norm (List.range' 100700 16) [2, 3, 8, 9, 10, 11] [2, 7] (σ' := ⟨[(2, .ptr (2) (0) (0) (0)), (3, .ptr (7) (0) (0) (0)), (8, .sl (List.map c26 dots)), (9, .i .i64 ((↑dots.length : Int))), (10, .i .i64 (i_0)), (11, .b (decide (i_0 < (↑dots.length : Int))))], [(2, ⟨0, 36, .var [.nl, .nl]⟩), (7, ⟨0, 106, .var [.sl (List.map c108 (T_1 (0))), .sl (List.map c108 (T_1 (1))), .sl (List.map c108 (T_1 (2))), .sl (List.map c108 (T_1 (3))), .sl (List.map c108 (T_1 (4))), .sl (List.map c108 (T_1 (5))), .sl (List.map c108 (T_1 (6))), .sl (List.map c108 (T_1 (7))), .sl (List.map c108 (T_1 (8))), .sl (List.map c108 (T_1 (9))), .sl (List.map c108 (T_1 (10))), .sl (List.map c108 (T_1 (11))), .sl (List.map c108 (T_1 (12))), .sl (List.map c108 (T_1 (13))), .sl (List.map c108 (T_1 (14))), .sl (List.map c108 (T_1 (15)))]⟩)]⟩) (by kernel_rfl) ?_
  refine awp_varArr 7 ⟨0, 106, .var [.sl (List.map c108 (T_1 (0))), .sl (List.map c108 (T_1 (1))), .sl (List.map c108 (T_1 (2))), .sl (List.map c108 (T_1 (3))), .sl (List.map c108 (T_1 (4))), .sl (List.map c108 (T_1 (5))), .sl (List.map c108 (T_1 (6))), .sl (List.map c108 (T_1 (7))), .sl (List.map c108 (T_1 (8))), .sl (List.map c108 (T_1 (9))), .sl (List.map c108 (T_1 (10))), .sl (List.map c108 (T_1 (11))), .sl (List.map c108 (T_1 (12))), .sl (List.map c108 (T_1 (13))), .sl (List.map c108 (T_1 (14))), .sl (List.map c108 (T_1 (15)))]⟩ [.sl (List.map c108 (T_1 (0))), .sl (List.map c108 (T_1 (1))), .sl (List.map c108 (T_1 (2))), .sl (List.map c108 (T_1 (3))), .sl (List.map c108 (T_1 (4))), .sl (List.map c108 (T_1 (5))), .sl (List.map c108 (T_1 (6))), .sl (List.map c108 (T_1 (7))), .sl (List.map c108 (T_1 (8))), .sl (List.map c108 (T_1 (9))), .sl (List.map c108 (T_1 (10))), .sl (List.map c108 (T_1 (11))), .sl (List.map c108 (T_1 (12))), .sl (List.map c108 (T_1 (13))), .sl (List.map c108 (T_1 (14))), .sl (List.map c108 (T_1 (15)))] (tabC c108 (16 : Nat) T_1) (σ' := ⟨[(2, .ptr (2) (0) (0) (0)), (3, .ptr (7) (0) (0) (0)), (8, .sl (List.map c26 dots)), (9, .i .i64 ((↑dots.length : Int))), (10, .i .i64 (i_0)), (11, .b (decide (i_0 < (↑dots.length : Int))))], [(2, ⟨0, 36, .var [.nl, .nl]⟩), (7, ⟨0, 106, .arr (tabC c108 (16 : Nat) T_1)⟩)]⟩) (by kernel_rfl) (by kernel_rfl) (by kernel_rfl) (by kernel_rfl) (ZLe.of_eq (by kernel_rfl)) (by kernel_rfl) ?_
  refine rg (A := _) cx [(1, { val := some (.agg [.sl (List.map c3 (tabP T_1).vec), .sl (List.map c81 (tabP T_1).cloud)]) })] [2] [2] (con81 (T_1) ?g11) ?_; rotate_left 1
  refine sn ?_
  refine st_ret (by kernel_rfl) ?_
  refine q_ret (r := .agg [.sl (List.map c3 (tabP T_1).vec), .sl (List.map c81 (tabP T_1).cloud)]) (obl := []) (by kernel_rfl) trivial (AVle.eq (show AV.agg [AV.sl (List.map c3 (tabP T_1).vec), AV.sl (List.map c81 (tabP T_1).cloud)] = AV.agg (c36 (tabP (ofT dots))) from ?g12)); rotate_left 1
  rotate_left
  revert i_0 T_1 h_3 h_4 h_5 h_6 h_7; rotate_left
  revert i_0 T_1 h_3 h_4 h_5 h_6 h_7; rotate_left
  revert i_0 T_1 h_3 h_4 h_5 h_6 h_7; rotate_left
  revert i_0 T_1 h_3 h_4 h_5 h_6 h_7; rotate_left
  revert i_0 T_1 h_3 h_4 h_5 h_6 h_7; rotate_left
  revert i_0 T_1 h_3 h_4 h_5 h_6 h_7; rotate_left
  revert i_0 T_1 h_3 h_4 h_5 h_6 h_7; rotate_left
  revert i_0 T_1 h_3 h_4 h_5 h_6 h_7; rotate_left
  revert i_0 T_1 h_3 h_4 h_5 h_6 h_7; rotate_left
  revert i_0 T_1 h_3 h_4 h_5 h_6 h_7; rotate_left
  revert i_0 T_1 h_3 h_4 h_5 h_6; rotate_left
  revert i_0 T_1 h_3 h_4 h_5 h_6; rotate_left
  case g0 => exact ⟨by omega, by omega, fun r _ => by simp [ofT]⟩
  case g1 => intro i T h0 h1 h2 h3 h4; exact (dotB_in h4).1
  case g2 => intro i T h0 h1 h2 h3 h4; exact (dotB_in h4).2.1
  case g3 => intro i T h0 h1 h2 h3 h4; have hd := dotB_in h4; have := tab_len h1 h2 (r := dots[i.toNat]!.rep.toNat) (by omega); simp only [List.length_map, List.length_cons, List.length_nil, Go.maxLen]; omega
  case g4 => intro i T h0 h1 h2 h3 h4; have hd := dotB_in h4; have := tab_len h1 h2 (r := dots[i.toNat]!.rep.toNat) (by omega); simp only [List.length_map, List.length_cons, List.length_nil]; omega
  case g5 => intro i T h0 h1 h2 h3 h4; exact (dotB_in h4).1
  case g6 => intro i T h0 h1 h2 h3 h4; exact (dotB_in h4).2.1
  case g7 => intro i T h0 h1 h2 h3 h4; exact (dotB_in h4).1
  case g8 => intro i T h0 h1 h2 h3 h4; exact (dotB_in h4).2.1
  case g9 => intro i T h0 h1 h2 h3 h4; exact ⟨by omega, by omega, tab_in h0 h3 h2 h4⟩
  case g10 => intro i T h0 h1 h2 h3 h4; exact ⟨by omega, by omega, tab_out h0 h3 h2 h4⟩
  case g11 => intro i T h0 h1 h2 h3 r hr; have := tab_len h1 h2 hr; omega
  case g12 =>
    intro i T h0 h1 h2 h3
    have e : tabP T = tabP (ofT dots) := tabP_congr fun r hr => by rw [h2 r hr, List.take_of_length_le (by omega)]
    rw [e]
    rfl
end Go.Proofs.Ytjngmlkaijpbgaa
namespace Go.Proofs.Ytjngmlkaijpbgaa
open Go.E
set_option maxRecDepth 100000
set_option maxHeartbeats 4000000
def vecR (v : List Int) (r : Nat) : List Run := if r < v.length then [⟨1, v[r]!⟩] else []
def cloudR (c : List Span) (r : Nat) : List Run := (c.filter fun (s : Span) => decide (s.rep = (r : Int))).map fun s => ⟨s.lo, s.hi⟩
def openT (ps : List Past) (r : Nat) : List Run := (ps.map fun p => vecR p.vec r ++ cloudR p.cloud r).flatten
def isOpen (ps : List Past) (i : Int) (T : Nat → List Run) : Prop := ∀ r : Nat, r < 16 → T r = openT (ps.take i.toNat) r
def isOpenV (ps : List Past) (i j : Int) (T : Nat → List Run) : Prop := ∀ r : Nat, r < 16 → T r = openT (ps.take i.toNat) r ++ if (r : Int) < j then vecR (ps[i.toNat]!).vec r else []
def isOpenC (ps : List Past) (i j : Int) (T : Nat → List Run) : Prop := ∀ r : Nat, r < 16 → T r = openT (ps.take i.toNat) r ++ vecR (ps[i.toNat]!).vec r ++ cloudR ((ps[i.toNat]!).cloud.take j.toNat) r
def inv117a (ps : List Past) (i : Int) (T : Nat → List Run) : Prop := 0 ≤ i ∧ i ≤ ps.length ∧ isOpen ps i T
def dec117a (ps : List Past) (i : Int) (T : Nat → List Run) : Nat := (ps.length - i).toNat
def inv117b (ps : List Past) (i : Int) (n : Int) (j : Int) (T : Nat → List Run) (v : List Int) (c : List Span) : Prop := v = (ps[i.toNat]!).vec ∧ c = (ps[i.toNat]!).cloud ∧ 0 ≤ j ∧ j ≤ n ∧ isOpenV ps i j T
def dec117b (n : Int) (j : Int) (T : Nat → List Run) (v : List Int) (c : List Span) : Nat := (n - j).toNat
def inv117c (ps : List Past) (i : Int) (j : Int) (T : Nat → List Run) : Prop := 0 ≤ j ∧ j ≤ (ps[i.toNat]!).cloud.length ∧ isOpenC ps i j T
def dec117c (ps : List Past) (i : Int) (j : Int) (T : Nat → List Run) : Nat := ((ps[i.toNat]!).cloud.length - j).toNat
def totP (ps : List Past) : Nat := (ps.map fun p => p.cloud.length + 1).sum
theorem openT_app (a : List Past) (p : Past) (r : Nat) : openT (a ++ [p]) r = openT a r ++ (vecR p.vec r ++ cloudR p.cloud r) := by simp [openT]
theorem vecR_len (v : List Int) (r : Nat) : (vecR v r).length ≤ 1 := by unfold vecR; split <;> simp
theorem cloudR_len (c : List Span) (r : Nat) : (cloudR c r).length ≤ c.length := by
  unfold cloudR
  rw [List.length_map]
  exact List.length_filter_le _ _
theorem openT_len (r : Nat) : ∀ ps : List Past, (openT ps r).length ≤ totP ps
  | [] => by simp [openT]
  | p :: ps => by
    have h1 := openT_len r ps
    have h2 := vecR_len p.vec r
    have h3 := cloudR_len p.cloud r
    simp only [openT, totP, List.map_cons, List.flatten_cons, List.length_append, List.sum_cons] at *
    omega
theorem totP_app (a b : List Past) : totP (a ++ b) = totP a + totP b := by simp [totP]
theorem totP_take {ps : List Past} {i : Int} (h0 : 0 ≤ i) (h : i < ps.length) : totP (ps.take i.toNat) + (ps[i.toNat]!).cloud.length + 1 ≤ totP ps := by
  have e : totP ps = totP (ps.take (i + 1).toNat) + totP (ps.drop (i + 1).toNat) := by
    rw [← totP_app, List.take_append_drop]
  rw [← take_step h0 h] at e
  simp only [totP, List.map_append, List.sum_append, List.map_cons, List.map_nil, List.sum_cons, List.sum_nil] at *
  omega
theorem openV_start {ps : List Past} {i : Int} {T : Nat → List Run} (h : isOpen ps i T) : isOpenV ps i 0 T := fun r hr => by
  rw [h r hr, if_neg (by omega), List.append_nil]
theorem openV_next {ps : List Past} {i j : Int} {T : Nat → List Run} (j0 : 0 ≤ j) (jl : j < (ps[i.toNat]!).vec.length) (h : isOpenV ps i j T) :
    isOpenV ps i (j + 1) (updF T j.toNat (T j.toNat ++ [⟨1, (ps[i.toNat]!).vec[j.toNat]!⟩])) := by
  intro r hr
  unfold updF
  by_cases e : r = j.toNat
  · rw [if_pos e, ← e, h r hr, if_neg (by omega), if_pos (by omega), List.append_nil, vecR, if_pos (by omega)]
  · rw [if_neg e, h r hr]
    by_cases k : (r : Int) < j
    · rw [if_pos k, if_pos (by omega)]
    · rw [if_neg k, if_neg (by omega)]
theorem openC_start {ps : List Past} {i j : Int} {T : Nat → List Run} (j1 : j ≤ min ((ps[i.toNat]!).vec.length : Int) 16) (jl : ¬ j < min ((ps[i.toNat]!).vec.length : Int) 16) (h : isOpenV ps i j T) : isOpenC ps i 0 T := by
  intro r hr
  rw [h r hr, show (0 : Int).toNat = 0 from rfl, List.take_zero, show cloudR [] r = [] from rfl, List.append_nil]
  by_cases k : (r : Int) < j
  · rw [if_pos k]
  · rw [if_neg k, vecR, if_neg (by omega)]
theorem cloudR_app (c : List Span) (s : Span) (r : Nat) : cloudR (c ++ [s]) r = cloudR c r ++ if s.rep = (r : Int) then [⟨s.lo, s.hi⟩] else [] := by
  unfold cloudR
  rw [List.filter_append, List.map_append]
  congr 1
  by_cases h : s.rep = (r : Int)
  · rw [if_pos h]; simp [List.filter_cons, h]
  · rw [if_neg h]; simp [List.filter_cons, h]
theorem openC_in {ps : List Past} {i j : Int} {T : Nat → List Run} (j0 : 0 ≤ j) (jl : j < (ps[i.toNat]!).cloud.length) (hr : 0 ≤ ((ps[i.toNat]!).cloud[j.toNat]!).rep ∧ ((ps[i.toNat]!).cloud[j.toNat]!).rep < 16) (h : isOpenC ps i j T) :
    isOpenC ps i (j + 1) (updF T ((ps[i.toNat]!).cloud[j.toNat]!).rep.toNat (T ((ps[i.toNat]!).cloud[j.toNat]!).rep.toNat ++ [⟨((ps[i.toNat]!).cloud[j.toNat]!).lo, ((ps[i.toNat]!).cloud[j.toNat]!).hi⟩])) := by
  intro r hr'
  rw [← take_step j0 jl, cloudR_app]
  unfold updF
  by_cases e : r = ((ps[i.toNat]!).cloud[j.toNat]!).rep.toNat
  · rw [if_pos e, if_pos (by omega), ← e, h r hr', List.append_assoc, List.append_assoc]
  · rw [if_neg e, if_neg (by omega), List.append_nil, h r hr']
theorem openC_out {ps : List Past} {i j : Int} {T : Nat → List Run} (j0 : 0 ≤ j) (jl : j < (ps[i.toNat]!).cloud.length) (hr : ¬ (0 ≤ ((ps[i.toNat]!).cloud[j.toNat]!).rep ∧ ((ps[i.toNat]!).cloud[j.toNat]!).rep < 16)) (h : isOpenC ps i j T) : isOpenC ps i (j + 1) T := by
  intro r hr'
  rw [← take_step j0 jl, cloudR_app, if_neg (by omega), List.append_nil, h r hr']
theorem open_next {ps : List Past} {i j : Int} {T : Nat → List Run} (h0 : 0 ≤ i) (h1 : i < ps.length) (jl : ¬ j < (ps[i.toNat]!).cloud.length) (h : isOpenC ps i j T) : isOpen ps (i + 1) T := by
  intro r hr
  rw [← take_step h0 h1, openT_app, h r hr, List.take_of_length_le (l := (ps[i.toNat]!).cloud) (by omega), List.append_assoc]
theorem openV_len {ps : List Past} {i j : Int} {T : Nat → List Run} (h0 : 0 ≤ i) (h1 : i < ps.length) (h : isOpenV ps i j T) {r : Nat} (hr : r < 16) (k : ¬ (r : Int) < j) : (T r).length + 1 ≤ totP ps := by
  rw [h r hr, if_neg k, List.append_nil]
  have := openT_len r (ps.take i.toNat)
  have := totP_take h0 h1
  omega
theorem openC_len {ps : List Past} {i j : Int} {T : Nat → List Run} (h0 : 0 ≤ i) (h1 : i < ps.length) (j0 : 0 ≤ j) (jl : j < (ps[i.toNat]!).cloud.length) (h : isOpenC ps i j T) {r : Nat} (hr : r < 16) : (T r).length + 1 ≤ totP ps + 1 ∧ j + 1 ≤ totP ps := by
  rw [h r hr, List.length_append, List.length_append]
  have := openT_len r (ps.take i.toNat)
  have := totP_take h0 h1
  have := vecR_len (ps[i.toNat]!).vec r
  have := cloudR_len ((ps[i.toNat]!).cloud.take j.toNat) r
  rw [List.length_take] at this
  omega
theorem con117 (ps : List Past) (hb : totP ps * 16 ≤ 140737488351232) : ConB Try.prog 117 [.sl (ps.map c36)] 106 (.arr (tabC c108 16 (openT ps))) :=
  by
  refine conB_lens 0 (c36) (ps) (by kernel_rfl) Go.Proofs.Try.func117 (by kernel_rfl) fun hl_0 => ?_
  refine st_conB tab_ok (by kernel_rfl) (.tmp 2) 78 Go.Proofs.Try.func117 (by kernel_rfl) (by kernel_rfl) ?_
  intro e0 cx
  refine sq ?_
  refine rg (A := True) cx [] [0] [] trivial ?_
  refine sn ?_
  refine sq ?_
  refine rg (A := True) cx [] [0, 3] [10] trivial ?_
  refine sn ?_
  refine sq ?_
  refine sq ?_
  refine rg (A := _) cx [(1, { tell := some (.i .i64 ((↑ps.length : Int))) })] [3, 11, 12, 13] [10] (told_len c36 ps) ?_
  refine sn ?_
  refine st_block 0 (by kernel_rfl) ?_
  refine awp_tabIn 10 108 2 101000 16 (σ' := ⟨[(3, .ptr (10) (0) (0) (0)), (11, .sl (List.map c36 ps)), (12, .i .i64 ((↑ps.length : Int))), (13, .i .i64 ((0 : Int)))], [(10, ⟨0, 106, .var (ownsC 101000 16)⟩)] ++ tabRows 101000 108 2 16 (c108) (fun x ↦ [])⟩) (by kernel_rfl) ?_
  refine st_loop (X := Int × (Nat → List Run)) (fun x => ⟨[(3, .ptr (10) (0) (0) (0)), (11, .sl (List.map c36 ps)), (12, .i .i64 ((↑ps.length : Int))), (13, .i .i64 (x.fst))], [(10, ⟨0, 106, .var (ownsC 101000 16)⟩)] ++ tabRows 101000 108 2 16 (c108) (x.snd)⟩) (fun x ↦ dec117a ps x.fst x.snd) (fun x ↦ inv117a ps x.fst x.snd) [3, 11, 12, 13] ([10] ++ List.range' 101000 16) (((0 : Int), fun x ↦ [])) (by kernel_rfl) (by kernel_rfl) (show inv117a ps (0 : Int) fun x ↦ [] from ?g0) ?_; rotate_left 1
  rintro ⟨i_0, T_1⟩ h_2
  obtain ⟨h_3, h_4, h_5⟩ : (0 : Int) ≤ i_0 ∧ i_0 ≤ (↑ps.length : Int) ∧ isOpen ps i_0 T_1 := h_2
  refine sq ?_
  refine rg (A := (AV.b (decide (i_0 < (↑ps.length : Int))) = AV.b (decide (i_0 < (↑ps.length : Int))))) cx [(0, { tell := some (.b (decide (i_0 < (↑ps.length : Int)))) })] [3, 11, 12, 13, 14] ([10] ++ List.range' 101000 16) (by kernel_rfl) ?_
  refine sn ?_
  refine sq ?_
  refine st_dec (i_0 < (↑ps.length : Int)) (by kernel_rfl) (by kernel_rfl) (fun h_6 => ?_) (fun h_6 => ?_)
  refine st_skip (by kernel_rfl) ?_
  refine sn ?_
  refine sq ?_
  refine st_block 1 (by kernel_rfl) ?_
  refine sq ?_
  refine rg (A := ((0 : Int) ≤ i_0) ∧ ((List.map c36 ps)[i_0.toNat]? = some (c36 ps[i_0.toNat]!)) ∧ ((c36 ps[i_0.toNat]!).length = (2 : Nat)) ∧ ((2 : Nat) ≤ [AV.sl (List.map c3 ps[i_0.toNat]!.vec), AV.sl (List.map c81 ps[i_0.toNat]!.cloud)].length)) cx [(0, { row := (c36 ps[i_0.toNat]!) })] [3, 11, 12, 13, 5] ([10] ++ List.range' 101000 16 ++ [5]) ⟨(by (with_reducible assumption)), (by (with_reducible refine get_map ?_; omega)), (by kernel_rfl), (by (simp only [List.length_append, List.length_cons, List.length_nil]; omega))⟩ ?_
  refine sn ?_
  refine sq ?_
  refine sq ?_
  refine rg (A := _ ∧ (AV.i IntKind.i64 (if (16 : Int) < (↑ps[i_0.toNat]!.vec.length : Int) then (16 : Int) else (↑ps[i_0.toNat]!.vec.length : Int)) = AV.i IntKind.i64 (min (↑ps[i_0.toNat]!.vec.length : Int) (16 : Int)))) cx [(2, { tell := some (.i .i64 ((↑ps[i_0.toNat]!.vec.length : Int))) }), (3, { tell := some (.i .i64 (min (↑ps[i_0.toNat]!.vec.length : Int) (16 : Int))) })] [3, 11, 12, 13, 5, 20, 21] ([10] ++ List.range' 101000 16 ++ [5]) ⟨(told_len c3 ps[i_0.toNat]!.vec), (told_min)⟩ ?_
  refine sn ?_
  refine st_block 2 (by kernel_rfl) ?_
  refine st_loop (X := Int × (Nat → List Run) × List Int × List Span) (fun x => ⟨[(3, .ptr (10) (0) (0) (0)), (11, .sl (List.map c36 ps)), (12, .i .i64 ((↑ps.length : Int))), (13, .i .i64 (i_0)), (5, .ptr (5) (0) (0) (0)), (20, .i .i64 (min (↑ps[i_0.toNat]!.vec.length : Int) (16 : Int))), (21, .i .i64 (x.fst))], [(10, ⟨0, 106, .var (ownsC 101000 16)⟩)] ++ tabRows 101000 108 2 16 (c108) (x.snd.fst) ++ [(5, ⟨0, 36, .var [.sl (List.map c3 x.snd.snd.fst), .sl (List.map c81 x.snd.snd.snd)]⟩)]⟩) (fun x ↦ dec117b (min (↑ps[i_0.toNat]!.vec.length : Int) (16 : Int)) x.fst x.snd.fst x.snd.snd.fst x.snd.snd.snd) (fun x ↦ inv117b ps i_0 (min (↑ps[i_0.toNat]!.vec.length : Int) (16 : Int)) x.fst x.snd.fst x.snd.snd.fst x.snd.snd.snd) [3, 11, 12, 13, 5, 20, 21] ([10] ++ List.range' 101000 16 ++ [5]) (((0 : Int), T_1, ps[i_0.toNat]!.vec, ps[i_0.toNat]!.cloud)) (by kernel_rfl) (by kernel_rfl) (show inv117b ps i_0 (min (↑ps[i_0.toNat]!.vec.length : Int) (16 : Int)) (0 : Int) T_1 ps[i_0.toNat]!.vec ps[i_0.toNat]!.cloud from ?g1) ?_; rotate_left 1
  rintro ⟨j_7, T_8, v_9, c_10⟩ h_11
  obtain ⟨h_12, h_13, h_14, h_15, h_16⟩ : v_9 = ps[i_0.toNat]!.vec ∧ c_10 = ps[i_0.toNat]!.cloud ∧ (0 : Int) ≤ j_7 ∧ j_7 ≤ min (↑ps[i_0.toNat]!.vec.length : Int) (16 : Int) ∧ isOpenV ps i_0 j_7 T_8 := h_11
  refine sq ?_
  refine rg (A := (AV.b (decide (j_7 < min (↑ps[i_0.toNat]!.vec.length : Int) (16 : Int))) = AV.b (decide (j_7 < min (↑ps[i_0.toNat]!.vec.length : Int) (16 : Int))))) cx [(0, { tell := some (.b (decide (j_7 < min (↑ps[i_0.toNat]!.vec.length : Int) (16 : Int)))) })] [3, 11, 12, 13, 5, 20, 21, 22] ([10] ++ List.range' 101000 16 ++ [5]) (by kernel_rfl) ?_
  refine sn ?_
  refine sq ?_
  refine st_dec (j_7 < min (↑ps[i_0.toNat]!.vec.length : Int) (16 : Int)) (by kernel_rfl) (by kernel_rfl) (fun h_17 => ?_) (fun h_17 => ?_)
  refine st_skip (by kernel_rfl) ?_
  refine sn ?_
  refine sq ?_
  refine st_block 3 (by kernel_rfl) ?_
  refine sq ?_
  refine rg (A := True) cx [] [3, 11, 12, 13, 5, 20, 21, 6] ([10] ++ List.range' 101000 16 ++ [5]) trivial ?_
  refine sn ?_
  refine st_any16 (F := fun kx => ⟨[(3, .ptr (10) (0) (0) (0)), (11, .sl (List.map c36 ps)), (12, .i .i64 ((↑ps.length : Int))), (13, .i .i64 (i_0)), (5, .ptr (5) (0) (0) (0)), (20, .i .i64 (min (↑ps[i_0.toNat]!.vec.length : Int) (16 : Int))), (21, .i .i64 (kx)), (6, .i .i64 (kx))], [(10, ⟨0, 106, .var (ownsC 101000 16)⟩)] ++ tabRows 101000 108 2 16 (c108) (T_8) ++ [(5, ⟨0, 36, .var [.sl (List.map c3 v_9), .sl (List.map c81 c_10)]⟩)]⟩) (G := fun kx => ⟨[(3, .ptr (10) (0) (0) (0)), (11, .sl (List.map c36 ps)), (12, .i .i64 ((↑ps.length : Int))), (13, .i .i64 (i_0)), (5, .ptr (5) (0) (0) (0)), (20, .i .i64 (min (↑ps[i_0.toNat]!.vec.length : Int) (16 : Int))), (21, .i .i64 (kx))], [(10, ⟨0, 106, .var (ownsC 101000 16)⟩)] ++ tabRows 101000 108 2 16 (c108) (updF T_8 kx.toNat (T_8 kx.toNat ++ [{ lo := (1 : Int), hi := v_9[kx.toNat]! : Run }])) ++ [(5, ⟨0, 36, .var [.sl (List.map c3 v_9), .sl (List.map c81 c_10)]⟩)]⟩) (A := fun kx => ((0 : Int) ≤ kx) ∧ (kx < (↑(16 : Nat) : Int)) ∧ ((0 : Int) ≤ kx) ∧ ((List.map c3 v_9)[kx.toNat]? = some (c3 v_9[kx.toNat]!)) ∧ ((c3 v_9[kx.toNat]!).length = (1 : Nat)) ∧ (108 = (108 : Nat)) ∧ ((2 : Nat) = 2) ∧ ([AV.i IntKind.i64 (0 : Int), AV.i IntKind.i64 (0 : Int)].length = (2 : Nat)) ∧ (∀ (r : List AV), r ∈ List.map c108 [{ lo := (1 : Int), hi := v_9[kx.toNat]! : Run }] → r.length = 2) ∧ ((List.map c108 (T_8 kx.toNat)).length + (List.map c108 [{ lo := (1 : Int), hi := v_9[kx.toNat]! : Run }]).length ≤ maxLen) ∧ (((List.map c108 (T_8 kx.toNat)).length + (List.map c108 [{ lo := (1 : Int), hi := v_9[kx.toNat]! : Run }]).length) * (16 : Nat) ≤ (140737488355328 : Nat)) ∧ (List.map c108 (T_8 kx.toNat) ++ List.map c108 [{ lo := (1 : Int), hi := v_9[kx.toNat]! : Run }] = List.map c108 (T_8 kx.toNat ++ [{ lo := (1 : Int), hi := v_9[kx.toNat]! : Run }])) ∧ ((0 : Int) ≤ kx) ∧ (kx < (↑(16 : Nat) : Int))) cx (fun kx => [(10, { row := (c3 v_9[kx.toNat]!) }), (14, { rows := some (List.map c108 (T_8 kx.toNat ++ [{ lo := (1 : Int), hi := v_9[kx.toNat]! : Run }])) })]) [3, 11, 12, 13, 5, 20, 21] ([10] ++ List.range' 101000 16 ++ [5]) (j_7) (by (with_reducible assumption)) (by omega) (by kernel_rfl) (by kernel_rfl) ⟨(by show _ = _; kernel_rfl), (by show _ = _; kernel_rfl), (by show _ = _; kernel_rfl), (by show _ = _; kernel_rfl), (by show _ = _; kernel_rfl), (by show _ = _; kernel_rfl), (by show _ = _; kernel_rfl), (by show _ = _; kernel_rfl), (by show _ = _; kernel_rfl), (by show _ = _; kernel_rfl), (by show _ = _; kernel_rfl), (by show _ = _; kernel_rfl), (by show _ = _; kernel_rfl), (by show _ = _; kernel_rfl), (by show _ = _; kernel_rfl), (by show _ = _; kernel_rfl)⟩ ⟨(by (with_reducible assumption)), (by omega), (by (with_reducible assumption)), ?g2, (by kernel_rfl), (by kernel_rfl), (by kernel_rfl), (by kernel_rfl), (by (with_reducible refine len_map (fun _ => ?_) _; kernel_rfl)), ?g3, ?g4, (by (with_reducible refine app_map ?_; kernel_rfl)), (by (with_reducible assumption)), (by omega)⟩ ?_; rotate_left 3
  refine q_blk_normal ?_
  refine sn ?_
  refine rg (A := (AV.i IntKind.i64 (IntKind.i64.wrap (j_7 + (1 : Int))) = AV.i IntKind.i64 (j_7 + (1 : Int)))) cx [(0, { tell := some (.i .i64 (j_7 + (1 : Int))) })] [3, 11, 12, 13, 5, 20, 21] ([10] ++ List.range' 101000 16 ++ [5]) (told_i64 (by omega) (by omega)) ?_
  refine sn ?_
  refine loop_next ((j_7 + (1 : Int), updF T_8 j_7.toNat (T_8 j_7.toNat ++ [{ lo := (1 : Int), hi := v_9[j_7.toNat]! : Run }]), v_9, c_10)) (by kernel_rfl) (show (min (↑ps[i_0.toNat]!.vec.length : Int) (16 : Int) - (j_7 + (1 : Int))).toNat < (min (↑ps[i_0.toNat]!.vec.length : Int) (16 : Int) - j_7).toNat from (by omega)) (show inv117b ps i_0 (min (↑ps[i_0.toNat]!.vec.length : Int) (16 : Int)) (j_7 + (1 : Int)) (updF T_8 j_7.toNat (T_8 j_7.toNat ++ [{ lo := (1 : Int), hi := v_9[j_7.toNat]! : Run }])) v_9 c_10 from ?g5); rotate_left 1
  refine st_exit 2 (by kernel_rfl) ?_
  refine q_seq_exit ?_
  refine q_seq_exit ?_
  refine q_blk_hit ?_
  refine sn ?_
  refine sq ?_
  refine rg (A := _) cx [(2, { tell := some (.i .i64 ((↑c_10.length : Int))) })] [3, 11, 12, 13, 43, 44, 45] ([10] ++ List.range' 101000 16) (told_len c81 c_10) ?_
  refine sn ?_
  refine st_block 4 (by kernel_rfl) ?_
  refine st_loop (X := Int × (Nat → List Run)) (fun x => ⟨[(3, .ptr (10) (0) (0) (0)), (11, .sl (List.map c36 ps)), (12, .i .i64 ((↑ps.length : Int))), (13, .i .i64 (i_0)), (43, .sl (List.map c81 c_10)), (44, .i .i64 ((↑c_10.length : Int))), (45, .i .i64 (x.fst))], [(10, ⟨0, 106, .var (ownsC 101000 16)⟩)] ++ tabRows 101000 108 2 16 (c108) (x.snd)⟩) (fun x ↦ dec117c ps i_0 x.fst x.snd) (fun x ↦ inv117c ps i_0 x.fst x.snd) [3, 11, 12, 13, 43, 44, 45] ([10] ++ List.range' 101000 16) (((0 : Int), T_8)) (by kernel_rfl) (by kernel_rfl) (show inv117c ps i_0 (0 : Int) T_8 from ?g6) ?_; rotate_left 1
  rintro ⟨j_18, T_19⟩ h_20
  obtain ⟨h_21, h_22, h_23⟩ : (0 : Int) ≤ j_18 ∧ j_18 ≤ (↑ps[i_0.toNat]!.cloud.length : Int) ∧ isOpenC ps i_0 j_18 T_19 := h_20
  refine sq ?_
  refine rg (A := (AV.b (decide (j_18 < (↑c_10.length : Int))) = AV.b (decide (j_18 < (↑c_10.length : Int))))) cx [(0, { tell := some (.b (decide (j_18 < (↑c_10.length : Int)))) })] [3, 11, 12, 13, 43, 44, 45, 46] ([10] ++ List.range' 101000 16) (by kernel_rfl) ?_
  refine sn ?_
  refine sq ?_
  refine st_dec (j_18 < (↑c_10.length : Int)) (by kernel_rfl) (by kernel_rfl) (fun h_24 => ?_) (fun h_24 => ?_)
  refine st_skip (by kernel_rfl) ?_
  refine sn ?_
  refine sq ?_
  refine st_block 5 (by kernel_rfl) ?_
  refine sq ?_
  refine rg (A := ((0 : Int) ≤ j_18) ∧ ((List.map c81 c_10)[j_18.toNat]? = some (c81 c_10[j_18.toNat]!)) ∧ ((c81 c_10[j_18.toNat]!).length = (3 : Nat)) ∧ ((3 : Nat) ≤ [AV.i IntKind.i64 c_10[j_18.toNat]!.rep, AV.i IntKind.i64 c_10[j_18.toNat]!.lo, AV.i IntKind.i64 c_10[j_18.toNat]!.hi].length)) cx [(0, { row := (c81 c_10[j_18.toNat]!) })] [3, 11, 12, 13, 43, 44, 45, 8] ([10] ++ List.range' 101000 16 ++ [8]) ⟨(by (with_reducible assumption)), (by (with_reducible refine get_map ?_; omega)), (by kernel_rfl), (by (simp only [List.length_append, List.length_cons, List.length_nil]; omega))⟩ ?_
  refine sn ?_
  refine sq ?_
  refine st_join (σ' := ⟨[(3, .ptr (10) (0) (0) (0)), (11, .sl (List.map c36 ps)), (12, .i .i64 ((↑ps.length : Int))), (13, .i .i64 (i_0)), (43, .sl (List.map c81 c_10)), (44, .i .i64 ((↑c_10.length : Int))), (45, .i .i64 (j_18)), (8, .ptr (8) (0) (0) (0)), (56, .b (decide ((0 : Int) ≤ c_10[j_18.toNat]!.rep ∧ c_10[j_18.toNat]!.rep < (16 : Int))))], [(10, ⟨0, 106, .var (ownsC 101000 16)⟩)] ++ tabRows 101000 108 2 16 (c108) (T_19) ++ [(8, ⟨0, 81, .var [.i .i64 (c_10[j_18.toNat]!.rep), .i .i64 (c_10[j_18.toNat]!.lo), .i .i64 (c_10[j_18.toNat]!.hi)]⟩)]⟩) ?_ ?_
  refine st_split ((0 : Int) ≤ c_10[j_18.toNat]!.rep) (fun h_26 => ?_) (fun h_26 => ?_)
  refine rg (A := _ ∧ (AV.b (decide (c_10[j_18.toNat]!.rep < (16 : Int))) = AV.b (decide (c_10[j_18.toNat]!.rep < (16 : Int)))) ∧ (AV.b (decide (c_10[j_18.toNat]!.rep < (16 : Int))) = AV.b (decide ((0 : Int) ≤ c_10[j_18.toNat]!.rep ∧ c_10[j_18.toNat]!.rep < (16 : Int))))) cx [(2, { tell := some (.b (true)) }), (6, { tell := some (.b (decide (c_10[j_18.toNat]!.rep < (16 : Int)))) }), (7, { tell := some (.b (decide ((0 : Int) ≤ c_10[j_18.toNat]!.rep ∧ c_10[j_18.toNat]!.rep < (16 : Int)))) })] [3, 11, 12, 13, 43, 44, 45, 8, 56] ([10] ++ List.range' 101000 16 ++ [8]) ⟨(told_true h_26), (by kernel_rfl), (by simp only [eq_true h_26, told_simp1, told_simp2, and_true, true_and, and_false, false_and, or_true, true_or, or_false, false_or, not_true_eq_false, not_false_eq_true, decide_true, decide_false, Bool.decide_eq_true])⟩ ?_
  exact ⟨rfl, by kernel_rfl⟩
  refine rg (A := _ ∧ (AV.b false = AV.b (decide ((0 : Int) ≤ c_10[j_18.toNat]!.rep ∧ c_10[j_18.toNat]!.rep < (16 : Int))))) cx [(2, { tell := some (.b (false)) }), (7, { tell := some (.b (decide ((0 : Int) ≤ c_10[j_18.toNat]!.rep ∧ c_10[j_18.toNat]!.rep < (16 : Int)))) })] [3, 11, 12, 13, 43, 44, 45, 8, 56] ([10] ++ List.range' 101000 16 ++ [8]) ⟨(told_false h_26), (by simp only [eq_false h_26, told_simp1, told_simp2, and_true, true_and, and_false, false_and, or_true, true_or, or_false, false_or, not_true_eq_false, not_false_eq_true, decide_true, decide_false, Bool.decide_eq_true])⟩ ?_
  exact ⟨rfl, by kernel_rfl⟩
  refine sn ?_
  refine st_dec ((0 : Int) ≤ c_10[j_18.toNat]!.rep ∧ c_10[j_18.toNat]!.rep < (16 : Int)) (by kernel_rfl) (by kernel_rfl) (fun h_27 => ?_) (fun h_27 => ?_)
  refine st_any16 (F := fun kx => ⟨[(3, .ptr (10) (0) (0) (0)), (11, .sl (List.map c36 ps)), (12, .i .i64 ((↑ps.length : Int))), (13, .i .i64 (i_0)), (43, .sl (List.map c81 c_10)), (44, .i .i64 ((↑c_10.length : Int))), (45, .i .i64 (j_18)), (8, .ptr (8) (0) (0) (0)), (56, .b (decide ((0 : Int) ≤ kx ∧ kx < (16 : Int))))], [(10, ⟨0, 106, .var (ownsC 101000 16)⟩)] ++ tabRows 101000 108 2 16 (c108) (T_19) ++ [(8, ⟨0, 81, .var [.i .i64 (kx), .i .i64 (c_10[j_18.toNat]!.lo), .i .i64 (c_10[j_18.toNat]!.hi)]⟩)]⟩) (G := fun kx => ⟨[(3, .ptr (10) (0) (0) (0)), (11, .sl (List.map c36 ps)), (12, .i .i64 ((↑ps.length : Int))), (13, .i .i64 (i_0)), (43, .sl (List.map c81 c_10)), (44, .i .i64 ((↑c_10.length : Int))), (45, .i .i64 (j_18))], [(10, ⟨0, 106, .var (ownsC 101000 16)⟩)] ++ tabRows 101000 108 2 16 (c108) (updF T_19 kx.toNat (T_19 kx.toNat ++ [{ lo := c_10[j_18.toNat]!.lo, hi := c_10[j_18.toNat]!.hi : Run }]))⟩) (A := fun kx => ((0 : Int) ≤ kx) ∧ (kx < (↑(16 : Nat) : Int)) ∧ (108 = (108 : Nat)) ∧ ((2 : Nat) = 2) ∧ ([AV.i IntKind.i64 (0 : Int), AV.i IntKind.i64 (0 : Int)].length = (2 : Nat)) ∧ (∀ (r : List AV), r ∈ List.map c108 [{ lo := c_10[j_18.toNat]!.lo, hi := c_10[j_18.toNat]!.hi : Run }] → r.length = 2) ∧ ((List.map c108 (T_19 kx.toNat)).length + (List.map c108 [{ lo := c_10[j_18.toNat]!.lo, hi := c_10[j_18.toNat]!.hi : Run }]).length ≤ maxLen) ∧ (((List.map c108 (T_19 kx.toNat)).length + (List.map c108 [{ lo := c_10[j_18.toNat]!.lo, hi := c_10[j_18.toNat]!.hi : Run }]).length) * (16 : Nat) ≤ (140737488355328 : Nat)) ∧ (List.map c108 (T_19 kx.toNat) ++ List.map c108 [{ lo := c_10[j_18.toNat]!.lo, hi := c_10[j_18.toNat]!.hi : Run }] = List.map c108 (T_19 kx.toNat ++ [{ lo := c_10[j_18.toNat]!.lo, hi := c_10[j_18.toNat]!.hi : Run }])) ∧ ((0 : Int) ≤ kx) ∧ (kx < (↑(16 : Nat) : Int))) cx (fun kx => [(15, { rows := some (List.map c108 (T_19 kx.toNat ++ [{ lo := c_10[j_18.toNat]!.lo, hi := c_10[j_18.toNat]!.hi : Run }])) })]) [3, 11, 12, 13, 43, 44, 45] ([10] ++ List.range' 101000 16) (c_10[j_18.toNat]!.rep) (by omega) (by omega) (by kernel_rfl) (by kernel_rfl) ⟨(by show _ = _; kernel_rfl), (by show _ = _; kernel_rfl), (by show _ = _; kernel_rfl), (by show _ = _; kernel_rfl), (by show _ = _; kernel_rfl), (by show _ = _; kernel_rfl), (by show _ = _; kernel_rfl), (by show _ = _; kernel_rfl), (by show _ = _; kernel_rfl), (by show _ = _; kernel_rfl), (by show _ = _; kernel_rfl), (by show _ = _; kernel_rfl), (by show _ = _; kernel_rfl), (by show _ = _; kernel_rfl), (by show _ = _; kernel_rfl), (by show _ = _; kernel_rfl)⟩ ⟨(by omega), (by omega), (by kernel_rfl), (by kernel_rfl), (by kernel_rfl), (by (with_reducible refine len_map (fun _ => ?_) _; kernel_rfl)), ?g7, ?g8, (by (with_reducible refine app_map ?_; kernel_rfl)), (by omega), (by omega)⟩ ?_; rotate_left 2
  refine q_blk_normal ?_
  refine sn ?_
  refine rg (A := (AV.i IntKind.i64 (IntKind.i64.wrap (j_18 + (1 : Int))) = AV.i IntKind.i64 (j_18 + (1 : Int)))) cx [(0, { tell := some (.i .i64 (j_18 + (1 : Int))) })] [3, 11, 12, 13, 43, 44, 45] ([10] ++ List.range' 101000 16) (told_i64 (by omega) ?g9) ?_; rotate_left 1
  refine sn ?_
  refine loop_next ((j_18 + (1 : Int), updF T_19 c_10[j_18.toNat]!.rep.toNat (T_19 c_10[j_18.toNat]!.rep.toNat ++ [{ lo := c_10[j_18.toNat]!.lo, hi := c_10[j_18.toNat]!.hi : Run }]))) (by kernel_rfl) (show ((↑ps[i_0.toNat]!.cloud.length : Int) - (j_18 + (1 : Int))).toNat < ((↑ps[i_0.toNat]!.cloud.length : Int) - j_18).toNat from ?g10) (show inv117c ps i_0 (j_18 + (1 : Int)) (updF T_19 c_10[j_18.toNat]!.rep.toNat (T_19 c_10[j_18.toNat]!.rep.toNat ++ [{ lo := c_10[j_18.toNat]!.lo, hi := c_10[j_18.toNat]!.hi : Run }])) from ?g11); rotate_left 2
  refine st_skip (by kernel_rfl) ?_
  refine q_blk_normal ?_
  refine sn ?_
  refine rg (A := (AV.i IntKind.i64 (IntKind.i64.wrap (j_18 + (1 : Int))) = AV.i IntKind.i64 (j_18 + (1 : Int)))) cx [(0, { tell := some (.i .i64 (j_18 + (1 : Int))) })] [3, 11, 12, 13, 43, 44, 45] ([10] ++ List.range' 101000 16) (told_i64 (by omega) ?g12) ?_; rotate_left 1
  refine sn ?_
  refine loop_next ((j_18 + (1 : Int), T_19)) (by kernel_rfl) (show ((↑ps[i_0.toNat]!.cloud.length : Int) - (j_18 + (1 : Int))).toNat < ((↑ps[i_0.toNat]!.cloud.length : Int) - j_18).toNat from ?g13) (show inv117c ps i_0 (j_18 + (1 : Int)) T_19 from ?g14); rotate_left 2
  refine st_exit 4 (by kernel_rfl) ?_
  refine q_seq_exit ?_
  refine q_seq_exit ?_
  refine q_blk_hit ?_
  refine q_blk_normal ?_
  refine sn ?_
  refine rg (A := (AV.i IntKind.i64 (IntKind.i64.wrap (i_0 + (1 : Int))) = AV.i IntKind.i64 (i_0 + (1 : Int)))) cx [(0, { tell := some (.i .i64 (i_0 + (1 : Int))) })] [3, 11, 12, 13] ([10] ++ List.range' 101000 16) (told_i64 (by omega) (by omega)) ?_
  refine sn ?_
  refine loop_next ((i_0 + (1 : Int), T_19)) (by kernel_rfl) (show ((↑ps.length : Int) - (i_0 + (1 : Int))).toNat < ((↑ps.length : Int) - i_0).toNat from (by omega)) (show inv117a ps (i_0 + (1 : Int)) T_19 from ?g15); rotate_left 1
  refine st_exit 0 (by kernel_rfl) ?_
  refine q_seq_exit ?_
  refine q_seq_exit ?_
  refine q_blk_hit ?_
  refine sn ?_
  refine sq ?_
  refine awp_norm (List.range' 101000 16) [3, 11, 12, 13, 14] [10] (σ' := ⟨[(3, .ptr (10) (0) (0) (0)), (11, .sl (List.map c36 ps)), (12, .i .i64 ((↑ps.length : Int))), (13, .i .i64 (i_0)), (14, .b (decide (i_0 < (↑ps.length : Int))))], [(10, ⟨0, 106, .var [.sl (List.map c108 (T_1 (0))), .sl (List.map c108 (T_1 (1))), .sl (List.map c108 (T_1 (2))), .sl (List.map c108 (T_1 (3))), .sl (List.map c108 (T_1 (4))), .sl (List.map c108 (T_1 (5))), .sl (List.map c108 (T_1 (6))), .sl (List.map c108 (T_1 (7))), .sl (List.map c108 (T_1 (8))), .sl (List.map c108 (T_1 (9))), .sl (List.map c108 (T_1 (10))), .sl (List.map c108 (T_1 (11))), .sl (List.map c108 (T_1 (12))), .sl (List.map c108 (T_1 (13))), .sl (List.map c108 (T_1 (14))), .sl (List.map c108 (T_1 (15)))]⟩)]⟩) (by kernel_rfl) ?_
  refine awp_varArr 10 ⟨0, 106, .var [.sl (List.map c108 (T_1 (0))), .sl (List.map c108 (T_1 (1))), .sl (List.map c108 (T_1 (2))), .sl (List.map c108 (T_1 (3))), .sl (List.map c108 (T_1 (4))), .sl (List.map c108 (T_1 (5))), .sl (List.map c108 (T_1 (6))), .sl (List.map c108 (T_1 (7))), .sl (List.map c108 (T_1 (8))), .sl (List.map c108 (T_1 (9))), .sl (List.map c108 (T_1 (10))), .sl (List.map c108 (T_1 (11))), .sl (List.map c108 (T_1 (12))), .sl (List.map c108 (T_1 (13))), .sl (List.map c108 (T_1 (14))), .sl (List.map c108 (T_1 (15)))]⟩ [.sl (List.map c108 (T_1 (0))), .sl (List.map c108 (T_1 (1))), .sl (List.map c108 (T_1 (2))), .sl (List.map c108 (T_1 (3))), .sl (List.map c108 (T_1 (4))), .sl (List.map c108 (T_1 (5))), .sl (List.map c108 (T_1 (6))), .sl (List.map c108 (T_1 (7))), .sl (List.map c108 (T_1 (8))), .sl (List.map c108 (T_1 (9))), .sl (List.map c108 (T_1 (10))), .sl (List.map c108 (T_1 (11))), .sl (List.map c108 (T_1 (12))), .sl (List.map c108 (T_1 (13))), .sl (List.map c108 (T_1 (14))), .sl (List.map c108 (T_1 (15)))] (tabC c108 (16 : Nat) T_1) (σ' := ⟨[(3, .ptr (10) (0) (0) (0)), (11, .sl (List.map c36 ps)), (12, .i .i64 ((↑ps.length : Int))), (13, .i .i64 (i_0)), (14, .b (decide (i_0 < (↑ps.length : Int))))], [(10, ⟨0, 106, .arr (tabC c108 (16 : Nat) T_1)⟩)]⟩) (by kernel_rfl) (by kernel_rfl) (by kernel_rfl) (by kernel_rfl) (ZLe.of_eq (by kernel_rfl)) (by kernel_rfl) ?_
  refine rg (A := True) cx [] [2] [10] trivial ?_
  refine sn ?_
  refine st_ret (by kernel_rfl) ?_
  refine qb_ptr (cells' := (tabC c108 (16 : Nat) T_1)) .ret (.inr rfl) 2 10 0 (by kernel_rfl) (by kernel_rfl) (by kernel_rfl) ?g16; rotate_left 1
  rotate_left
  revert i_0 T_1 h_3 h_4 h_5 h_6; rotate_left
  revert i_0 T_1 h_3 h_4 h_5 h_6 j_7 T_8 v_9 c_10 h_12 h_13 h_14 h_15 h_16 h_17; rotate_left
  revert i_0 T_1 h_3 h_4 h_5 h_6 j_7 T_8 v_9 c_10 h_12 h_13 h_14 h_15 h_16 h_17; rotate_left
  revert i_0 T_1 h_3 h_4 h_5 h_6 j_7 T_8 v_9 c_10 h_12 h_13 h_14 h_15 h_16 h_17; rotate_left
  revert i_0 T_1 h_3 h_4 h_5 h_6 j_7 T_8 v_9 c_10 h_12 h_13 h_14 h_15 h_16 h_17; rotate_left
  revert i_0 T_1 h_3 h_4 h_5 h_6 j_7 T_8 v_9 c_10 h_12 h_13 h_14 h_15 h_16 h_17; rotate_left
  revert i_0 T_1 h_3 h_4 h_5 h_6 j_7 T_8 v_9 c_10 h_12 h_13 h_14 h_15 h_16 h_17 j_18 T_19 h_21 h_22 h_23 h_24 h_27; rotate_left
  revert i_0 T_1 h_3 h_4 h_5 h_6 j_7 T_8 v_9 c_10 h_12 h_13 h_14 h_15 h_16 h_17 j_18 T_19 h_21 h_22 h_23 h_24 h_27; rotate_left
  revert i_0 T_1 h_3 h_4 h_5 h_6 j_7 T_8 v_9 c_10 h_12 h_13 h_14 h_15 h_16 h_17 j_18 T_19 h_21 h_22 h_23 h_24 h_27; rotate_left
  revert i_0 T_1 h_3 h_4 h_5 h_6 j_7 T_8 v_9 c_10 h_12 h_13 h_14 h_15 h_16 h_17 j_18 T_19 h_21 h_22 h_23 h_24 h_27; rotate_left
  revert i_0 T_1 h_3 h_4 h_5 h_6 j_7 T_8 v_9 c_10 h_12 h_13 h_14 h_15 h_16 h_17 j_18 T_19 h_21 h_22 h_23 h_24 h_27; rotate_left
  revert i_0 T_1 h_3 h_4 h_5 h_6 j_7 T_8 v_9 c_10 h_12 h_13 h_14 h_15 h_16 h_17 j_18 T_19 h_21 h_22 h_23 h_24 h_27; rotate_left
  revert i_0 T_1 h_3 h_4 h_5 h_6 j_7 T_8 v_9 c_10 h_12 h_13 h_14 h_15 h_16 h_17 j_18 T_19 h_21 h_22 h_23 h_24 h_27; rotate_left
  revert i_0 T_1 h_3 h_4 h_5 h_6 j_7 T_8 v_9 c_10 h_12 h_13 h_14 h_15 h_16 h_17 j_18 T_19 h_21 h_22 h_23 h_24 h_27; rotate_left
  revert i_0 T_1 h_3 h_4 h_5 h_6 j_7 T_8 v_9 c_10 h_12 h_13 h_14 h_15 h_16 h_17 j_18 T_19 h_21 h_22 h_23 h_24; rotate_left
  revert i_0 T_1 h_3 h_4 h_5 h_6; rotate_left
  case g0 => exact ⟨by omega, by omega, fun r _ => rfl⟩
  case g1 => intro i T h0 h1 h2 h3; exact ⟨rfl, rfl, by omega, by omega, openV_start h2⟩
  case g2 => intros; subst_vars; exact get_map (by omega)
  case g3 => intro i T h0 h1 h2 h3 j U v c k0 k1 k2 k3 k4 k5; have := openV_len h0 h3 k4 (r := j.toNat) (by omega) (by omega); simp only [List.length_map, List.length_cons, List.length_nil, Go.maxLen]; omega
  case g4 => intro i T h0 h1 h2 h3 j U v c k0 k1 k2 k3 k4 k5; have := openV_len h0 h3 k4 (r := j.toNat) (by omega) (by omega); simp only [List.length_map, List.length_cons, List.length_nil]; omega
  case g5 => intro i T h0 h1 h2 h3 j U v c k0 k1 k2 k3 k4 k5; subst k0 k1; exact ⟨rfl, rfl, by omega, by omega, openV_next k2 (by omega) k4⟩
  case g6 => intro i T h0 h1 h2 h3 j U v c k0 k1 k2 k3 k4 k5; exact ⟨by omega, by omega, openC_start k3 k5 k4⟩
  case g7 => intro i T h0 h1 h2 h3 j U v c k0 k1 k2 k3 k4 k5 l W m0 m1 m2 m3 m4; subst k0 k1; have := openC_len h0 h3 m0 m3 m2 (r := ((ps[i.toNat]!).cloud[l.toNat]!).rep.toNat) (by omega); simp only [List.length_map, List.length_cons, List.length_nil, Go.maxLen]; omega
  case g8 => intro i T h0 h1 h2 h3 j U v c k0 k1 k2 k3 k4 k5 l W m0 m1 m2 m3 m4; subst k0 k1; have := openC_len h0 h3 m0 m3 m2 (r := ((ps[i.toNat]!).cloud[l.toNat]!).rep.toNat) (by omega); simp only [List.length_map, List.length_cons, List.length_nil]; omega
  case g9 => intro i T h0 h1 h2 h3 j U v c k0 k1 k2 k3 k4 k5 l W m0 m1 m2 m3 m4; subst k0 k1; have := openC_len h0 h3 m0 m3 m2 (r := 0) (by omega); omega
  case g10 => intro i T h0 h1 h2 h3 j U v c k0 k1 k2 k3 k4 k5 l W m0 m1 m2 m3 m4; subst k0 k1; omega
  case g11 => intro i T h0 h1 h2 h3 j U v c k0 k1 k2 k3 k4 k5 l W m0 m1 m2 m3 m4; subst k0 k1; exact ⟨by omega, by omega, openC_in m0 m3 m4 m2⟩
  case g12 => intro i T h0 h1 h2 h3 j U v c k0 k1 k2 k3 k4 k5 l W m0 m1 m2 m3 m4; subst k0 k1; have := openC_len h0 h3 m0 m3 m2 (r := 0) (by omega); omega
  case g13 => intro i T h0 h1 h2 h3 j U v c k0 k1 k2 k3 k4 k5 l W m0 m1 m2 m3 m4; subst k0 k1; omega
  case g14 => intro i T h0 h1 h2 h3 j U v c k0 k1 k2 k3 k4 k5 l W m0 m1 m2 m3 m4; subst k0 k1; exact ⟨by omega, by omega, openC_out m0 m3 m4 m2⟩
  case g15 => intro i T h0 h1 h2 h3 j U v c k0 k1 k2 k3 k4 k5 l W m0 m1 m2 m3; subst k0 k1; exact ⟨by omega, by omega, open_next h0 h3 m3 m2⟩
  case g16 =>
    intro i T h0 h1 h2 h3
    unfold tabC
    refine List.map_congr_left fun r hr => ?_
    rw [h2 r (by simpa using hr), List.take_of_length_le (by omega)]
end Go.Proofs.Ytjngmlkaijpbgaa
namespace Go.Proofs.Ytjngmlkaijpbgaa
open Go.E
set_option maxRecDepth 100000
set_option maxHeartbeats 4000000
def normP (p : Past) : Past := tabP (openT [p])
theorem tot_one (p : Past) : totP [p] = p.cloud.length + 1 := by simp [totP]
theorem con84 (p : Past) (hb : p.cloud.length * 16 ≤ 140737488350000) : Con Try.prog 84 [.agg (c36 p)] (.agg (c36 (normP p))) :=
  by
  have h1 := tot_one p
  have h2 := fun r => openT_len r [p]
  refine st_con tab_ok (by kernel_rfl) [.cell 2 36] 7 Go.Proofs.Try.func84 (by kernel_rfl) (by kernel_rfl) ?_
  intro e0 cx
  refine sq ?_
  refine rg (A := True) cx [] [1, 2] [1, 2] trivial ?_
  refine sn ?_
  refine sq ?_
  refine rg (A := _ ∧ _) cx [(2, { val := some (.ptr ((106 : Nat)) (0) (0) (0)), row := (tabC c108 (16 : Nat) (openT [p])) }), (3, { val := some (.agg [.sl (List.map c3 (tabP (openT [p])).vec), .sl (List.map c81 (tabP (openT [p])).cloud)]) })] [2] [2] ⟨(con117 ([p]) ?g0), (con81 (openT [p]) ?g1)⟩ ?_; rotate_left 2
  refine sn ?_
  refine st_ret (by kernel_rfl) ?_
  refine q_ret (r := .agg [.sl (List.map c3 (tabP (openT [p])).vec), .sl (List.map c81 (tabP (openT [p])).cloud)]) (obl := []) (by kernel_rfl) trivial (AVle.eq (show AV.agg [AV.sl (List.map c3 (tabP (openT [p])).vec), AV.sl (List.map c81 (tabP (openT [p])).cloud)] = AV.agg (c36 (normP p)) from ?g2)); rotate_left 1
  all_goals
    ( intros <;> first
    | omega
    | exact rfl
    | (have := h2 ‹Nat›; omega))
end Go.Proofs.Ytjngmlkaijpbgaa
namespace Go.Proofs.Ytjngmlkaijpbgaa
open Go.E
set_option maxRecDepth 100000
set_option maxHeartbeats 4000000
def invE {α : Type} [Inhabited α] (a b : List α) (i : Int) : Prop := 0 ≤ i ∧ i ≤ a.length ∧ a.length = b.length ∧ ∀ j : Nat, (j : Int) < i → a[j]! = b[j]!
def decE {α : Type} (a b : List α) (i : Int) : Nat := (a.length - i).toNat
theorem eq_of_all {α : Type} [Inhabited α] {a b : List α} (hl : a.length = b.length) (h : ∀ j : Nat, j < a.length → a[j]! = b[j]!) : a = b := by
  apply List.ext_getElem hl
  intro j h1 h2
  have := h j h1
  rwa [getElem!_pos a j h1, getElem!_pos b j h2] at this
theorem con85 (a b : List Int) : Con Try.prog 85 [.sl (a.map c3), .sl (b.map c3)] (.b (decide (a = b))) :=
  by
  refine con_lens 0 (c3) (a) (by kernel_rfl) Go.Proofs.Try.func85 (by kernel_rfl) fun hl_0 => ?_
  refine con_lens 1 (c3) (b) (by kernel_rfl) Go.Proofs.Try.func85 (by kernel_rfl) fun hl_1 => ?_
  refine st_con tab_ok (by kernel_rfl) [.tmp 4] 26 Go.Proofs.Try.func85 (by kernel_rfl) (by kernel_rfl) ?_
  intro e0 cx
  refine sq ?_
  refine rg (A := True) cx [] [0, 1] [] trivial ?_
  refine sn ?_
  refine sq ?_
  refine sq ?_
  refine rg (A := _ ∧ _ ∧ (AV.b ((↑a.length : Int) != (↑b.length : Int)) = AV.b (decide ¬(↑a.length : Int) = (↑b.length : Int)))) cx [(1, { tell := some (.i .i64 ((↑a.length : Int))) }), (3, { tell := some (.i .i64 ((↑b.length : Int))) }), (4, { tell := some (.b (decide ¬(↑a.length : Int) = (↑b.length : Int))) })] [0, 1, 10] [] ⟨(told_len c3 a), (told_len c3 b), (told_neq)⟩ ?_
  refine sn ?_
  refine st_dec (¬(↑a.length : Int) = (↑b.length : Int)) (by kernel_rfl) (by kernel_rfl) (fun h_0 => ?_) (fun h_0 => ?_)
  refine sq ?_
  refine rg (A := True) cx [] [4] [] trivial ?_
  refine sn ?_
  refine st_ret (by kernel_rfl) ?_
  refine q_seq_ret ?_
  refine q_ret (r := .b (false)) (obl := []) (by kernel_rfl) trivial (AVle.eq (show AV.b false = AV.b (decide (a = b)) from ?g0)); rotate_left 1
  refine st_skip (by kernel_rfl) ?_
  refine sn ?_
  refine sq ?_
  refine sq ?_
  refine rg (A := _) cx [(1, { tell := some (.i .i64 ((↑a.length : Int))) })] [0, 1, 12, 13] [] (told_len c3 a) ?_
  refine sn ?_
  refine st_block 0 (by kernel_rfl) ?_
  refine st_loop (X := Int) (fun x => ⟨[(0, .sl (List.map c3 a)), (1, .sl (List.map c3 b)), (12, .i .i64 ((↑a.length : Int))), (13, .i .i64 (x))], []⟩) (fun x ↦ decE a b x) (fun x ↦ invE a b x) [0, 1, 12, 13] [] ((0 : Int)) (by kernel_rfl) (by kernel_rfl) (show invE a b (0 : Int) from ?g1) ?_; rotate_left 1
  intro i_1 h_2
  obtain ⟨h_3, h_4, h_5, h_6⟩ : (0 : Int) ≤ i_1 ∧ i_1 ≤ (↑a.length : Int) ∧ a.length = b.length ∧ ∀ (j : Nat), (↑j : Int) < i_1 → a[j]! = b[j]! := h_2
  refine sq ?_
  refine rg (A := (AV.b (decide (i_1 < (↑a.length : Int))) = AV.b (decide (i_1 < (↑a.length : Int))))) cx [(0, { tell := some (.b (decide (i_1 < (↑a.length : Int)))) })] [0, 1, 12, 13, 14] [] (by kernel_rfl) ?_
  refine sn ?_
  refine sq ?_
  refine st_dec (i_1 < (↑a.length : Int)) (by kernel_rfl) (by kernel_rfl) (fun h_7 => ?_) (fun h_7 => ?_)
  refine st_skip (by kernel_rfl) ?_
  refine sn ?_
  refine sq ?_
  refine st_block 1 (by kernel_rfl) ?_
  refine sq ?_
  refine rg (A := True) cx [] [0, 1, 12, 13, 5] [] trivial ?_
  refine sn ?_
  refine sq ?_
  refine ra (A := ((0 : Int) ≤ i_1) ∧ ((List.map c3 a)[i_1.toNat]? = some (c3 a[i_1.toNat]!)) ∧ ((c3 a[i_1.toNat]!).length = (1 : Nat)) ∧ ((0 : Int) ≤ i_1) ∧ ((List.map c3 b)[i_1.toNat]? = some (c3 b[i_1.toNat]!)) ∧ ((c3 b[i_1.toNat]!).length = (1 : Nat)) ∧ (AV.b (a[i_1.toNat]! != b[i_1.toNat]!) = AV.b (decide ¬a[i_1.toNat]! = b[i_1.toNat]!))) cx [(2, { row := (c3 a[i_1.toNat]!) }), (6, { row := (c3 b[i_1.toNat]!) }), (8, { tell := some (.b (decide ¬a[i_1.toNat]! = b[i_1.toNat]!)) })] [0, 1, 12, 13, 24] [] ⟨(by (with_reducible assumption)), (by (with_reducible refine get_map ?_; omega)), (by kernel_rfl), (by (with_reducible assumption)), (by (with_reducible refine get_map ?_; omega)), (by kernel_rfl), (told_neq)⟩ ?_
  refine sn ?_
  refine st_dec (¬a[i_1.toNat]! = b[i_1.toNat]!) (by kernel_rfl) (by kernel_rfl) (fun h_8 => ?_) (fun h_8 => ?_)
  refine sq ?_
  refine rg (A := True) cx [] [4] [] trivial ?_
  refine sn ?_
  refine st_ret (by kernel_rfl) ?_
  refine q_blk_ret ?_
  refine q_seq_ret ?_
  refine q_seq_ret ?_
  refine q_blk_ret ?_
  refine q_seq_ret ?_
  refine q_ret (r := .b (false)) (obl := []) (by kernel_rfl) trivial (AVle.eq (show AV.b false = AV.b (decide (a = b)) from ?g2)); rotate_left 1
  refine st_skip (by kernel_rfl) ?_
  refine q_blk_normal ?_
  refine sn ?_
  refine rg (A := (AV.i IntKind.i64 (IntKind.i64.wrap (i_1 + (1 : Int))) = AV.i IntKind.i64 (i_1 + (1 : Int)))) cx [(0, { tell := some (.i .i64 (i_1 + (1 : Int))) })] [0, 1, 12, 13] [] (told_i64 (by omega) (by omega)) ?_
  refine sn ?_
  refine loop_next (i_1 + (1 : Int)) (by kernel_rfl) (show ((↑a.length : Int) - (i_1 + (1 : Int))).toNat < ((↑a.length : Int) - i_1).toNat from (by omega)) (show invE a b (i_1 + (1 : Int)) from ?g3); rotate_left 1
  refine st_exit 0 (by kernel_rfl) ?_
  refine q_seq_exit ?_
  refine q_seq_exit ?_
  refine q_blk_hit ?_
  refine sn ?_
  refine sq ?_
  refine rg (A := True) cx [] [4] [] trivial ?_
  refine sn ?_
  refine st_ret (by kernel_rfl) ?_
  refine q_ret (r := .b (true)) (obl := []) (by kernel_rfl) trivial (AVle.eq (show AV.b true = AV.b (decide (a = b)) from ?g4)); rotate_left 1
  revert h_0; rotate_left
  revert h_0; rotate_left
  revert h_0 i_1 h_3 h_4 h_5 h_6 h_7 h_8; rotate_left
  revert h_0 i_1 h_3 h_4 h_5 h_6 h_7 h_8; rotate_left
  revert h_0 i_1 h_3 h_4 h_5 h_6 h_7; rotate_left
  case g0 => exact (fun h => by rw [decide_eq_false (fun k => h (by rw [k]))])
  case g1 => exact (fun h => ⟨by omega, by omega, by omega, fun j hj => by omega⟩)
  case g2 => exact (fun h i h0 h1 h2 h3 h4 h5 => by rw [decide_eq_false (fun k => h5 (by rw [k]))])
  case g3 => exact (fun h i h0 h1 h2 h3 h4 h5 => ⟨by omega, by omega, h2, fun j hj => by
      by_cases e : j = i.toNat
      · rw [e]; exact Classical.not_not.1 h5
      · exact h3 j (by omega)⟩)
  case g4 => exact (fun h i h0 h1 h2 h3 h4 => by rw [decide_eq_true (eq_of_all h2 fun j hj => h3 j (by omega))])
theorem con86 (a b : List Span) : Con Try.prog 86 [.sl (a.map c81), .sl (b.map c81)] (.b (decide (a = b))) :=
  by
  refine con_lens 0 (c81) (a) (by kernel_rfl) Go.Proofs.Try.func86 (by kernel_rfl) fun hl_0 => ?_
  refine con_lens 1 (c81) (b) (by kernel_rfl) Go.Proofs.Try.func86 (by kernel_rfl) fun hl_1 => ?_
  refine st_con tab_ok (by kernel_rfl) [.tmp 4] 26 Go.Proofs.Try.func86 (by kernel_rfl) (by kernel_rfl) ?_
  intro e0 cx
  refine sq ?_
  refine rg (A := True) cx [] [0, 1] [] trivial ?_
  refine sn ?_
  refine sq ?_
  refine sq ?_
  refine rg (A := _ ∧ _ ∧ (AV.b ((↑a.length : Int) != (↑b.length : Int)) = AV.b (decide ¬(↑a.length : Int) = (↑b.length : Int)))) cx [(1, { tell := some (.i .i64 ((↑a.length : Int))) }), (3, { tell := some (.i .i64 ((↑b.length : Int))) }), (4, { tell := some (.b (decide ¬(↑a.length : Int) = (↑b.length : Int))) })] [0, 1, 10] [] ⟨(told_len c81 a), (told_len c81 b), (told_neq)⟩ ?_
  refine sn ?_
  refine st_dec (¬(↑a.length : Int) = (↑b.length : Int)) (by kernel_rfl) (by kernel_rfl) (fun h_0 => ?_) (fun h_0 => ?_)
  refine sq ?_
  refine rg (A := True) cx [] [4] [] trivial ?_
  refine sn ?_
  refine st_ret (by kernel_rfl) ?_
  refine q_seq_ret ?_
  refine q_ret (r := .b (false)) (obl := []) (by kernel_rfl) trivial (AVle.eq (show AV.b false = AV.b (decide (a = b)) from ?g0)); rotate_left 1
  refine st_skip (by kernel_rfl) ?_
  refine sn ?_
  refine sq ?_
  refine sq ?_
  refine rg (A := _) cx [(1, { tell := some (.i .i64 ((↑a.length : Int))) })] [0, 1, 12, 13] [] (told_len c81 a) ?_
  refine sn ?_
  refine st_block 0 (by kernel_rfl) ?_
  refine st_loop (X := Int) (fun x => ⟨[(0, .sl (List.map c81 a)), (1, .sl (List.map c81 b)), (12, .i .i64 ((↑a.length : Int))), (13, .i .i64 (x))], []⟩) (fun x ↦ decE a b x) (fun x ↦ invE a b x) [0, 1, 12, 13] [] ((0 : Int)) (by kernel_rfl) (by kernel_rfl) (show invE a b (0 : Int) from ?g1) ?_; rotate_left 1
  intro i_1 h_2
  obtain ⟨h_3, h_4, h_5, h_6⟩ : (0 : Int) ≤ i_1 ∧ i_1 ≤ (↑a.length : Int) ∧ a.length = b.length ∧ ∀ (j : Nat), (↑j : Int) < i_1 → a[j]! = b[j]! := h_2
  refine sq ?_
  refine rg (A := (AV.b (decide (i_1 < (↑a.length : Int))) = AV.b (decide (i_1 < (↑a.length : Int))))) cx [(0, { tell := some (.b (decide (i_1 < (↑a.length : Int)))) })] [0, 1, 12, 13, 14] [] (by kernel_rfl) ?_
  refine sn ?_
  refine sq ?_
  refine st_dec (i_1 < (↑a.length : Int)) (by kernel_rfl) (by kernel_rfl) (fun h_7 => ?_) (fun h_7 => ?_)
  refine st_skip (by kernel_rfl) ?_
  refine sn ?_
  refine sq ?_
  refine st_block 1 (by kernel_rfl) ?_
  refine sq ?_
  refine rg (A := True) cx [] [0, 1, 12, 13, 5] [] trivial ?_
  refine sn ?_
  refine sq ?_
  refine ra (A := ((0 : Int) ≤ i_1) ∧ ((List.map c81 a)[i_1.toNat]? = some (c81 a[i_1.toNat]!)) ∧ ((c81 a[i_1.toNat]!).length = (3 : Nat)) ∧ ((3 : Nat) ≤ [AV.i IntKind.i64 a[i_1.toNat]!.rep, AV.i IntKind.i64 a[i_1.toNat]!.lo, AV.i IntKind.i64 a[i_1.toNat]!.hi].length) ∧ ((0 : Int) ≤ i_1) ∧ ((List.map c81 b)[i_1.toNat]? = some (c81 b[i_1.toNat]!)) ∧ ((c81 b[i_1.toNat]!).length = (3 : Nat)) ∧ ((3 : Nat) ≤ [AV.i IntKind.i64 b[i_1.toNat]!.rep, AV.i IntKind.i64 b[i_1.toNat]!.lo, AV.i IntKind.i64 b[i_1.toNat]!.hi].length) ∧ (AggEq Try.prog (81 : Nat) [AV.i IntKind.i64 a[i_1.toNat]!.rep, AV.i IntKind.i64 a[i_1.toNat]!.lo, AV.i IntKind.i64 a[i_1.toNat]!.hi] [AV.i IntKind.i64 b[i_1.toNat]!.rep, AV.i IntKind.i64 b[i_1.toNat]!.lo, AV.i IntKind.i64 b[i_1.toNat]!.hi] !decide ¬a[i_1.toNat]! = b[i_1.toNat]!)) cx [(2, { row := (c81 a[i_1.toNat]!) }), (6, { row := (c81 b[i_1.toNat]!) }), (8, { val := some (.b (decide ¬a[i_1.toNat]! = b[i_1.toNat]!)) })] [0, 1, 12, 13, 24] [] ⟨(by (with_reducible assumption)), (by (with_reducible refine get_map ?_; omega)), (by kernel_rfl), (by (simp only [List.length_append, List.length_cons, List.length_nil]; omega)), (by (with_reducible assumption)), (by (with_reducible refine get_map ?_; omega)), (by kernel_rfl), (by (simp only [List.length_append, List.length_cons, List.length_nil]; omega)), (aggNe_dec (eq81 a[i_1.toNat]! b[i_1.toNat]!))⟩ ?_
  refine sn ?_
  refine st_dec (¬a[i_1.toNat]! = b[i_1.toNat]!) (by kernel_rfl) (by kernel_rfl) (fun h_8 => ?_) (fun h_8 => ?_)
  refine sq ?_
  refine rg (A := True) cx [] [4] [] trivial ?_
  refine sn ?_
  refine st_ret (by kernel_rfl) ?_
  refine q_blk_ret ?_
  refine q_seq_ret ?_
  refine q_seq_ret ?_
  refine q_blk_ret ?_
  refine q_seq_ret ?_
  refine q_ret (r := .b (false)) (obl := []) (by kernel_rfl) trivial (AVle.eq (show AV.b false = AV.b (decide (a = b)) from ?g2)); rotate_left 1
  refine st_skip (by kernel_rfl) ?_
  refine q_blk_normal ?_
  refine sn ?_
  refine rg (A := (AV.i IntKind.i64 (IntKind.i64.wrap (i_1 + (1 : Int))) = AV.i IntKind.i64 (i_1 + (1 : Int)))) cx [(0, { tell := some (.i .i64 (i_1 + (1 : Int))) })] [0, 1, 12, 13] [] (told_i64 (by omega) (by omega)) ?_
  refine sn ?_
  refine loop_next (i_1 + (1 : Int)) (by kernel_rfl) (show ((↑a.length : Int) - (i_1 + (1 : Int))).toNat < ((↑a.length : Int) - i_1).toNat from (by omega)) (show invE a b (i_1 + (1 : Int)) from ?g3); rotate_left 1
  refine st_exit 0 (by kernel_rfl) ?_
  refine q_seq_exit ?_
  refine q_seq_exit ?_
  refine q_blk_hit ?_
  refine sn ?_
  refine sq ?_
  refine rg (A := True) cx [] [4] [] trivial ?_
  refine sn ?_
  refine st_ret (by kernel_rfl) ?_
  refine q_ret (r := .b (true)) (obl := []) (by kernel_rfl) trivial (AVle.eq (show AV.b true = AV.b (decide (a = b)) from ?g4)); rotate_left 1
  revert h_0; rotate_left
  revert h_0; rotate_left
  revert h_0 i_1 h_3 h_4 h_5 h_6 h_7 h_8; rotate_left
  revert h_0 i_1 h_3 h_4 h_5 h_6 h_7 h_8; rotate_left
  revert h_0 i_1 h_3 h_4 h_5 h_6 h_7; rotate_left
  case g0 => exact (fun h => by rw [decide_eq_false (fun k => h (by rw [k]))])
  case g1 => exact (fun h => ⟨by omega, by omega, by omega, fun j hj => by omega⟩)
  case g2 => exact (fun h i h0 h1 h2 h3 h4 h5 => by rw [decide_eq_false (fun k => h5 (by rw [k]))])
  case g3 => exact (fun h i h0 h1 h2 h3 h4 h5 => ⟨by omega, by omega, h2, fun j hj => by
      by_cases e : j = i.toNat
      · rw [e]; exact Classical.not_not.1 h5
      · exact h3 j (by omega)⟩)
  case g4 => exact (fun h i h0 h1 h2 h3 h4 => by rw [decide_eq_true (eq_of_all h2 fun j hj => h3 j (by omega))])
theorem con66 (p : Past) (hb : p.cloud.length * 16 ≤ 140737488350000) : Con Try.prog 66 [.agg (c36 p)] (.b (decide (p = normP p))) :=
  by
  refine st_con tab_ok (by kernel_rfl) [.tmp 2] 18 Go.Proofs.Try.func66 (by kernel_rfl) (by kernel_rfl) ?_
  intro e0 cx
  refine sq ?_
  refine rg (A := True) cx [] [1] [1] trivial ?_
  refine sn ?_
  refine sq ?_
  refine rg (A := _) cx [(1, { val := some (.agg [.sl (List.map c3 (normP p).vec), .sl (List.map c81 (normP p).cloud)]) })] [1, 3] [1, 3] (con84 (p) (by (with_reducible assumption))) ?_
  refine sn ?_
  refine sq ?_
  refine st_join (σ' := ⟨[(2, .b (decide (p.vec = (normP p).vec ∧ p.cloud = (normP p).cloud)))], []⟩) ?_ ?_
  refine st_split (p.vec = (normP p).vec) (fun h_1 => ?_) (fun h_1 => ?_)
  refine rg (A := _ ∧ _ ∧ _ ∧ (AV.b (decide (p.cloud = (normP p).cloud)) = AV.b (decide (p.vec = (normP p).vec ∧ p.cloud = (normP p).cloud)))) cx [(4, { val := some (.b (decide (p.vec = (normP p).vec))), tell := some (.b (true)) }), (10, { val := some (.b (decide (p.cloud = (normP p).cloud))) }), (12, { tell := some (.b (decide (p.vec = (normP p).vec ∧ p.cloud = (normP p).cloud))) })] [2] [] ⟨(told_true h_1), (con85 (p.vec) ((normP p).vec)), (con86 (p.cloud) ((normP p).cloud)), (by simp only [eq_true h_1, told_simp1, told_simp2, and_true, true_and, and_false, false_and, or_true, true_or, or_false, false_or, not_true_eq_false, not_false_eq_true, decide_true, decide_false, Bool.decide_eq_true])⟩ ?_
  exact ⟨rfl, by kernel_rfl⟩
  refine rg (A := _ ∧ _ ∧ (AV.b false = AV.b (decide (p.vec = (normP p).vec ∧ p.cloud = (normP p).cloud)))) cx [(4, { val := some (.b (decide (p.vec = (normP p).vec))), tell := some (.b (false)) }), (12, { tell := some (.b (decide (p.vec = (normP p).vec ∧ p.cloud = (normP p).cloud))) })] [2] [] ⟨(told_false h_1), (con85 (p.vec) ((normP p).vec)), (by simp only [eq_false h_1, told_simp1, told_simp2, and_true, true_and, and_false, false_and, or_true, true_or, or_false, false_or, not_true_eq_false, not_false_eq_true, decide_true, decide_false, Bool.decide_eq_true])⟩ ?_
  exact ⟨rfl, by kernel_rfl⟩
  refine sn ?_
  refine st_ret (by kernel_rfl) ?_
  refine q_ret (r := .b (decide (p.vec = (normP p).vec ∧ p.cloud = (normP p).cloud))) (obl := []) (by kernel_rfl) trivial (AVle.eq (show AV.b (decide (p.vec = (normP p).vec ∧ p.cloud = (normP p).cloud)) = AV.b (decide (p = normP p)) from ?g0)); rotate_left 1
  case' g0 => refine (by
    congr 1
    refine decide_eq_decide.2 ?_
    generalize normP p = q
    cases p; cases q; simp)
end Go.Proofs.Ytjngmlkaijpbgaa
namespace Go.Proofs.Ytjngmlkaijpbgaa
open Go.E
set_option maxRecDepth 100000
set_option maxHeartbeats 4000000
def hasS (s : Span) (d : Dot) : Bool := decide (s.rep = d.rep ∧ s.lo ≤ d.num ∧ d.num ≤ s.hi)
def idxS (c : List Span) (d : Dot) : Int := if c.any (fun s => hasS s d) = true then (c.findIdx (fun s => hasS s d) : Int) else -1
def invI (c : List Span) (d : Dot) (i : Int) : Prop := 0 ≤ i ∧ i ≤ c.length ∧ ∀ j : Nat, (j : Int) < i → hasS c[j]! d = false
def decI (c : List Span) (d : Dot) (i : Int) : Nat := (c.length - i).toNat
def hasP (p : Past) (d : Dot) : Bool := dotB d && (decide (d.rep < p.vec.length ∧ d.num ≤ p.vec[d.rep.toNat]!) || p.cloud.any fun s => hasS s d)
theorem idx_at {c : List Span} {d : Dot} : ∀ {i : Nat}, i < c.length → hasS c[i]! d = true → (∀ j : Nat, j < i → hasS c[j]! d = false) → idxS c d = i := by
  intro i hi h hn
  have hany : c.any (fun s => hasS s d) = true := List.any_eq_true.2 ⟨c[i]!, bang_in hi, h⟩
  unfold idxS
  rw [if_pos hany]
  have : c.findIdx (fun s => hasS s d) = i := by
    rw [List.findIdx_eq hi]
    refine ⟨by rwa [getElem!_pos c i hi] at h, fun j hj => ?_⟩
    have := hn j hj
    rwa [getElem!_pos c j (by omega)] at this
  rw [this]
theorem idx_no {c : List Span} {d : Dot} (h : ∀ j : Nat, j < c.length → hasS c[j]! d = false) : idxS c d = -1 := by
  unfold idxS
  rw [if_neg]
  intro k
  obtain ⟨x, hx, hk⟩ := List.any_eq_true.1 k
  obtain ⟨j, hj, rfl⟩ := List.mem_iff_getElem.1 hx
  have := h j hj
  rw [getElem!_pos c j hj] at this
  rw [this] at hk
  cases hk
theorem idx_any (c : List Span) (d : Dot) : decide (0 ≤ idxS c d) = c.any fun s => hasS s d := by
  unfold idxS
  cases h : c.any fun s => hasS s d with
  | true => rw [if_pos rfl]; simp
  | false => rw [if_neg (by simp)]; rfl
theorem con88 (s : Span) (d : Dot) : Con Try.prog 88 [.agg (c81 s), .eptr (c26 d)] (.b (hasS s d)) :=
  by
  refine st_con tab_ok (by kernel_rfl) [.tmp 3] 23 Go.Proofs.Try.func88 (by kernel_rfl) (by kernel_rfl) ?_
  intro e0 cx
  refine sq ?_
  refine rg (A := True) cx [] [1, 2] [2] trivial ?_
  refine sn ?_
  refine sq ?_
  refine st_join (σ' := ⟨[(3, .b (decide (s.rep = d.rep ∧ s.lo ≤ d.num ∧ d.num ≤ s.hi)))], []⟩) ?_ ?_
  refine st_split (s.rep = d.rep) (fun h_1 => ?_) (fun h_1 => ?_)
  refine st_split (s.lo ≤ d.num) (fun h_2 => ?_) (fun h_2 => ?_)
  refine rg (A := _ ∧ _ ∧ (AV.b (decide (d.num ≤ s.hi)) = AV.b (decide (d.num ≤ s.hi))) ∧ (AV.b (decide (d.num ≤ s.hi)) = AV.b (decide (s.rep = d.rep ∧ s.lo ≤ d.num ∧ d.num ≤ s.hi)))) cx [(4, { tell := some (.b (true)) }), (10, { tell := some (.b (true)) }), (17, { tell := some (.b (decide (d.num ≤ s.hi))) }), (19, { tell := some (.b (decide (s.rep = d.rep ∧ s.lo ≤ d.num ∧ d.num ≤ s.hi))) })] [3] [] ⟨(told_true h_1), (told_true h_2), (by kernel_rfl), (by simp only [eq_true h_1, eq_true h_2, told_simp1, told_simp2, and_true, true_and, and_false, false_and, or_true, true_or, or_false, false_or, not_true_eq_false, not_false_eq_true, decide_true, decide_false, Bool.decide_eq_true])⟩ ?_
  exact ⟨rfl, by kernel_rfl⟩
  refine rg (A := _ ∧ _ ∧ (AV.b false = AV.b (decide (s.rep = d.rep ∧ s.lo ≤ d.num ∧ d.num ≤ s.hi)))) cx [(4, { tell := some (.b (true)) }), (10, { tell := some (.b (false)) }), (19, { tell := some (.b (decide (s.rep = d.rep ∧ s.lo ≤ d.num ∧ d.num ≤ s.hi))) })] [3] [] ⟨(told_true h_1), (told_false h_2), (by simp only [eq_true h_1, eq_false h_2, told_simp1, told_simp2, and_true, true_and, and_false, false_and, or_true, true_or, or_false, false_or, not_true_eq_false, not_false_eq_true, decide_true, decide_false, Bool.decide_eq_true])⟩ ?_
  exact ⟨rfl, by kernel_rfl⟩
  refine rg (A := _ ∧ (AV.b false = AV.b (decide (s.rep = d.rep ∧ s.lo ≤ d.num ∧ d.num ≤ s.hi)))) cx [(4, { tell := some (.b (false)) }), (19, { tell := some (.b (decide (s.rep = d.rep ∧ s.lo ≤ d.num ∧ d.num ≤ s.hi))) })] [3] [] ⟨(told_false h_1), (by simp only [eq_false h_1, told_simp1, told_simp2, and_true, true_and, and_false, false_and, or_true, true_or, or_false, false_or, not_true_eq_false, not_false_eq_true, decide_true, decide_false, Bool.decide_eq_true])⟩ ?_
  exact ⟨rfl, by kernel_rfl⟩
  refine sn ?_
  refine st_ret (by kernel_rfl) ?_
  refine q_ret (r := .b (decide (s.rep = d.rep ∧ s.lo ≤ d.num ∧ d.num ≤ s.hi))) (obl := []) (by kernel_rfl) trivial (AVle.eq (show AV.b (decide (s.rep = d.rep ∧ s.lo ≤ d.num ∧ d.num ≤ s.hi)) = AV.b (hasS s d) from ?g0)); rotate_left 1
  case g0 => exact rfl
theorem con118 (c : List Span) (d : Dot) : Con Try.prog 118 [.sl (c.map c81), .fn (.func 88) [] [.eptr (c26 d)]] (.i .i64 (idxS c d)) :=
  by
  refine con_lens 0 (c81) (c) (by kernel_rfl) Go.Proofs.Try.func118 (by kernel_rfl) fun hl_0 => ?_
  refine st_con tab_ok (by kernel_rfl) [.tmp 4] 19 Go.Proofs.Try.func118 (by kernel_rfl) (by kernel_rfl) ?_
  intro e0 cx
  refine sq ?_
  refine rg (A := True) cx [] [0, 1] [] trivial ?_
  refine sn ?_
  refine sq ?_
  refine sq ?_
  refine rg (A := _) cx [(1, { tell := some (.i .i64 ((↑c.length : Int))) })] [0, 1, 7, 8] [] (told_len c81 c) ?_
  refine sn ?_
  refine st_block 0 (by kernel_rfl) ?_
  refine st_loop (X := Int) (fun x => ⟨[(0, .sl (List.map c81 c)), (1, .fn (Fn.func (88 : FuncId)) [] [.eptr [.i .i64 (d.rep), .i .i64 (d.num)]]), (7, .i .i64 ((↑c.length : Int))), (8, .i .i64 (x))], []⟩) (fun x ↦ decI c d x) (fun x ↦ invI c d x) [0, 1, 7, 8] [] ((0 : Int)) (by kernel_rfl) (by kernel_rfl) (show invI c d (0 : Int) from ?g0) ?_; rotate_left 1
  intro i_0 h_1
  obtain ⟨h_2, h_3, h_4⟩ : (0 : Int) ≤ i_0 ∧ i_0 ≤ (↑c.length : Int) ∧ ∀ (j : Nat), (↑j : Int) < i_0 → hasS c[j]! d = false := h_1
  refine sq ?_
  refine rg (A := (AV.b (decide (i_0 < (↑c.length : Int))) = AV.b (decide (i_0 < (↑c.length : Int))))) cx [(0, { tell := some (.b (decide (i_0 < (↑c.length : Int)))) })] [0, 1, 7, 8, 9] [] (by kernel_rfl) ?_
  refine sn ?_
  refine sq ?_
  refine st_dec (i_0 < (↑c.length : Int)) (by kernel_rfl) (by kernel_rfl) (fun h_5 => ?_) (fun h_5 => ?_)
  refine st_skip (by kernel_rfl) ?_
  refine sn ?_
  refine sq ?_
  refine st_block 1 (by kernel_rfl) ?_
  refine sq ?_
  refine rg (A := True) cx [] [0, 1, 7, 8, 5] [] trivial ?_
  refine sn ?_
  refine sq ?_
  refine rg (A := ((0 : Int) ≤ i_0) ∧ ((List.map c81 c)[i_0.toNat]? = some (c81 c[i_0.toNat]!)) ∧ ((c81 c[i_0.toNat]!).length = (3 : Nat)) ∧ ((3 : Nat) ≤ [AV.i IntKind.i64 c[i_0.toNat]!.rep, AV.i IntKind.i64 c[i_0.toNat]!.lo, AV.i IntKind.i64 c[i_0.toNat]!.hi].length) ∧ _) cx [(3, { row := (c81 c[i_0.toNat]!) }), (5, { val := some (.b (hasS c[i_0.toNat]! d)) })] [0, 1, 7, 8, 5, 16] [] ⟨(by (with_reducible assumption)), (by (with_reducible refine get_map ?_; omega)), (by kernel_rfl), (by (simp only [List.length_append, List.length_cons, List.length_nil]; omega)), (con88 (c[i_0.toNat]!) (d))⟩ ?_
  refine sn ?_
  refine st_cond (hasS c[i_0.toNat]! d) (by kernel_rfl) (by kernel_rfl) (fun h_6 => ?_) (fun h_6 => ?_)
  refine sq ?_
  refine rg (A := True) cx [] [4] [] trivial ?_
  refine sn ?_
  refine st_ret (by kernel_rfl) ?_
  refine q_blk_ret ?_
  refine q_seq_ret ?_
  refine q_seq_ret ?_
  refine q_blk_ret ?_
  refine q_seq_ret ?_
  refine q_ret (r := .i .i64 (i_0)) (obl := []) (by kernel_rfl) trivial (AVle.eq (show AV.i IntKind.i64 i_0 = AV.i IntKind.i64 (idxS c d) from ?g1)); rotate_left 1
  refine st_skip (by kernel_rfl) ?_
  refine q_blk_normal ?_
  refine sn ?_
  refine rg (A := (AV.i IntKind.i64 (IntKind.i64.wrap (i_0 + (1 : Int))) = AV.i IntKind.i64 (i_0 + (1 : Int)))) cx [(0, { tell := some (.i .i64 (i_0 + (1 : Int))) })] [0, 1, 7, 8] [] (told_i64 (by omega) (by omega)) ?_
  refine sn ?_
  refine loop_next (i_0 + (1 : Int)) (by kernel_rfl) (show ((↑c.length : Int) - (i_0 + (1 : Int))).toNat < ((↑c.length : Int) - i_0).toNat from (by omega)) (show invI c d (i_0 + (1 : Int)) from ?g2); rotate_left 1
  refine st_exit 0 (by kernel_rfl) ?_
  refine q_seq_exit ?_
  refine q_seq_exit ?_
  refine q_blk_hit ?_
  refine sn ?_
  refine sq ?_
  refine rg (A := True) cx [] [4] [] trivial ?_
  refine sn ?_
  refine st_ret (by kernel_rfl) ?_
  refine q_ret (r := .i .i64 ((-1 : Int))) (obl := []) (by kernel_rfl) trivial (AVle.eq (show AV.i IntKind.i64 (-1 : Int) = AV.i IntKind.i64 (idxS c d) from ?g3)); rotate_left 1
  rotate_left
  revert i_0 h_2 h_3 h_4 h_5 h_6; rotate_left
  revert i_0 h_2 h_3 h_4 h_5 h_6; rotate_left
  revert i_0 h_2 h_3 h_4 h_5; rotate_left
  case g0 => exact ⟨by omega, by omega, fun j hj => by omega⟩
  case g1 => exact (fun i h0 h1 h2 h3 h4 => by rw [idx_at (i := i.toNat) (by omega) h4 (fun j hj => h2 j (by omega)), show ((i.toNat : Nat) : Int) = i by omega])
  case g2 => exact (fun i h0 h1 h2 h3 h4 => ⟨by omega, by omega, fun j hj => by
      by_cases e : j = i.toNat
      · rw [e]; exact h4
      · exact h2 j (by omega)⟩)
  case g3 => exact (fun i h0 h1 h2 h3 => by rw [idx_no fun j hj => h2 j (by omega)])
theorem con87 (c : List Span) (d : Dot) : Con Try.prog 87 [.sl (c.map c81), .fn (.func 88) [] [.eptr (c26 d)]] (.b (decide (0 ≤ idxS c d))) :=
  by
  refine con_lens 0 (c81) (c) (by kernel_rfl) Go.Proofs.Try.func87 (by kernel_rfl) fun hl_0 => ?_
  refine st_con tab_ok (by kernel_rfl) [.tmp 4] 9 Go.Proofs.Try.func87 (by kernel_rfl) (by kernel_rfl) ?_
  intro e0 cx
  refine sq ?_
  refine rg (A := True) cx [] [0, 1] [] trivial ?_
  refine sn ?_
  refine sq ?_
  refine rg (A := _ ∧ (AV.b (decide (idxS c d ≥ (0 : Int))) = AV.b (decide ((0 : Int) ≤ idxS c d)))) cx [(2, { val := some (.i .i64 (idxS c d)) }), (3, { tell := some (.b (decide ((0 : Int) ≤ idxS c d))) })] [4] [] ⟨(con118 (c) (d)), (by kernel_rfl)⟩ ?_
  refine sn ?_
  refine st_ret (by kernel_rfl) ?_
  exact q_ret (r := .b (decide ((0 : Int) ≤ idxS c d))) (obl := []) (by kernel_rfl) trivial (AVle.refl _)
theorem con68 (p : Past) (d : Dot) : Con Try.prog 68 [.agg (c36 p), .agg (c26 d)] (.b (hasP p d)) :=
  by
  refine st_con tab_ok (by kernel_rfl) [.tmp 4] 29 Go.Proofs.Try.func68 (by kernel_rfl) (by kernel_rfl) ?_
  intro e0 cx
  refine sq ?_
  refine rg (A := True) cx [] [2, 3] [2, 3] trivial ?_
  refine sn ?_
  refine sq ?_
  refine sq ?_
  refine rg (A := _ ∧ ((AV.b !dotB d) = AV.b (decide ¬dotB d = true))) cx [(1, { val := some (.b (dotB d)) }), (2, { tell := some (.b (decide ¬dotB d = true)) })] [2, 3, 7] [2, 3] ⟨(con80 (d)), (told_not)⟩ ?_
  refine sn ?_
  refine st_dec (¬dotB d = true) (by kernel_rfl) (by kernel_rfl) (fun h_0 => ?_) (fun h_0 => ?_)
  refine sq ?_
  refine rg (A := True) cx [] [4] [] trivial ?_
  refine sn ?_
  refine st_ret (by kernel_rfl) ?_
  refine q_seq_ret ?_
  refine q_ret (r := .b (false)) (obl := []) (by kernel_rfl) trivial (AVle.eq (show AV.b false = AV.b (hasP p d) from ?g0)); rotate_left 1
  refine st_skip (by kernel_rfl) ?_
  refine sn ?_
  refine sq ?_
  refine sq ?_
  refine st_join (σ' := ⟨[(2, .ptr (2) (0) (0) (0)), (3, .ptr (3) (0) (0) (0)), (24, .b (decide (d.rep < (↑p.vec.length : Int) ∧ d.num ≤ p.vec[d.rep.toNat]!)))], [(2, ⟨0, 36, .var [.sl (List.map c3 p.vec), .sl (List.map c81 p.cloud)]⟩), (3, ⟨0, 26, .var [.i .i64 (d.rep), .i .i64 (d.num)]⟩)]⟩) ?_ ?_
  refine st_split (d.rep < (↑p.vec.length : Int)) (fun h_2 => ?_) (fun h_2 => ?_)
  refine ra (A := _ ∧ _ ∧ ((0 : Int) ≤ d.rep) ∧ ((List.map c3 p.vec)[d.rep.toNat]? = some (c3 p.vec[d.rep.toNat]!)) ∧ ((c3 p.vec[d.rep.toNat]!).length = (1 : Nat)) ∧ (AV.b (decide (d.num ≤ p.vec[d.rep.toNat]!)) = AV.b (decide (d.num ≤ p.vec[d.rep.toNat]!))) ∧ (AV.b (decide (d.num ≤ p.vec[d.rep.toNat]!)) = AV.b (decide (d.rep < (↑p.vec.length : Int) ∧ d.num ≤ p.vec[d.rep.toNat]!)))) cx [(4, { tell := some (.i .i64 ((↑p.vec.length : Int))) }), (5, { tell := some (.b (true)) }), (13, { row := (c3 p.vec[d.rep.toNat]!) }), (15, { tell := some (.b (decide (d.num ≤ p.vec[d.rep.toNat]!))) }), (16, { tell := some (.b (decide (d.rep < (↑p.vec.length : Int) ∧ d.num ≤ p.vec[d.rep.toNat]!))) })] [2, 3, 24] [2, 3] ⟨(told_len c3 p.vec), (told_true h_2), ?g1, ?g2, (by kernel_rfl), (by kernel_rfl), (by simp only [eq_true h_2, told_simp1, told_simp2, and_true, true_and, and_false, false_and, or_true, true_or, or_false, false_or, not_true_eq_false, not_false_eq_true, decide_true, decide_false, Bool.decide_eq_true])⟩ ?_; rotate_left 2
  exact ⟨rfl, by kernel_rfl⟩
  refine ra (A := _ ∧ _ ∧ (AV.b false = AV.b (decide (d.rep < (↑p.vec.length : Int) ∧ d.num ≤ p.vec[d.rep.toNat]!)))) cx [(4, { tell := some (.i .i64 ((↑p.vec.length : Int))) }), (5, { tell := some (.b (false)) }), (16, { tell := some (.b (decide (d.rep < (↑p.vec.length : Int) ∧ d.num ≤ p.vec[d.rep.toNat]!))) })] [2, 3, 24] [2, 3] ⟨(told_len c3 p.vec), (told_false h_2), (by simp only [eq_false h_2, told_simp1, told_simp2, and_true, true_and, and_false, false_and, or_true, true_or, or_false, false_or, not_true_eq_false, not_false_eq_true, decide_true, decide_false, Bool.decide_eq_true])⟩ ?_
  exact ⟨rfl, by kernel_rfl⟩
  refine sn ?_
  refine st_dec (d.rep < (↑p.vec.length : Int) ∧ d.num ≤ p.vec[d.rep.toNat]!) (by kernel_rfl) (by kernel_rfl) (fun h_3 => ?_) (fun h_3 => ?_)
  refine sq ?_
  refine rg (A := True) cx [] [4] [] trivial ?_
  refine sn ?_
  refine st_ret (by kernel_rfl) ?_
  refine q_seq_ret ?_
  refine q_ret (r := .b (true)) (obl := []) (by kernel_rfl) trivial (AVle.eq (show AV.b true = AV.b (hasP p d) from ?g3)); rotate_left 1
  refine st_skip (by kernel_rfl) ?_
  refine sn ?_
  refine sq ?_
  refine rg (A := (Flat (AV.b (decide ((0 : Int) ≤ idxS p.cloud d)))) ∧ _) cx [(3, { val := some (.b (decide ((0 : Int) ≤ idxS p.cloud d))), flat := true })] [4] [] ⟨(by exact Flat.b _), (con87 (p.cloud) (d))⟩ ?_
  refine sn ?_
  refine st_ret (by kernel_rfl) ?_
  refine q_ret (r := .b (decide ((0 : Int) ≤ idxS p.cloud d))) (obl := []) (by kernel_rfl) trivial (AVle.eq (show AV.b (decide ((0 : Int) ≤ idxS p.cloud d)) = AV.b (hasP p d) from ?g4)); rotate_left 1
  revert h_0; rotate_left
  revert h_0 h_2; rotate_left
  revert h_0 h_2; rotate_left
  revert h_0 h_3; rotate_left
  revert h_0 h_3; rotate_left
  case g0 => intro h; unfold hasP; rw [Bool.eq_false_iff.2 h]; rfl
  case g1 => intro h h1; exact (dotB_in (Classical.not_not.1 h)).1
  case g2 => intro h h1; have := (dotB_in (Classical.not_not.1 h)).1; exact get_map (by omega)
  case g3 => intro h h1; unfold hasP; rw [Classical.not_not.1 h, decide_eq_true h1]; rfl
  case g4 => intro h h1; unfold hasP; rw [Classical.not_not.1 h, decide_eq_false h1, idx_any]; simp
end Go.Proofs.Ytjngmlkaijpbgaa
namespace Go.Proofs.Ytjngmlkaijpbgaa
open Go.E
set_option maxRecDepth 100000
set_option maxHeartbeats 4000000
def nrmT (T : Nat → List Run) (r : Nat) : List Run := nrm (T r)
theorem inR_cons (r : Run) (R : List Run) (n : Int) : inR (r :: R) n ↔ (r.lo ≤ n ∧ n ≤ r.hi) ∨ inR R n := by simp [inR]
theorem nrm_id {l : List Run} (h : sepR l) : nrm l = l := by
  refine sep_unique (nrm_sep l) h fun n => ?_
  rw [nrm_in]
  constructor
  · exact fun k => k.2.2
  · rintro ⟨r, hr, h1, h2⟩
    have := h.2 r hr
    exact ⟨by omega, by omega, r, hr, h1, h2⟩
theorem lead_nil : leadR [] = (0, []) := rfl
theorem nrm_nrm (l : List Run) : nrm (nrm l) = nrm l := nrm_id (nrm_sep l)
theorem tabP_nrm (T : Nat → List Run) : tabP (nrmT T) = tabP T := by
  have h1 : ∀ r, leadT (nrmT T) r = leadT T r := fun r => by unfold leadT nrmT; rw [nrm_nrm]
  have h2 : ∀ r, restT (nrmT T) r = restT T r := fun r => by unfold restT nrmT; rw [nrm_nrm]
  have h3 : ∀ n, szT (nrmT T) n = szT T n := fun n => by
    induction n with
    | zero => rfl
    | succ n ih => rw [szT, szT, h1, ih]
  have h4 : ∀ n, cloudT (nrmT T) n = cloudT T n := fun n => by
    induction n with
    | zero => rfl
    | succ n ih => rw [cloudT, cloudT, h2, ih]
  have h5 : vecT (nrmT T) 16 = vecT T 16 := by
    unfold vecT
    congr 1
    exact List.map_congr_left fun r _ => h1 r
  unfold tabP
  rw [h3, h4, h5]
theorem nrmT_sep (T : Nat → List Run) : ∀ r : Nat, r < 16 → sepR (nrmT T r) := fun r _ => nrm_sep _
theorem lead_in {l : List Run} (h : sepR l) {n : Int} (hn : 1 ≤ n) : inR l n ↔ n ≤ (leadR l).1 ∨ inR (leadR l).2 n := by
  cases l with
  | nil => rw [lead_nil]; simp only [inR]; constructor
           · rintro ⟨r, hr, _⟩; cases hr
           · rintro (k | ⟨r, hr, _⟩)
             · omega
             · cases hr
  | cons x l =>
    rw [inR_cons]
    unfold leadR
    by_cases hx : x.lo = 1
    · rw [if_neg (by simpa using hx)]
      show _ ↔ n ≤ x.hi ∨ inR l n
      constructor
      · rintro (k | k)
        · exact .inl k.2
        · exact .inr k
      · rintro (k | k)
        · exact .inl ⟨by omega, k⟩
        · exact .inr k
    · rw [if_pos (.inr (by simpa using hx))]
      show _ ↔ n ≤ 0 ∨ inR (x :: l) n
      rw [inR_cons]
      constructor
      · exact fun k => .inr k
      · rintro (k | k)
        · omega
        · exact k
theorem sz_spec (T : Nat → List Run) : ∀ n : Nat, 0 ≤ szT T n ∧ szT T n ≤ n ∧ ∀ r : Nat, r < n → szT T n ≤ r → ¬ 0 < leadT T r
  | 0 => ⟨by simp [szT], by simp [szT], fun r hr => by omega⟩
  | n + 1 => by
    obtain ⟨h1, h2, h3⟩ := sz_spec T n
    rw [szT]
    split
    · exact ⟨by omega, by omega, fun r hr k => by omega⟩
    · rename_i hn
      refine ⟨h1, by omega, fun r hr k => ?_⟩
      by_cases e : r = n
      · rw [e]; exact hn
      · exact h3 r (by omega) k
theorem cloud_mem (T : Nat → List Run) (s : Span) : ∀ n : Nat, s ∈ cloudT T n ↔ ∃ r : Nat, r < n ∧ s ∈ restT T r
  | 0 => by simp [cloudT]
  | n + 1 => by
    rw [cloudT, List.mem_append, cloud_mem T s n]
    constructor
    · rintro (⟨r, h1, h2⟩ | h)
      · exact ⟨r, by omega, h2⟩
      · exact ⟨n, by omega, h⟩
    · rintro ⟨r, h1, h2⟩
      by_cases e : r = n
      · exact .inr (e ▸ h2)
      · exact .inl ⟨r, by omega, h2⟩
theorem vec_at (T : Nat → List Run) {r : Nat} (h : (r : Int) < szT T 16) : (tabP T).vec[r]! = leadT T r ∧ r < (tabP T).vec.length := by
  have h2 := (sz_spec T 16).2.1
  have hl : (vecT T 16).length = 16 := by simp [vecT]
  have hr : r < ((vecT T 16).take (szT T 16).toNat).length := by rw [List.length_take, hl]; omega
  refine ⟨?_, hr⟩
  show ((vecT T 16).take (szT T 16).toNat)[r]! = _
  rw [getElem!_pos ((vecT T 16).take (szT T 16).toNat) r hr, List.getElem_take]
  unfold vecT
  rw [List.getElem_append_left (by simp; omega)]
  simp
theorem vec_len (T : Nat → List Run) : ((tabP T).vec.length : Int) = szT T 16 := by
  have h2 := sz_spec T 16
  show (((vecT T 16).take (szT T 16).toNat).length : Int) = _
  rw [List.length_take]
  simp [vecT]
  omega
/-- What is in a set in form: the dots whose number is in the replica's list. -/
theorem has_tab (T : Nat → List Run) (d : Dot) : hasP (tabP T) d = true ↔ dotB d = true ∧ inR (T d.rep.toNat) d.num := by
  unfold hasP
  rw [Bool.and_eq_true]
  refine and_congr_right fun hd => ?_
  have hb := dotB_in hd
  have e1 : inR (T d.rep.toNat) d.num ↔ inR (nrm (T d.rep.toNat)) d.num := by
    rw [nrm_in]
    exact ⟨fun k => ⟨by omega, by omega, k⟩, fun k => k.2.2⟩
  rw [e1, lead_in (nrm_sep _) (by omega), Bool.or_eq_true, decide_eq_true_eq]
  refine or_congr ?_ ?_
  · rw [vec_len]
    constructor
    · rintro ⟨h1, h2⟩
      have := (vec_at T (r := d.rep.toNat) (by omega)).1
      rw [this] at h2
      exact h2
    · intro k
      have k : d.num ≤ leadT T d.rep.toNat := k
      have h1 : d.rep < szT T 16 := by
        apply Classical.byContradiction
        intro hn
        have := (sz_spec T 16).2.2 d.rep.toNat (by omega) (by omega)
        omega
      refine ⟨h1, ?_⟩
      rw [(vec_at T (r := d.rep.toNat) (by omega)).1]
      exact k
  · rw [List.any_eq_true]
    unfold hasS
    constructor
    · rintro ⟨s, hs, h⟩
      rw [decide_eq_true_eq] at h
      obtain ⟨r, hr, hs⟩ := (cloud_mem T s 16).1 hs
      unfold restT at hs
      obtain ⟨x, hx, rfl⟩ := List.mem_map.1 hs
      simp only at h
      have : r = d.rep.toNat := by omega
      subst this
      exact ⟨x, hx, h.2.1, h.2.2⟩
    · rintro ⟨x, hx, h1, h2⟩
      refine ⟨⟨d.rep.toNat, x.lo, x.hi⟩, (cloud_mem T _ 16).2 ⟨d.rep.toNat, by omega, List.mem_map.2 ⟨x, hx, rfl⟩⟩, ?_⟩
      rw [decide_eq_true_eq]
      exact ⟨by show ((d.rep.toNat : Nat) : Int) = d.rep; omega, h1, h2⟩
theorem inR_app (a b : List Run) (n : Int) : inR (a ++ b) n ↔ inR a n ∨ inR b n := by
  unfold inR
  constructor
  · rintro ⟨y, hy, h⟩
    rcases List.mem_append.1 hy with hy | hy
    · exact .inl ⟨y, hy, h⟩
    · exact .inr ⟨y, hy, h⟩
  · rintro (⟨y, hy, h⟩ | ⟨y, hy, h⟩)
    · exact ⟨y, List.mem_append.2 (.inl hy), h⟩
    · exact ⟨y, List.mem_append.2 (.inr hy), h⟩
theorem vecR_in {p : Past} {d : Dot} (hd : dotB d = true) : inR (vecR p.vec d.rep.toNat) d.num ↔ (d.rep < p.vec.length ∧ d.num ≤ p.vec[d.rep.toNat]!) := by
  have hb := dotB_in hd
  unfold vecR inR
  split
  · simp only [List.mem_singleton, exists_eq_left]
    constructor
    · exact fun k => ⟨by omega, k.2⟩
    · exact fun k => ⟨by omega, k.2⟩
  · constructor
    · rintro ⟨r, hr, _⟩; cases hr
    · rintro ⟨h, _⟩; omega
theorem cloudR_in {p : Past} {d : Dot} (hd : dotB d = true) : inR (cloudR p.cloud d.rep.toNat) d.num ↔ (p.cloud.any fun s => hasS s d) = true := by
  have hb := dotB_in hd
  rw [List.any_eq_true]
  unfold inR cloudR hasS
  constructor
  · rintro ⟨x, hx, h1, h2⟩
    obtain ⟨s, hs, rfl⟩ := List.mem_map.1 hx
    obtain ⟨hs, hq⟩ := List.mem_filter.1 hs
    rw [decide_eq_true_eq] at hq
    exact ⟨s, hs, by rw [decide_eq_true_eq]; exact ⟨by omega, h1, h2⟩⟩
  · rintro ⟨s, hs, h⟩
    rw [decide_eq_true_eq] at h
    exact ⟨⟨s.lo, s.hi⟩, List.mem_map.2 ⟨s, List.mem_filter.2 ⟨hs, by rw [decide_eq_true_eq]; omega⟩, rfl⟩, h.2.1, h.2.2⟩
/-- What is in a set, by its lists. -/
theorem has_in (p : Past) (d : Dot) : hasP p d = true ↔ dotB d = true ∧ (inR (vecR p.vec d.rep.toNat) d.num ∨ inR (cloudR p.cloud d.rep.toNat) d.num) := by
  unfold hasP
  rw [Bool.and_eq_true]
  refine and_congr_right fun hd => ?_
  rw [vecR_in hd, cloudR_in hd, Bool.or_eq_true, decide_eq_true_eq]
/-- What is in any of the sets. -/
theorem has_open (ps : List Past) (d : Dot) : hasP (tabP (openT ps)) d = true ↔ ∃ p ∈ ps, hasP p d = true := by
  rw [has_tab]
  have e : inR (openT ps d.rep.toNat) d.num ↔ ∃ p ∈ ps, inR (vecR p.vec d.rep.toNat ++ cloudR p.cloud d.rep.toNat) d.num := by
    unfold inR openT
    constructor
    · rintro ⟨r, hr, h⟩
      obtain ⟨l, hl, hr⟩ := List.mem_flatten.1 hr
      obtain ⟨p, hp, rfl⟩ := List.mem_map.1 hl
      exact ⟨p, hp, r, hr, h⟩
    · rintro ⟨p, hp, r, hr, h⟩
      exact ⟨r, List.mem_flatten.2 ⟨_, List.mem_map.2 ⟨p, hp, rfl⟩, hr⟩, h⟩
  rw [e]
  constructor
  · rintro ⟨hd, p, hp, h⟩
    rw [inR_app] at h
    exact ⟨p, hp, (has_in p d).2 ⟨hd, h⟩⟩
  · rintro ⟨p, hp, h⟩
    have := (has_in p d).1 h
    exact ⟨this.1, p, hp, (inR_app _ _ _).2 this.2⟩
theorem has_norm (p : Past) (d : Dot) : hasP (normP p) d = hasP p d := by
  rw [Bool.eq_iff_iff]
  unfold normP
  rw [has_open]
  simp
theorem has_of (ds : List Dot) (d : Dot) : hasP (tabP (ofT ds)) d = true ↔ dotB d = true ∧ d ∈ ds := by
  rw [has_tab]
  refine and_congr_right fun hd => ?_
  have hb := dotB_in hd
  unfold inR ofT
  constructor
  · rintro ⟨x, hx, h1, h2⟩
    obtain ⟨y, hy, rfl⟩ := List.mem_map.1 hx
    obtain ⟨hy, hq⟩ := List.mem_filter.1 hy
    rw [Bool.and_eq_true, decide_eq_true_eq] at hq
    simp only at h1 h2
    have : y = d := by
      cases y; cases d
      simp only at *
      congr 1
      · omega
      · omega
    exact this ▸ hy
  · intro h
    exact ⟨⟨d.num, d.num⟩, List.mem_map.2 ⟨d, List.mem_filter.2 ⟨h, by rw [Bool.and_eq_true, decide_eq_true_eq]; exact ⟨hd, by omega⟩⟩, rfl⟩, Int.le_refl _, Int.le_refl _⟩
/-- Sets in form with the same dots are one. -/
theorem tab_ext {T U : Nat → List Run} (h : ∀ d, hasP (tabP T) d = true ↔ hasP (tabP U) d = true) : tabP T = tabP U := by
  rw [← tabP_nrm T, ← tabP_nrm U]
  refine tabP_congr fun r hr => ?_
  refine sep_unique (nrm_sep _) (nrm_sep _) fun n => ?_
  show inR (nrm _) n ↔ inR (nrm _) n
  rw [nrm_in, nrm_in]
  refine and_congr_right fun n0 => and_congr_right fun n1 => ?_
  have hd : dotB ⟨r, n⟩ = true := by unfold dotB; rw [decide_eq_true_eq]; simp only; omega
  have := h ⟨r, n⟩
  rw [has_tab, has_tab] at this
  simp only [hd, true_and] at this
  exact this
theorem norm_tab (T : Nat → List Run) : normP (tabP T) = tabP T := tab_ext fun d => by
  have := has_norm (tabP T) d
  unfold normP at this
  rw [this]
theorem norm_ext {p q : Past} (hp : p = normP p) (hq : q = normP q) (h : ∀ d, hasP p d = hasP q d) : p = q := by
  rw [hp, hq]
  refine tab_ext fun d => ?_
  have h1 := has_norm p d
  have h2 := has_norm q d
  unfold normP at h1 h2
  rw [h1, h2, h d]
theorem norm_norm (p : Past) : normP (normP p) = normP p := norm_tab _
theorem tabP_len (T : Nat → List Run) : (tabP T).cloud.length ≤ 8000000000 ∧ (tabP T).vec.length ≤ 16 := by
  have h1 := cloud_len T 16
  have h2 := vec_len T
  have h3 := (sz_spec T 16).2.1
  exact ⟨by show (cloudT T 16).length ≤ _; omega, by omega⟩
end Go.Proofs.Ytjngmlkaijpbgaa
namespace Go.Proofs.Ytjngmlkaijpbgaa
open Go.E
set_option maxRecDepth 100000
set_option maxHeartbeats 4000000
def dotsV (es : List Entry) : Past × Int := if okL es = true then (tabP (ofT (es.map fun e => e.dot)), 0) else (⟨[], []⟩, 1)
def sideV (es : List Entry) (p : Past) (t : Bool) : List Entry × Int := if okL es = true ∧ p = normP p then (es.filter (fun e => hasP p e.dot == t), 0) else ([], 1)
theorem dotsV_no {es : List Entry} (h : ¬ lstE es = 0) : dotsV es = (⟨[], []⟩, 1) := by unfold dotsV; rw [if_neg (lst_no h)]
theorem dotsV_ok {es : List Entry} (h : lstE es = 0) : dotsV es = (tabP (ofT (es.map fun e => e.dot)), 0) := by unfold dotsV; rw [if_pos (lst_ok h)]
theorem sideV_no {es : List Entry} {p : Past} {t : Bool} (h : ¬ lstE es = 0 ∨ ¬ p = normP p) : sideV es p t = ([], 1) := by
  unfold sideV
  rw [if_neg]
  rintro ⟨h1, h2⟩
  exact h.elim (fun k => lst_no k h1) (fun k => k h2)
theorem sideV_ok {es : List Entry} {p : Past} {t : Bool} (h : lstE es = 0) (h2 : p = normP p) : sideV es p t = (es.filter (fun e => hasP p e.dot == t), 0) := by unfold sideV; rw [if_pos ⟨lst_ok h, h2⟩]
def isDots (es : List Entry) (i : Int) (l : List Dot) : Prop := l.length = es.length ∧ l.take i.toNat = (es.take i.toNat).map fun e => e.dot
def invD (es : List Entry) (i : Int) (l : List Dot) : Prop := 0 ≤ i ∧ i ≤ es.length ∧ l.length = es.length ∧ isDots es i l
def decD (es : List Entry) (i : Int) (l : List Dot) : Nat := (es.length - i).toNat
theorem isDots_step {es : List Entry} {i : Int} {l : List Dot} (h0 : 0 ≤ i) (h : i < es.length) (hs : isDots es i l) : isDots es (i + 1) (l.set i.toNat es[i.toNat]!.dot) := by
  obtain ⟨h1, h2⟩ := hs
  refine ⟨by rw [List.length_set]; exact h1, ?_⟩
  rw [← take_step h0 h, List.map_append, ← h2, show (i + 1).toNat = i.toNat + 1 by omega, List.take_succ_eq_append_getElem (by rw [List.length_set]; omega)]
  simp [List.take_set_of_le]
theorem isDots_end {es : List Entry} {i : Int} {l : List Dot} (h : ¬ i < es.length) (hs : isDots es i l) : l = es.map fun e => e.dot := by
  obtain ⟨h1, h2⟩ := hs
  rwa [List.take_of_length_le (by omega), List.take_of_length_le (by omega)] at h2
def isSd (p : Past) (t : Bool) (es : List Entry) (i : Int) (l : List Entry) : Prop := l = (es.take i.toNat).filter (fun e => hasP p e.dot == t)
def invSd (p : Past) (t : Bool) (es : List Entry) (i : Int) (v : List Int) (c : List Span) (l : List Entry) : Prop := v = p.vec ∧ c = p.cloud ∧ 0 ≤ i ∧ i ≤ es.length ∧ isSd p t es i l ∧ (l.length : Int) ≤ i
def decSd (es : List Entry) (i : Int) (v : List Int) (c : List Span) (l : List Entry) : Nat := (es.length - i).toNat
theorem ok_len {es : List Entry} (h : ¬ ¬ lstE es = 0) : es.length ≤ 16000000000 := okL_len (lst_ok (Classical.not_not.1 h))
theorem ok_both {es : List Entry} {p : Past} (h : ¬ (¬ lstE es = 0 ∨ ¬ p = normP p)) : lstE es = 0 ∧ p = normP p := ⟨Classical.not_not.1 fun k => h (.inl k), Classical.not_not.1 fun k => h (.inr k)⟩
def isPreD (es : List Entry) (i : Int) (l : List Dot) : Prop := l = (es.take i.toNat).map fun e => e.dot
theorem isPreD_step {es : List Entry} {i : Int} {l : List Dot} (h0 : 0 ≤ i) (h : i < es.length) (hs : isPreD es i l) : isPreD es (i + 1) (l ++ [es[i.toNat]!.dot]) := by
  unfold isPreD at *
  rw [← take_step h0 h, List.map_append, ← hs]
  rfl
def invRD (es : List Entry) (i : Int) (l : List Dot) : Prop := 0 ≤ i ∧ i ≤ es.length ∧ (l.length : Int) = i ∧ isPreD es i l
def decRD (es : List Entry) (i : Int) (l : List Dot) : Nat := (es.length - i).toNat
theorem dotsV_len (es : List Entry) : (dotsV es).1.cloud.length ≤ 8000000000 ∧ (dotsV es).1.vec.length ≤ 16 := by
  unfold dotsV
  split
  · exact tabP_len _
  · simp
theorem con39 (es : List Entry) : Con Try.prog 39 [.sl (es.map c28)] (.tup [.agg (c36 (dotsV es).1), .i .i64 (dotsV es).2]) :=
  by
  refine con_lens 0 (c28) (es) (by kernel_rfl) Go.Proofs.Try.func39 (by kernel_rfl) fun hl_0 => ?_
  refine st_con tab_ok (by kernel_rfl) [.cell 2 36, .tmp 3] 29 Go.Proofs.Try.func39 (by kernel_rfl) (by kernel_rfl) ?_
  intro e0 cx
  refine sq ?_
  refine rg (A := True) cx [] [0, 2] [2] trivial ?_
  refine sn ?_
  refine sq ?_
  refine sq ?_
  refine rg (A := _ ∧ (AV.b (lstE es != (0 : Int)) = AV.b (decide ¬lstE es = (0 : Int)))) cx [(1, { val := some (.i .i64 (lstE es)) }), (2, { tell := some (.b (decide ¬lstE es = (0 : Int))) })] [0, 2, 9] [2] ⟨(con16 (es)), (told_neq)⟩ ?_
  refine sn ?_
  refine st_dec (¬lstE es = (0 : Int)) (by kernel_rfl) (by kernel_rfl) (fun h_0 => ?_) (fun h_0 => ?_)
  refine sq ?_
  refine rg (A := True) cx [] [2, 3] [2] trivial ?_
  refine sn ?_
  refine st_ret (by kernel_rfl) ?_
  refine q_seq_ret ?_
  refine q_ret (r := .tup [.agg [.nl, .nl], .i .i64 ((1 : Int))]) (obl := []) (by kernel_rfl) trivial (AVle.tup (ZLe.cons (AVle.agg (ZLe.cons (AVle.nl' (show List.map c3 (dotsV es).fst.vec = [] from ?g2)) (ZLe.cons (AVle.nl' (show List.map c81 (dotsV es).fst.cloud = [] from ?g1)) ZLe.nil))) (ZLe.cons (AVle.eq (show AV.i IntKind.i64 (1 : Int) = AV.i IntKind.i64 (dotsV es).snd from ?g0)) ZLe.nil))); rotate_left 3
  refine st_skip (by kernel_rfl) ?_
  refine sn ?_
  refine sq ?_
  refine rg (A := _ ∧ ((↑es.length : Int) = (↑es.length : Int)) ∧ ((↑es.length : Int) = (↑es.length : Int)) ∧ ((16 : Nat) * es.length ≤ (281474976710656 : Nat)) ∧ (es.length ≤ maxLen) ∧ ([AV.i IntKind.i64 { rep := (0 : Int), num := (0 : Int) : Dot }.rep, AV.i IntKind.i64 { rep := (0 : Int), num := (0 : Int) : Dot }.num].length = (2 : Nat)) ∧ (ZLe [AV.i IntKind.i64 (0 : Int), AV.i IntKind.i64 (0 : Int)] [AV.i IntKind.i64 { rep := (0 : Int), num := (0 : Int) : Dot }.rep, AV.i IntKind.i64 { rep := (0 : Int), num := (0 : Int) : Dot }.num]) ∧ (List.replicate es.length [AV.i IntKind.i64 { rep := (0 : Int), num := (0 : Int) : Dot }.rep, AV.i IntKind.i64 { rep := (0 : Int), num := (0 : Int) : Dot }.num] = List.map c26 (List.replicate es.length { rep := (0 : Int), num := (0 : Int) : Dot }))) cx [(1, { tell := some (.i .i64 ((↑es.length : Int))) }), (2, { row := [.i .i64 ({ rep := (0 : Int), num := (0 : Int) : Dot }.rep), .i .i64 ({ rep := (0 : Int), num := (0 : Int) : Dot }.num)], rows := some (List.map c26 (List.replicate es.length { rep := (0 : Int), num := (0 : Int) : Dot })), n := es.length })] [0, 2, 4] [2, 13] ⟨(told_len c28 es), (by kernel_rfl), (by kernel_rfl), ?g3, (by (simp only [Go.maxLen]; omega)), (by kernel_rfl), (by (with_reducible exact ZLe.refl _)), (by (with_reducible refine rep_map ?_; kernel_rfl))⟩ ?_; rotate_left 1
  refine sn ?_
  refine sq ?_
  refine sq ?_
  refine rg (A := _) cx [(1, { tell := some (.i .i64 ((↑es.length : Int))) })] [2, 4, 14, 15, 16] [2, 13] (told_len c28 es) ?_
  refine sn ?_
  refine st_block 0 (by kernel_rfl) ?_
  refine st_loop (X := Int × List Dot) (fun x => ⟨[(2, .ptr (2) (0) (0) (0)), (4, .own 13 0), (14, .sl (List.map c28 es)), (15, .i .i64 ((↑es.length : Int))), (16, .i .i64 (x.fst))], [(2, ⟨0, 36, .var [.nl, .nl]⟩), (13, ⟨0, 26, .row 2 (List.map c26 x.snd)⟩)]⟩) (fun x ↦ decD es x.fst x.snd) (fun x ↦ invD es x.fst x.snd) [2, 4, 14, 15, 16] [2, 13] (((0 : Int), List.replicate es.length { rep := (0 : Int), num := (0 : Int) : Dot })) (by kernel_rfl) (by kernel_rfl) (show invD es (0 : Int) (List.replicate es.length { rep := (0 : Int), num := (0 : Int) : Dot }) from ?g4) ?_; rotate_left 1
  rintro ⟨i_1, l_2⟩ h_3
  obtain ⟨h_4, h_5, h_6, h_7⟩ : (0 : Int) ≤ i_1 ∧ i_1 ≤ (↑es.length : Int) ∧ l_2.length = es.length ∧ isDots es i_1 l_2 := h_3
  refine sq ?_
  refine rg (A := (AV.b (decide (i_1 < (↑es.length : Int))) = AV.b (decide (i_1 < (↑es.length : Int))))) cx [(0, { tell := some (.b (decide (i_1 < (↑es.length : Int)))) })] [2, 4, 14, 15, 16, 17] [2, 13] (by kernel_rfl) ?_
  refine sn ?_
  refine sq ?_
  refine st_dec (i_1 < (↑es.length : Int)) (by kernel_rfl) (by kernel_rfl) (fun h_8 => ?_) (fun h_8 => ?_)
  refine st_skip (by kernel_rfl) ?_
  refine sn ?_
  refine sq ?_
  refine st_block 1 (by kernel_rfl) ?_
  refine sq ?_
  refine rg (A := ((0 : Int) ≤ i_1) ∧ ((List.map c28 es)[i_1.toNat]? = some (c28 es[i_1.toNat]!)) ∧ ((c28 es[i_1.toNat]!).length = (4 : Nat)) ∧ ((4 : Nat) ≤ [AV.i IntKind.i64 es[i_1.toNat]!.dot.rep, AV.i IntKind.i64 es[i_1.toNat]!.dot.num, AV.s es[i_1.toNat]!.sku, AV.i IntKind.i64 es[i_1.toNat]!.qty].length)) cx [(1, { row := (c28 es[i_1.toNat]!) })] [2, 4, 14, 15, 16, 6, 5] [2, 13, 6] ⟨(by (with_reducible assumption)), (by (with_reducible refine get_map ?_; omega)), (by kernel_rfl), (by (simp only [List.length_append, List.length_cons, List.length_nil]; omega))⟩ ?_
  refine sn ?_
  refine rg (A := ((0 : Int) ≤ i_1) ∧ (i_1.toNat < (List.map c26 l_2).length) ∧ ((2 : Nat) = 2) ∧ ((List.map c26 l_2)[i_1.toNat]? = some (c26 l_2[i_1.toNat]!)) ∧ ((cellsA (AV.agg [AV.i IntKind.i64 es[i_1.toNat]!.dot.rep, AV.i IntKind.i64 es[i_1.toNat]!.dot.num])).length = (2 : Nat)) ∧ (0 + (2 : Nat) ≤ 2) ∧ ((List.map c26 l_2).set i_1.toNat (List.take (0) (c26 l_2[i_1.toNat]!) ++ cellsA (AV.agg [AV.i IntKind.i64 es[i_1.toNat]!.dot.rep, AV.i IntKind.i64 es[i_1.toNat]!.dot.num]) ++ List.drop (0 + (2 : Nat)) (c26 l_2[i_1.toNat]!)) = List.map c26 (l_2.set i_1.toNat es[i_1.toNat]!.dot))) cx [(5, { row := (c26 l_2[i_1.toNat]!), rows := some (List.map c26 (l_2.set i_1.toNat es[i_1.toNat]!.dot)) })] [2, 4, 14, 15, 16] [2, 13] ⟨(by (with_reducible assumption)), (by (first | omega | (simp only [List.length_map]; omega))), (by kernel_rfl), (by (with_reducible refine get_map ?_; omega)), (by kernel_rfl), (by (first | omega | (simp only [List.length_map]; omega))), (by (with_reducible refine set_map ?_; kernel_rfl))⟩ ?_
  refine q_blk_normal ?_
  refine sn ?_
  refine rg (A := (AV.i IntKind.i64 (IntKind.i64.wrap (i_1 + (1 : Int))) = AV.i IntKind.i64 (i_1 + (1 : Int)))) cx [(0, { tell := some (.i .i64 (i_1 + (1 : Int))) })] [2, 4, 14, 15, 16] [2, 13] (told_i64 (by omega) (by omega)) ?_
  refine sn ?_
  refine loop_next ((i_1 + (1 : Int), l_2.set i_1.toNat es[i_1.toNat]!.dot)) (by kernel_rfl) (show ((↑es.length : Int) - (i_1 + (1 : Int))).toNat < ((↑es.length : Int) - i_1).toNat from (by omega)) (show invD es (i_1 + (1 : Int)) (l_2.set i_1.toNat es[i_1.toNat]!.dot) from ?g5); rotate_left 1
  refine st_exit 0 (by kernel_rfl) ?_
  refine q_seq_exit ?_
  refine q_seq_exit ?_
  refine q_blk_hit ?_
  refine sn ?_
  refine sq ?_
  refine rg (A := _) cx [(1, { val := some (.agg [.sl (List.map c3 (tabP (ofT l_2)).vec), .sl (List.map c81 (tabP (ofT l_2)).cloud)]) })] [2, 3] [2] (con62 (l_2) ?g6) ?_; rotate_left 1
  refine sn ?_
  refine st_ret (by kernel_rfl) ?_
  refine q_ret (r := .tup [.agg [.sl (List.map c3 (tabP (ofT l_2)).vec), .sl (List.map c81 (tabP (ofT l_2)).cloud)], .i .i64 ((0 : Int))]) (obl := []) (by kernel_rfl) trivial (AVle.tup (ZLe.cons (AVle.eq (show AV.agg [AV.sl (List.map c3 (tabP (ofT l_2)).vec), AV.sl (List.map c81 (tabP (ofT l_2)).cloud)] = AV.agg [AV.sl (List.map c3 (dotsV es).fst.vec), AV.sl (List.map c81 (dotsV es).fst.cloud)] from ?g8)) (ZLe.cons (AVle.eq (show AV.i IntKind.i64 (0 : Int) = AV.i IntKind.i64 (dotsV es).snd from ?g7)) ZLe.nil))); rotate_left 2
  revert h_0; rotate_left
  revert h_0; rotate_left
  revert h_0; rotate_left
  revert h_0; rotate_left
  revert h_0; rotate_left
  revert h_0 i_1 l_2 h_4 h_5 h_6 h_7 h_8; rotate_left
  revert h_0 i_1 l_2 h_4 h_5 h_6 h_7 h_8; rotate_left
  revert h_0 i_1 l_2 h_4 h_5 h_6 h_7 h_8; rotate_left
  revert h_0 i_1 l_2 h_4 h_5 h_6 h_7 h_8; rotate_left
  case g0 => intro h; rw [dotsV_no h]
  case g1 => intro h; rw [dotsV_no h]; rfl
  case g2 => intro h; rw [dotsV_no h]; rfl
  case g3 => intro h; have := ok_len h; omega
  case g4 => intro h; exact ⟨by omega, by omega, by simp, by simp, by simp⟩
  case g5 => intro h i l h0 h1 h2 h3 h4; exact ⟨by omega, by omega, by rw [List.length_set]; exact h2, isDots_step h0 h4 h3⟩
  case g6 => intro h i l h0 h1 h2 h3 h4; have := ok_len h; omega
  case g7 => intro h i l h0 h1 h2 h3 h4; rw [dotsV_ok (Classical.not_not.1 h)]
  case g8 => intro h i l h0 h1 h2 h3 h4; rw [dotsV_ok (Classical.not_not.1 h), isDots_end h4 h3]
theorem con67 (e : Entry) (p : Past) : Con Try.prog 67 [.agg (c28 e), .eptr (c36 p)] (.b (hasP p e.dot == true)) :=
  by
  refine st_con tab_ok (by kernel_rfl) [.tmp 3] 8 Go.Proofs.Try.func67 (by kernel_rfl) (by kernel_rfl) ?_
  intro e0 cx
  refine sq ?_
  refine rg (A := True) cx [] [1, 2] [2] trivial ?_
  refine sn ?_
  refine sq ?_
  refine rg (A := ((2 : Nat) ≤ [AV.sl (List.map c3 p.vec), AV.sl (List.map c81 p.cloud)].length) ∧ _) cx [(3, { val := some (.b (hasP p e.dot)) })] [3] [] ⟨(by (simp only [List.length_append, List.length_cons, List.length_nil]; omega)), (con68 (p) (e.dot))⟩ ?_
  refine sn ?_
  refine st_ret (by kernel_rfl) ?_
  refine q_ret (r := .b (hasP p e.dot)) (obl := []) (by kernel_rfl) trivial (AVle.eq (show AV.b (hasP p e.dot) = AV.b (hasP p e.dot == true) from ?g0)); rotate_left 1
  case g0 => exact (by cases hasP p e.dot <;> rfl)
theorem con69 (e : Entry) (p : Past) : Con Try.prog 69 [.agg (c28 e), .eptr (c36 p)] (.b (hasP p e.dot == false)) :=
  by
  refine st_con tab_ok (by kernel_rfl) [.tmp 3] 9 Go.Proofs.Try.func69 (by kernel_rfl) (by kernel_rfl) ?_
  intro e0 cx
  refine sq ?_
  refine rg (A := True) cx [] [1, 2] [2] trivial ?_
  refine sn ?_
  refine sq ?_
  refine rg (A := ((2 : Nat) ≤ [AV.sl (List.map c3 p.vec), AV.sl (List.map c81 p.cloud)].length) ∧ _ ∧ ((AV.b !hasP p e.dot) = AV.b (decide ¬hasP p e.dot = true))) cx [(3, { val := some (.b (hasP p e.dot)) }), (4, { tell := some (.b (decide ¬hasP p e.dot = true)) })] [3] [] ⟨(by (simp only [List.length_append, List.length_cons, List.length_nil]; omega)), (con68 (p) (e.dot)), (told_not)⟩ ?_
  refine sn ?_
  refine st_ret (by kernel_rfl) ?_
  refine q_ret (r := .b (decide ¬hasP p e.dot = true)) (obl := []) (by kernel_rfl) trivial (AVle.eq (show AV.b (decide ¬hasP p e.dot = true) = AV.b (hasP p e.dot == false) from ?g0)); rotate_left 1
  case g0 => exact (by cases hasP p e.dot <;> rfl)
theorem con51_3 (es : List Entry) (p : Past) (hs : es.length * 40 ≤ 140737488351232) : Con Try.prog 51 [.sl (es.map c28), .fn (.func 67) [] [.eptr (c36 p)]] (.sl ((es.filter (fun e => hasP p e.dot == true)).map c28)) :=
  by
  refine con_lens 0 (c28) (es) (by kernel_rfl) Go.Proofs.Try.func51 (by kernel_rfl) fun hl_0 => ?_
  refine st_con tab_ok (by kernel_rfl) [.tmp 4] 23 Go.Proofs.Try.func51 (by kernel_rfl) (by kernel_rfl) ?_
  intro e0 cx
  refine sq ?_
  refine rg (A := True) cx [] [0, 1] [] trivial ?_
  refine sn ?_
  refine sq ?_
  refine rg (A := True) cx [] [0, 1, 5] [] trivial ?_
  refine sn ?_
  refine sq ?_
  refine sq ?_
  refine rg (A := _) cx [(1, { tell := some (.i .i64 ((↑es.length : Int))) })] [1, 5, 8, 9, 10] [] (told_len c28 es) ?_
  refine sn ?_
  refine st_block 0 (by kernel_rfl) ?_
  refine awp_adopt 5 1005 28 4 (σ' := ⟨[(1, .fn (Fn.func (67 : FuncId)) [] [.eptr [.sl (List.map c3 p.vec), .sl (List.map c81 p.cloud)]]), (5, .own 1005 0), (8, .sl (List.map c28 es)), (9, .i .i64 ((↑es.length : Int))), (10, .i .i64 ((0 : Int)))], [(1005, ⟨0, 28, .row 4 (List.map c28 [])⟩)]⟩) (by kernel_rfl) ?_
  refine st_loop (X := Int × List Entry) (fun x => ⟨[(1, .fn (Fn.func (67 : FuncId)) [] [.eptr [.sl (List.map c3 p.vec), .sl (List.map c81 p.cloud)]]), (5, .own 1005 0), (8, .sl (List.map c28 es)), (9, .i .i64 ((↑es.length : Int))), (10, .i .i64 (x.fst))], [(1005, ⟨0, 28, .row 4 (List.map c28 x.snd)⟩)]⟩) (fun x ↦ decP es x.fst x.snd) (fun x ↦ invP (fun e ↦ hasP p e.dot == true) es x.fst x.snd) [1, 5, 8, 9, 10] [1005] (((0 : Int), [])) (by kernel_rfl) (by kernel_rfl) (show invP (fun e ↦ hasP p e.dot == true) es (0 : Int) [] from ?g0) ?_; rotate_left 1
  rintro ⟨i_0, l_1⟩ h_2
  obtain ⟨h_3, h_4, h_5, h_6⟩ : (0 : Int) ≤ i_0 ∧ i_0 ≤ (↑es.length : Int) ∧ l_1 = List.filter (fun e ↦ hasP p e.dot == true) (List.take i_0.toNat es) ∧ (↑l_1.length : Int) ≤ i_0 := h_2
  refine sq ?_
  refine rg (A := (AV.b (decide (i_0 < (↑es.length : Int))) = AV.b (decide (i_0 < (↑es.length : Int))))) cx [(0, { tell := some (.b (decide (i_0 < (↑es.length : Int)))) })] [1, 5, 8, 9, 10, 11] [1005] (by kernel_rfl) ?_
  refine sn ?_
  refine sq ?_
  refine st_dec (i_0 < (↑es.length : Int)) (by kernel_rfl) (by kernel_rfl) (fun h_7 => ?_) (fun h_7 => ?_)
  refine st_skip (by kernel_rfl) ?_
  refine sn ?_
  refine sq ?_
  refine st_block 1 (by kernel_rfl) ?_
  refine sq ?_
  refine rg (A := ((0 : Int) ≤ i_0) ∧ ((List.map c28 es)[i_0.toNat]? = some (c28 es[i_0.toNat]!)) ∧ ((c28 es[i_0.toNat]!).length = (4 : Nat)) ∧ ((4 : Nat) ≤ [AV.i IntKind.i64 es[i_0.toNat]!.dot.rep, AV.i IntKind.i64 es[i_0.toNat]!.dot.num, AV.s es[i_0.toNat]!.sku, AV.i IntKind.i64 es[i_0.toNat]!.qty].length)) cx [(0, { row := (c28 es[i_0.toNat]!) })] [1, 5, 8, 9, 10, 7] [1005, 7] ⟨(by (with_reducible assumption)), (by (with_reducible refine get_map ?_; omega)), (by kernel_rfl), (by (simp only [List.length_append, List.length_cons, List.length_nil]; omega))⟩ ?_
  refine sn ?_
  refine sq ?_
  refine rg (A := _) cx [(2, { val := some (resC (con67 (es[i_0.toNat]!) (p))) })] [1, 5, 8, 9, 10, 7, 16] [1005, 7] (con67 (es[i_0.toNat]!) (p)) ?_
  refine sn ?_
  refine st_cond (hasP p es[i_0.toNat]!.dot == true) (by kernel_rfl) (by kernel_rfl) (fun h_8 => ?_) (fun h_8 => ?_)
  refine rg (A := (28 = (28 : Nat)) ∧ ((4 : Nat) = 4) ∧ ([AV.i IntKind.i64 (0 : Int), AV.i IntKind.i64 (0 : Int), AV.s { data := #[] : ByteArray }, AV.i IntKind.i64 (0 : Int)].length = (4 : Nat)) ∧ (∀ (r : List AV), r ∈ List.map c28 [es[i_0.toNat]!] → r.length = 4) ∧ ((List.map c28 l_1).length + (List.map c28 [es[i_0.toNat]!]).length ≤ maxLen) ∧ (((List.map c28 l_1).length + (List.map c28 [es[i_0.toNat]!]).length) * (40 : Nat) ≤ (140737488355328 : Nat)) ∧ (List.map c28 l_1 ++ List.map c28 [es[i_0.toNat]!] = List.map c28 (l_1 ++ [es[i_0.toNat]!]))) cx [(3, { rows := some (List.map c28 (l_1 ++ [es[i_0.toNat]!])) })] [1, 5, 8, 9, 10] [1005] ⟨(by kernel_rfl), (by kernel_rfl), (by kernel_rfl), (by (with_reducible refine len_map (fun _ => ?_) _; kernel_rfl)), (by (simp only [Go.maxLen, List.length_map, List.length_append, List.length_cons, List.length_nil]; omega)), (by (simp only [Go.maxLen, List.length_map, List.length_append, List.length_cons, List.length_nil]; omega)), (by (with_reducible refine app_map ?_; kernel_rfl))⟩ ?_
  refine q_blk_normal ?_
  refine sn ?_
  refine rg (A := (AV.i IntKind.i64 (IntKind.i64.wrap (i_0 + (1 : Int))) = AV.i IntKind.i64 (i_0 + (1 : Int)))) cx [(0, { tell := some (.i .i64 (i_0 + (1 : Int))) })] [1, 5, 8, 9, 10] [1005] (told_i64 (by omega) (by omega)) ?_
  refine sn ?_
  refine loop_next ((i_0 + (1 : Int), l_1 ++ [es[i_0.toNat]!])) (by kernel_rfl) (show ((↑es.length : Int) - (i_0 + (1 : Int))).toNat < ((↑es.length : Int) - i_0).toNat from (by omega)) (show invP (fun e ↦ hasP p e.dot == true) es (i_0 + (1 : Int)) (l_1 ++ [es[i_0.toNat]!]) from ?g1); rotate_left 1
  refine st_skip (by kernel_rfl) ?_
  refine q_blk_normal ?_
  refine sn ?_
  refine rg (A := (AV.i IntKind.i64 (IntKind.i64.wrap (i_0 + (1 : Int))) = AV.i IntKind.i64 (i_0 + (1 : Int)))) cx [(0, { tell := some (.i .i64 (i_0 + (1 : Int))) })] [1, 5, 8, 9, 10] [1005] (told_i64 (by omega) (by omega)) ?_
  refine sn ?_
  refine loop_next ((i_0 + (1 : Int), l_1)) (by kernel_rfl) (show ((↑es.length : Int) - (i_0 + (1 : Int))).toNat < ((↑es.length : Int) - i_0).toNat from (by omega)) (show invP (fun e ↦ hasP p e.dot == true) es (i_0 + (1 : Int)) l_1 from ?g2); rotate_left 1
  refine st_exit 0 (by kernel_rfl) ?_
  refine q_seq_exit ?_
  refine q_seq_exit ?_
  refine q_blk_hit ?_
  refine sn ?_
  refine sq ?_
  refine rg (A := True) cx [] [4] [1005] trivial ?_
  refine sn ?_
  refine st_ret (by kernel_rfl) ?_
  refine q_ret (r := .sl (List.map c28 l_1)) (obl := []) (by kernel_rfl) trivial (AVle.eq (show AV.sl (List.map c28 l_1) = AV.sl (List.map c28 (List.filter (fun e ↦ hasP p e.dot == true) es)) from ?g3)); rotate_left 1
  rotate_left
  revert i_0 l_1 h_3 h_4 h_5 h_6 h_7 h_8; rotate_left
  revert i_0 l_1 h_3 h_4 h_5 h_6 h_7 h_8; rotate_left
  revert i_0 l_1 h_3 h_4 h_5 h_6 h_7; rotate_left
  case g0 => exact (invP_init _ _)
  case g1 => exact (fun i l h0 h1 h2 h3 h4 h5 => invP_add h0 h2 h3 h4 h5)
  case g2 => exact (fun i l h0 h1 h2 h3 h4 h5 => invP_skip h0 h2 h3 h4 (by simpa using h5))
  case g3 => exact (fun i l h0 h1 h2 h3 h4 => by rw [invP_done h2 h4])
theorem con51_4 (es : List Entry) (p : Past) (hs : es.length * 40 ≤ 140737488351232) : Con Try.prog 51 [.sl (es.map c28), .fn (.func 69) [] [.eptr (c36 p)]] (.sl ((es.filter (fun e => hasP p e.dot == false)).map c28)) :=
  by
  refine con_lens 0 (c28) (es) (by kernel_rfl) Go.Proofs.Try.func51 (by kernel_rfl) fun hl_0 => ?_
  refine st_con tab_ok (by kernel_rfl) [.tmp 4] 23 Go.Proofs.Try.func51 (by kernel_rfl) (by kernel_rfl) ?_
  intro e0 cx
  refine sq ?_
  refine rg (A := True) cx [] [0, 1] [] trivial ?_
  refine sn ?_
  refine sq ?_
  refine rg (A := True) cx [] [0, 1, 5] [] trivial ?_
  refine sn ?_
  refine sq ?_
  refine sq ?_
  refine rg (A := _) cx [(1, { tell := some (.i .i64 ((↑es.length : Int))) })] [1, 5, 8, 9, 10] [] (told_len c28 es) ?_
  refine sn ?_
  refine st_block 0 (by kernel_rfl) ?_
  refine awp_adopt 5 1005 28 4 (σ' := ⟨[(1, .fn (Fn.func (69 : FuncId)) [] [.eptr [.sl (List.map c3 p.vec), .sl (List.map c81 p.cloud)]]), (5, .own 1005 0), (8, .sl (List.map c28 es)), (9, .i .i64 ((↑es.length : Int))), (10, .i .i64 ((0 : Int)))], [(1005, ⟨0, 28, .row 4 (List.map c28 [])⟩)]⟩) (by kernel_rfl) ?_
  refine st_loop (X := Int × List Entry) (fun x => ⟨[(1, .fn (Fn.func (69 : FuncId)) [] [.eptr [.sl (List.map c3 p.vec), .sl (List.map c81 p.cloud)]]), (5, .own 1005 0), (8, .sl (List.map c28 es)), (9, .i .i64 ((↑es.length : Int))), (10, .i .i64 (x.fst))], [(1005, ⟨0, 28, .row 4 (List.map c28 x.snd)⟩)]⟩) (fun x ↦ decP es x.fst x.snd) (fun x ↦ invP (fun e ↦ hasP p e.dot == false) es x.fst x.snd) [1, 5, 8, 9, 10] [1005] (((0 : Int), [])) (by kernel_rfl) (by kernel_rfl) (show invP (fun e ↦ hasP p e.dot == false) es (0 : Int) [] from ?g0) ?_; rotate_left 1
  rintro ⟨i_0, l_1⟩ h_2
  obtain ⟨h_3, h_4, h_5, h_6⟩ : (0 : Int) ≤ i_0 ∧ i_0 ≤ (↑es.length : Int) ∧ l_1 = List.filter (fun e ↦ hasP p e.dot == false) (List.take i_0.toNat es) ∧ (↑l_1.length : Int) ≤ i_0 := h_2
  refine sq ?_
  refine rg (A := (AV.b (decide (i_0 < (↑es.length : Int))) = AV.b (decide (i_0 < (↑es.length : Int))))) cx [(0, { tell := some (.b (decide (i_0 < (↑es.length : Int)))) })] [1, 5, 8, 9, 10, 11] [1005] (by kernel_rfl) ?_
  refine sn ?_
  refine sq ?_
  refine st_dec (i_0 < (↑es.length : Int)) (by kernel_rfl) (by kernel_rfl) (fun h_7 => ?_) (fun h_7 => ?_)
  refine st_skip (by kernel_rfl) ?_
  refine sn ?_
  refine sq ?_
  refine st_block 1 (by kernel_rfl) ?_
  refine sq ?_
  refine rg (A := ((0 : Int) ≤ i_0) ∧ ((List.map c28 es)[i_0.toNat]? = some (c28 es[i_0.toNat]!)) ∧ ((c28 es[i_0.toNat]!).length = (4 : Nat)) ∧ ((4 : Nat) ≤ [AV.i IntKind.i64 es[i_0.toNat]!.dot.rep, AV.i IntKind.i64 es[i_0.toNat]!.dot.num, AV.s es[i_0.toNat]!.sku, AV.i IntKind.i64 es[i_0.toNat]!.qty].length)) cx [(0, { row := (c28 es[i_0.toNat]!) })] [1, 5, 8, 9, 10, 7] [1005, 7] ⟨(by (with_reducible assumption)), (by (with_reducible refine get_map ?_; omega)), (by kernel_rfl), (by (simp only [List.length_append, List.length_cons, List.length_nil]; omega))⟩ ?_
  refine sn ?_
  refine sq ?_
  refine rg (A := _) cx [(2, { val := some (resC (con69 (es[i_0.toNat]!) (p))) })] [1, 5, 8, 9, 10, 7, 16] [1005, 7] (con69 (es[i_0.toNat]!) (p)) ?_
  refine sn ?_
  refine st_cond (hasP p es[i_0.toNat]!.dot == false) (by kernel_rfl) (by kernel_rfl) (fun h_8 => ?_) (fun h_8 => ?_)
  refine rg (A := (28 = (28 : Nat)) ∧ ((4 : Nat) = 4) ∧ ([AV.i IntKind.i64 (0 : Int), AV.i IntKind.i64 (0 : Int), AV.s { data := #[] : ByteArray }, AV.i IntKind.i64 (0 : Int)].length = (4 : Nat)) ∧ (∀ (r : List AV), r ∈ List.map c28 [es[i_0.toNat]!] → r.length = 4) ∧ ((List.map c28 l_1).length + (List.map c28 [es[i_0.toNat]!]).length ≤ maxLen) ∧ (((List.map c28 l_1).length + (List.map c28 [es[i_0.toNat]!]).length) * (40 : Nat) ≤ (140737488355328 : Nat)) ∧ (List.map c28 l_1 ++ List.map c28 [es[i_0.toNat]!] = List.map c28 (l_1 ++ [es[i_0.toNat]!]))) cx [(3, { rows := some (List.map c28 (l_1 ++ [es[i_0.toNat]!])) })] [1, 5, 8, 9, 10] [1005] ⟨(by kernel_rfl), (by kernel_rfl), (by kernel_rfl), (by (with_reducible refine len_map (fun _ => ?_) _; kernel_rfl)), (by (simp only [Go.maxLen, List.length_map, List.length_append, List.length_cons, List.length_nil]; omega)), (by (simp only [Go.maxLen, List.length_map, List.length_append, List.length_cons, List.length_nil]; omega)), (by (with_reducible refine app_map ?_; kernel_rfl))⟩ ?_
  refine q_blk_normal ?_
  refine sn ?_
  refine rg (A := (AV.i IntKind.i64 (IntKind.i64.wrap (i_0 + (1 : Int))) = AV.i IntKind.i64 (i_0 + (1 : Int)))) cx [(0, { tell := some (.i .i64 (i_0 + (1 : Int))) })] [1, 5, 8, 9, 10] [1005] (told_i64 (by omega) (by omega)) ?_
  refine sn ?_
  refine loop_next ((i_0 + (1 : Int), l_1 ++ [es[i_0.toNat]!])) (by kernel_rfl) (show ((↑es.length : Int) - (i_0 + (1 : Int))).toNat < ((↑es.length : Int) - i_0).toNat from (by omega)) (show invP (fun e ↦ hasP p e.dot == false) es (i_0 + (1 : Int)) (l_1 ++ [es[i_0.toNat]!]) from ?g1); rotate_left 1
  refine st_skip (by kernel_rfl) ?_
  refine q_blk_normal ?_
  refine sn ?_
  refine rg (A := (AV.i IntKind.i64 (IntKind.i64.wrap (i_0 + (1 : Int))) = AV.i IntKind.i64 (i_0 + (1 : Int)))) cx [(0, { tell := some (.i .i64 (i_0 + (1 : Int))) })] [1, 5, 8, 9, 10] [1005] (told_i64 (by omega) (by omega)) ?_
  refine sn ?_
  refine loop_next ((i_0 + (1 : Int), l_1)) (by kernel_rfl) (show ((↑es.length : Int) - (i_0 + (1 : Int))).toNat < ((↑es.length : Int) - i_0).toNat from (by omega)) (show invP (fun e ↦ hasP p e.dot == false) es (i_0 + (1 : Int)) l_1 from ?g2); rotate_left 1
  refine st_exit 0 (by kernel_rfl) ?_
  refine q_seq_exit ?_
  refine q_seq_exit ?_
  refine q_blk_hit ?_
  refine sn ?_
  refine sq ?_
  refine rg (A := True) cx [] [4] [1005] trivial ?_
  refine sn ?_
  refine st_ret (by kernel_rfl) ?_
  refine q_ret (r := .sl (List.map c28 l_1)) (obl := []) (by kernel_rfl) trivial (AVle.eq (show AV.sl (List.map c28 l_1) = AV.sl (List.map c28 (List.filter (fun e ↦ hasP p e.dot == false) es)) from ?g3)); rotate_left 1
  rotate_left
  revert i_0 l_1 h_3 h_4 h_5 h_6 h_7 h_8; rotate_left
  revert i_0 l_1 h_3 h_4 h_5 h_6 h_7 h_8; rotate_left
  revert i_0 l_1 h_3 h_4 h_5 h_6 h_7; rotate_left
  case g0 => exact (invP_init _ _)
  case g1 => exact (fun i l h0 h1 h2 h3 h4 h5 => invP_add h0 h2 h3 h4 h5)
  case g2 => exact (fun i l h0 h1 h2 h3 h4 h5 => invP_skip h0 h2 h3 h4 (by simpa using h5))
  case g3 => exact (fun i l h0 h1 h2 h3 h4 => by rw [invP_done h2 h4])
theorem con45 (es : List Entry) (p : Past) (hb : p.cloud.length * 16 ≤ 140737488350000) : Con Try.prog 45 [.sl (es.map c28), .agg (c36 p)] (.tup [.sl ((sideV es p true).1.map c28), .i .i64 (sideV es p true).2]) :=
  by
  refine con_lens 0 (c28) (es) (by kernel_rfl) Go.Proofs.Try.func45 (by kernel_rfl) fun hl_0 => ?_
  refine st_con tab_ok (by kernel_rfl) [.tmp 4, .tmp 5] 17 Go.Proofs.Try.func45 (by kernel_rfl) (by kernel_rfl) ?_
  intro e0 cx
  refine sq ?_
  refine rg (A := True) cx [] [0, 3] [3] trivial ?_
  refine sn ?_
  refine sq ?_
  refine sq ?_
  refine st_join (σ' := ⟨[(0, .sl (List.map c28 es)), (3, .ptr (3) (0) (0) (0)), (13, .b (decide (¬lstE es = (0 : Int) ∨ ¬p = normP p)))], [(3, ⟨0, 36, .var [.sl (List.map c3 p.vec), .sl (List.map c81 p.cloud)]⟩)]⟩) ?_ ?_
  refine st_split (¬lstE es = (0 : Int)) (fun h_1 => ?_) (fun h_1 => ?_)
  refine rg (A := _ ∧ (AV.b (lstE es != (0 : Int)) = AV.b true) ∧ (AV.b true = AV.b (decide (¬lstE es = (0 : Int) ∨ ¬p = normP p)))) cx [(1, { val := some (.i .i64 (lstE es)) }), (2, { tell := some (.b (true)) }), (7, { tell := some (.b (decide (¬lstE es = (0 : Int) ∨ ¬p = normP p))) })] [0, 3, 13] [3] ⟨(con16 (es)), (told_neqt h_1), (by simp only [eq_false h_1, told_simp1, told_simp2, and_true, true_and, and_false, false_and, or_true, true_or, or_false, false_or, not_true_eq_false, not_false_eq_true, decide_true, decide_false, Bool.decide_eq_true])⟩ ?_
  exact ⟨rfl, by kernel_rfl⟩
  refine rg (A := _ ∧ (AV.b (lstE es != (0 : Int)) = AV.b (decide ¬lstE es = (0 : Int))) ∧ _ ∧ _ ∧ ((AV.b !decide (p = normP p)) = AV.b (decide ¬p = normP p)) ∧ (AV.b (decide ¬p = normP p) = AV.b (decide (¬lstE es = (0 : Int) ∨ ¬p = normP p)))) cx [(1, { val := some (.i .i64 (lstE es)) }), (2, { tell := some (.b (decide ¬lstE es = (0 : Int))) }), (3, { tell := some (.b (false)) }), (5, { val := some (.b (decide (p = normP p))) }), (6, { tell := some (.b (decide ¬p = normP p)) }), (7, { tell := some (.b (decide (¬lstE es = (0 : Int) ∨ ¬p = normP p))) })] [0, 3, 13] [3] ⟨(con16 (es)), (told_neq), (told_false h_1), (con66 (p) (by (with_reducible assumption))), (told_notd), (by simp only [eq_false h_1, told_simp1, told_simp2, and_true, true_and, and_false, false_and, or_true, true_or, or_false, false_or, not_true_eq_false, not_false_eq_true, decide_true, decide_false, Bool.decide_eq_true])⟩ ?_
  exact ⟨rfl, by kernel_rfl⟩
  refine sn ?_
  refine st_dec (¬lstE es = (0 : Int) ∨ ¬p = normP p) (by kernel_rfl) (by kernel_rfl) (fun h_2 => ?_) (fun h_2 => ?_)
  refine sq ?_
  refine rg (A := True) cx [] [4, 5] [] trivial ?_
  refine sn ?_
  refine st_ret (by kernel_rfl) ?_
  refine q_seq_ret ?_
  refine q_ret (r := .tup [.nl, .i .i64 ((1 : Int))]) (obl := []) (by kernel_rfl) trivial (AVle.tup (ZLe.cons (AVle.nl' (show List.map c28 (sideV es p true).fst = [] from ?g1)) (ZLe.cons (AVle.eq (show AV.i IntKind.i64 (1 : Int) = AV.i IntKind.i64 (sideV es p true).snd from ?g0)) ZLe.nil))); rotate_left 2
  refine st_skip (by kernel_rfl) ?_
  refine sn ?_
  refine sq ?_
  refine rg (A := _) cx [(2, { val := some (.sl (List.map c28 (List.filter (fun e ↦ hasP p e.dot == true) es))) })] [4, 5] [] (con51_3 (es) (p) ?g2) ?_; rotate_left 1
  refine sn ?_
  refine st_ret (by kernel_rfl) ?_
  refine q_ret (r := .tup [.sl (List.map c28 (List.filter (fun e ↦ hasP p e.dot == true) es)), .i .i64 ((0 : Int))]) (obl := []) (by kernel_rfl) trivial (AVle.tup (ZLe.cons (AVle.eq (show AV.sl (List.map c28 (List.filter (fun e ↦ hasP p e.dot == true) es)) = AV.sl (List.map c28 (sideV es p true).fst) from ?g4)) (ZLe.cons (AVle.eq (show AV.i IntKind.i64 (0 : Int) = AV.i IntKind.i64 (sideV es p true).snd from ?g3)) ZLe.nil))); rotate_left 2
  revert h_2; rotate_left
  revert h_2; rotate_left
  revert h_2; rotate_left
  revert h_2; rotate_left
  revert h_2; rotate_left
  case g0 => exact (fun h => by rw [sideV_no h])
  case g1 => exact (fun h => by rw [sideV_no h]; rfl)
  case g2 => exact (fun h => by have := okL_len (lst_ok (ok_both h).1); omega)
  case g3 => exact (fun h => by rw [sideV_ok (ok_both h).1 (ok_both h).2])
  case g4 => exact (fun h => by rw [sideV_ok (ok_both h).1 (ok_both h).2])
theorem con46 (es : List Entry) (p : Past) (hb : p.cloud.length * 16 ≤ 140737488350000) : Con Try.prog 46 [.sl (es.map c28), .agg (c36 p)] (.tup [.sl ((sideV es p false).1.map c28), .i .i64 (sideV es p false).2]) :=
  by
  refine con_lens 0 (c28) (es) (by kernel_rfl) Go.Proofs.Try.func46 (by kernel_rfl) fun hl_0 => ?_
  refine st_con tab_ok (by kernel_rfl) [.tmp 4, .tmp 5] 17 Go.Proofs.Try.func46 (by kernel_rfl) (by kernel_rfl) ?_
  intro e0 cx
  refine sq ?_
  refine rg (A := True) cx [] [0, 3] [3] trivial ?_
  refine sn ?_
  refine sq ?_
  refine sq ?_
  refine st_join (σ' := ⟨[(0, .sl (List.map c28 es)), (3, .ptr (3) (0) (0) (0)), (13, .b (decide (¬lstE es = (0 : Int) ∨ ¬p = normP p)))], [(3, ⟨0, 36, .var [.sl (List.map c3 p.vec), .sl (List.map c81 p.cloud)]⟩)]⟩) ?_ ?_
  refine st_split (¬lstE es = (0 : Int)) (fun h_1 => ?_) (fun h_1 => ?_)
  refine rg (A := _ ∧ (AV.b (lstE es != (0 : Int)) = AV.b true) ∧ (AV.b true = AV.b (decide (¬lstE es = (0 : Int) ∨ ¬p = normP p)))) cx [(1, { val := some (.i .i64 (lstE es)) }), (2, { tell := some (.b (true)) }), (7, { tell := some (.b (decide (¬lstE es = (0 : Int) ∨ ¬p = normP p))) })] [0, 3, 13] [3] ⟨(con16 (es)), (told_neqt h_1), (by simp only [eq_false h_1, told_simp1, told_simp2, and_true, true_and, and_false, false_and, or_true, true_or, or_false, false_or, not_true_eq_false, not_false_eq_true, decide_true, decide_false, Bool.decide_eq_true])⟩ ?_
  exact ⟨rfl, by kernel_rfl⟩
  refine rg (A := _ ∧ (AV.b (lstE es != (0 : Int)) = AV.b (decide ¬lstE es = (0 : Int))) ∧ _ ∧ _ ∧ ((AV.b !decide (p = normP p)) = AV.b (decide ¬p = normP p)) ∧ (AV.b (decide ¬p = normP p) = AV.b (decide (¬lstE es = (0 : Int) ∨ ¬p = normP p)))) cx [(1, { val := some (.i .i64 (lstE es)) }), (2, { tell := some (.b (decide ¬lstE es = (0 : Int))) }), (3, { tell := some (.b (false)) }), (5, { val := some (.b (decide (p = normP p))) }), (6, { tell := some (.b (decide ¬p = normP p)) }), (7, { tell := some (.b (decide (¬lstE es = (0 : Int) ∨ ¬p = normP p))) })] [0, 3, 13] [3] ⟨(con16 (es)), (told_neq), (told_false h_1), (con66 (p) (by (with_reducible assumption))), (told_notd), (by simp only [eq_false h_1, told_simp1, told_simp2, and_true, true_and, and_false, false_and, or_true, true_or, or_false, false_or, not_true_eq_false, not_false_eq_true, decide_true, decide_false, Bool.decide_eq_true])⟩ ?_
  exact ⟨rfl, by kernel_rfl⟩
  refine sn ?_
  refine st_dec (¬lstE es = (0 : Int) ∨ ¬p = normP p) (by kernel_rfl) (by kernel_rfl) (fun h_2 => ?_) (fun h_2 => ?_)
  refine sq ?_
  refine rg (A := True) cx [] [4, 5] [] trivial ?_
  refine sn ?_
  refine st_ret (by kernel_rfl) ?_
  refine q_seq_ret ?_
  refine q_ret (r := .tup [.nl, .i .i64 ((1 : Int))]) (obl := []) (by kernel_rfl) trivial (AVle.tup (ZLe.cons (AVle.nl' (show List.map c28 (sideV es p false).fst = [] from ?g1)) (ZLe.cons (AVle.eq (show AV.i IntKind.i64 (1 : Int) = AV.i IntKind.i64 (sideV es p false).snd from ?g0)) ZLe.nil))); rotate_left 2
  refine st_skip (by kernel_rfl) ?_
  refine sn ?_
  refine sq ?_
  refine rg (A := _) cx [(2, { val := some (.sl (List.map c28 (List.filter (fun e ↦ hasP p e.dot == false) es))) })] [4, 5] [] (con51_4 (es) (p) ?g2) ?_; rotate_left 1
  refine sn ?_
  refine st_ret (by kernel_rfl) ?_
  refine q_ret (r := .tup [.sl (List.map c28 (List.filter (fun e ↦ hasP p e.dot == false) es)), .i .i64 ((0 : Int))]) (obl := []) (by kernel_rfl) trivial (AVle.tup (ZLe.cons (AVle.eq (show AV.sl (List.map c28 (List.filter (fun e ↦ hasP p e.dot == false) es)) = AV.sl (List.map c28 (sideV es p false).fst) from ?g4)) (ZLe.cons (AVle.eq (show AV.i IntKind.i64 (0 : Int) = AV.i IntKind.i64 (sideV es p false).snd from ?g3)) ZLe.nil))); rotate_left 2
  revert h_2; rotate_left
  revert h_2; rotate_left
  revert h_2; rotate_left
  revert h_2; rotate_left
  revert h_2; rotate_left
  case g0 => exact (fun h => by rw [sideV_no h])
  case g1 => exact (fun h => by rw [sideV_no h]; rfl)
  case g2 => exact (fun h => by have := okL_len (lst_ok (ok_both h).1); omega)
  case g3 => exact (fun h => by rw [sideV_ok (ok_both h).1 (ok_both h).2])
  case g4 => exact (fun h => by rw [sideV_ok (ok_both h).1 (ok_both h).2])
end Go.Proofs.Ytjngmlkaijpbgaa
namespace Go.Proofs.Ytjngmlkaijpbgaa
open Go.E
set_option maxRecDepth 100000
set_option maxHeartbeats 4000000
def invHas (p : Past) (d : Dot) (i : Int) (v : List Int) (c : List Span) (r n : Int) : Prop := v = p.vec ∧ c = p.cloud ∧ r = d.rep ∧ n = d.num ∧ 0 ≤ i ∧ i ≤ p.cloud.length ∧ ∀ j : Nat, (j : Int) < i → hasS p.cloud[j]! d = false
def decHas (p : Past) (i : Int) (v : List Int) (c : List Span) (r n : Int) : Nat := (p.cloud.length - i).toNat
def invSV (a b : Past) (i : Int) (v : List Int) (c : List Span) (w : List Int) (e : List Span) : Prop := v = a.vec ∧ c = a.cloud ∧ w = b.vec ∧ e = b.cloud ∧ 0 ≤ i ∧ i ≤ a.vec.length ∧ ∀ j : Nat, (j : Int) < i → a.vec[j]! = b.vec[j]!
def decSV (a : Past) (i : Int) (v : List Int) (c : List Span) (w : List Int) (e : List Span) : Nat := (a.vec.length - i).toNat
def invSC (a b : Past) (i : Int) (v : List Int) (c : List Span) (w : List Int) (e : List Span) : Prop := v = a.vec ∧ c = a.cloud ∧ w = b.vec ∧ e = b.cloud ∧ 0 ≤ i ∧ i ≤ a.cloud.length ∧ ∀ j : Nat, (j : Int) < i → a.cloud[j]! = b.cloud[j]!
def decSC (a : Past) (i : Int) (v : List Int) (c : List Span) (w : List Int) (e : List Span) : Nat := (a.cloud.length - i).toNat
theorem con63 (d : Dot) : Con Try.prog 63 [.agg (c26 d)] (.b (dotB d)) :=
  by
  refine st_con tab_ok (by kernel_rfl) [.tmp 2] 21 Go.Proofs.Try.func63 (by kernel_rfl) (by kernel_rfl) ?_
  intro e0 cx
  refine sq ?_
  refine rg (A := True) cx [] [1] [1] trivial ?_
  refine sn ?_
  refine sq ?_
  refine st_join (σ' := ⟨[(2, .b (decide ((0 : Int) ≤ d.rep ∧ d.rep < (16 : Int) ∧ (1 : Int) ≤ d.num ∧ d.num ≤ (1000000000 : Int))))], []⟩) ?_ ?_
  refine st_split ((0 : Int) ≤ d.rep) (fun h_1 => ?_) (fun h_1 => ?_)
  refine st_split (d.rep < (16 : Int)) (fun h_2 => ?_) (fun h_2 => ?_)
  refine st_split ((1 : Int) ≤ d.num) (fun h_3 => ?_) (fun h_3 => ?_)
  refine rg (A := _ ∧ _ ∧ _ ∧ (AV.b (decide (d.num ≤ (1000000000 : Int))) = AV.b (decide (d.num ≤ (1000000000 : Int)))) ∧ (AV.b (decide (d.num ≤ (1000000000 : Int))) = AV.b (decide ((0 : Int) ≤ d.rep ∧ d.rep < (16 : Int) ∧ (1 : Int) ≤ d.num ∧ d.num ≤ (1000000000 : Int))))) cx [(2, { tell := some (.b (true)) }), (6, { tell := some (.b (true)) }), (11, { tell := some (.b (true)) }), (16, { tell := some (.b (decide (d.num ≤ (1000000000 : Int)))) }), (18, { tell := some (.b (decide ((0 : Int) ≤ d.rep ∧ d.rep < (16 : Int) ∧ (1 : Int) ≤ d.num ∧ d.num ≤ (1000000000 : Int)))) })] [2] [] ⟨(told_true h_1), (told_true h_2), (told_true h_3), (by kernel_rfl), (by simp only [eq_true h_1, eq_true h_2, eq_true h_3, told_simp1, told_simp2, and_true, true_and, and_false, false_and, or_true, true_or, or_false, false_or, not_true_eq_false, not_false_eq_true, decide_true, decide_false, Bool.decide_eq_true])⟩ ?_
  exact ⟨rfl, by kernel_rfl⟩
  refine rg (A := _ ∧ _ ∧ _ ∧ (AV.b false = AV.b (decide ((0 : Int) ≤ d.rep ∧ d.rep < (16 : Int) ∧ (1 : Int) ≤ d.num ∧ d.num ≤ (1000000000 : Int))))) cx [(2, { tell := some (.b (true)) }), (6, { tell := some (.b (true)) }), (11, { tell := some (.b (false)) }), (18, { tell := some (.b (decide ((0 : Int) ≤ d.rep ∧ d.rep < (16 : Int) ∧ (1 : Int) ≤ d.num ∧ d.num ≤ (1000000000 : Int)))) })] [2] [] ⟨(told_true h_1), (told_true h_2), (told_false h_3), (by simp only [eq_true h_1, eq_true h_2, eq_false h_3, told_simp1, told_simp2, and_true, true_and, and_false, false_and, or_true, true_or, or_false, false_or, not_true_eq_false, not_false_eq_true, decide_true, decide_false, Bool.decide_eq_true])⟩ ?_
  exact ⟨rfl, by kernel_rfl⟩
  refine rg (A := _ ∧ _ ∧ (AV.b false = AV.b (decide ((0 : Int) ≤ d.rep ∧ d.rep < (16 : Int) ∧ (1 : Int) ≤ d.num ∧ d.num ≤ (1000000000 : Int))))) cx [(2, { tell := some (.b (true)) }), (6, { tell := some (.b (false)) }), (18, { tell := some (.b (decide ((0 : Int) ≤ d.rep ∧ d.rep < (16 : Int) ∧ (1 : Int) ≤ d.num ∧ d.num ≤ (1000000000 : Int)))) })] [2] [] ⟨(told_true h_1), (told_false h_2), (by simp only [eq_true h_1, eq_false h_2, told_simp1, told_simp2, and_true, true_and, and_false, false_and, or_true, true_or, or_false, false_or, not_true_eq_false, not_false_eq_true, decide_true, decide_false, Bool.decide_eq_true])⟩ ?_
  exact ⟨rfl, by kernel_rfl⟩
  refine rg (A := _ ∧ (AV.b false = AV.b (decide ((0 : Int) ≤ d.rep ∧ d.rep < (16 : Int) ∧ (1 : Int) ≤ d.num ∧ d.num ≤ (1000000000 : Int))))) cx [(2, { tell := some (.b (false)) }), (18, { tell := some (.b (decide ((0 : Int) ≤ d.rep ∧ d.rep < (16 : Int) ∧ (1 : Int) ≤ d.num ∧ d.num ≤ (1000000000 : Int)))) })] [2] [] ⟨(told_false h_1), (by simp only [eq_false h_1, told_simp1, told_simp2, and_true, true_and, and_false, false_and, or_true, true_or, or_false, false_or, not_true_eq_false, not_false_eq_true, decide_true, decide_false, Bool.decide_eq_true])⟩ ?_
  exact ⟨rfl, by kernel_rfl⟩
  refine sn ?_
  refine st_ret (by kernel_rfl) ?_
  refine q_ret (r := .b (decide ((0 : Int) ≤ d.rep ∧ d.rep < (16 : Int) ∧ (1 : Int) ≤ d.num ∧ d.num ≤ (1000000000 : Int)))) (obl := []) (by kernel_rfl) trivial (AVle.eq (show AV.b (decide ((0 : Int) ≤ d.rep ∧ d.rep < (16 : Int) ∧ (1 : Int) ≤ d.num ∧ d.num ≤ (1000000000 : Int))) = AV.b (dotB d) from ?g0)); rotate_left 1
  case g0 => exact rfl
theorem con40 (p : Past) (d : Dot) (hl : p.cloud.length ≤ 9223372036854775807) : Con Try.prog 40 [.agg (c36 p), .agg (c26 d)] (.b (hasP p d)) :=
  by
  refine st_con tab_ok (by kernel_rfl) [.tmp 4] 58 Go.Proofs.Try.func40 (by kernel_rfl) (by kernel_rfl) ?_
  intro e0 cx
  refine sq ?_
  refine rg (A := True) cx [] [2, 3] [2, 3] trivial ?_
  refine sn ?_
  refine sq ?_
  refine sq ?_
  refine rg (A := _ ∧ ((AV.b !dotB d) = AV.b (decide ¬dotB d = true))) cx [(1, { val := some (.b (dotB d)) }), (2, { tell := some (.b (decide ¬dotB d = true)) })] [2, 3, 9] [2, 3] ⟨(con63 (d)), (told_not)⟩ ?_
  refine sn ?_
  refine st_dec (¬dotB d = true) (by kernel_rfl) (by kernel_rfl) (fun h_0 => ?_) (fun h_0 => ?_)
  refine sq ?_
  refine rg (A := True) cx [] [4] [] trivial ?_
  refine sn ?_
  refine st_ret (by kernel_rfl) ?_
  refine q_seq_ret ?_
  refine q_ret (r := .b (false)) (obl := []) (by kernel_rfl) trivial (AVle.eq (show AV.b false = AV.b (hasP p d) from ?g0)); rotate_left 1
  refine st_skip (by kernel_rfl) ?_
  refine sn ?_
  refine sq ?_
  refine sq ?_
  refine st_join (σ' := ⟨[(2, .ptr (2) (0) (0) (0)), (3, .ptr (3) (0) (0) (0)), (26, .b (decide (d.rep < (↑p.vec.length : Int) ∧ d.num ≤ p.vec[d.rep.toNat]!)))], [(2, ⟨0, 36, .var [.sl (List.map c3 p.vec), .sl (List.map c81 p.cloud)]⟩), (3, ⟨0, 26, .var [.i .i64 (d.rep), .i .i64 (d.num)]⟩)]⟩) ?_ ?_
  refine st_split (d.rep < (↑p.vec.length : Int)) (fun h_2 => ?_) (fun h_2 => ?_)
  refine ra (A := _ ∧ _ ∧ ((0 : Int) ≤ d.rep) ∧ ((List.map c3 p.vec)[d.rep.toNat]? = some (c3 p.vec[d.rep.toNat]!)) ∧ ((c3 p.vec[d.rep.toNat]!).length = (1 : Nat)) ∧ (AV.b (decide (d.num ≤ p.vec[d.rep.toNat]!)) = AV.b (decide (d.num ≤ p.vec[d.rep.toNat]!))) ∧ (AV.b (decide (d.num ≤ p.vec[d.rep.toNat]!)) = AV.b (decide (d.rep < (↑p.vec.length : Int) ∧ d.num ≤ p.vec[d.rep.toNat]!)))) cx [(4, { tell := some (.i .i64 ((↑p.vec.length : Int))) }), (5, { tell := some (.b (true)) }), (13, { row := (c3 p.vec[d.rep.toNat]!) }), (15, { tell := some (.b (decide (d.num ≤ p.vec[d.rep.toNat]!))) }), (16, { tell := some (.b (decide (d.rep < (↑p.vec.length : Int) ∧ d.num ≤ p.vec[d.rep.toNat]!))) })] [2, 3, 26] [2, 3] ⟨(told_len c3 p.vec), (told_true h_2), ?g1, ?g2, (by kernel_rfl), (by kernel_rfl), (by simp only [eq_true h_2, told_simp1, told_simp2, and_true, true_and, and_false, false_and, or_true, true_or, or_false, false_or, not_true_eq_false, not_false_eq_true, decide_true, decide_false, Bool.decide_eq_true])⟩ ?_; rotate_left 2
  exact ⟨rfl, by kernel_rfl⟩
  refine ra (A := _ ∧ _ ∧ (AV.b false = AV.b (decide (d.rep < (↑p.vec.length : Int) ∧ d.num ≤ p.vec[d.rep.toNat]!)))) cx [(4, { tell := some (.i .i64 ((↑p.vec.length : Int))) }), (5, { tell := some (.b (false)) }), (16, { tell := some (.b (decide (d.rep < (↑p.vec.length : Int) ∧ d.num ≤ p.vec[d.rep.toNat]!))) })] [2, 3, 26] [2, 3] ⟨(told_len c3 p.vec), (told_false h_2), (by simp only [eq_false h_2, told_simp1, told_simp2, and_true, true_and, and_false, false_and, or_true, true_or, or_false, false_or, not_true_eq_false, not_false_eq_true, decide_true, decide_false, Bool.decide_eq_true])⟩ ?_
  exact ⟨rfl, by kernel_rfl⟩
  refine sn ?_
  refine st_dec (d.rep < (↑p.vec.length : Int) ∧ d.num ≤ p.vec[d.rep.toNat]!) (by kernel_rfl) (by kernel_rfl) (fun h_3 => ?_) (fun h_3 => ?_)
  refine sq ?_
  refine rg (A := True) cx [] [4] [] trivial ?_
  refine sn ?_
  refine st_ret (by kernel_rfl) ?_
  refine q_seq_ret ?_
  refine q_ret (r := .b (true)) (obl := []) (by kernel_rfl) trivial (AVle.eq (show AV.b true = AV.b (hasP p d) from ?g3)); rotate_left 1
  refine st_skip (by kernel_rfl) ?_
  refine sn ?_
  refine sq ?_
  refine sq ?_
  refine rg (A := True) cx [] [2, 3, 5] [2, 3] trivial ?_
  refine sn ?_
  refine st_block 0 (by kernel_rfl) ?_
  refine st_loop (X := Int × List Int × List Span × Int × Int) (fun x => ⟨[(2, .ptr (2) (0) (0) (0)), (3, .ptr (3) (0) (0) (0)), (5, .i .i64 (x.fst))], [(2, ⟨0, 36, .var [.sl (List.map c3 x.snd.fst), .sl (List.map c81 x.snd.snd.fst)]⟩), (3, ⟨0, 26, .var [.i .i64 (x.snd.snd.snd.fst), .i .i64 (x.snd.snd.snd.snd)]⟩)]⟩) (fun x ↦ decHas p x.fst x.snd.fst x.snd.snd.fst x.snd.snd.snd.fst x.snd.snd.snd.snd) (fun x ↦ invHas p d x.fst x.snd.fst x.snd.snd.fst x.snd.snd.snd.fst x.snd.snd.snd.snd) [2, 3, 5] [2, 3] (((0 : Int), p.vec, p.cloud, d.rep, d.num)) (by kernel_rfl) (by kernel_rfl) (show invHas p d (0 : Int) p.vec p.cloud d.rep d.num from ?g4) ?_; rotate_left 1
  rintro ⟨i_4, v_5, c_6, r_7, n_8⟩ h_9
  obtain ⟨h_10, h_11, h_12, h_13, h_14, h_15, h_16⟩ : v_5 = p.vec ∧ c_6 = p.cloud ∧ r_7 = d.rep ∧ n_8 = d.num ∧ (0 : Int) ≤ i_4 ∧ i_4 ≤ (↑p.cloud.length : Int) ∧ ∀ (j : Nat), (↑j : Int) < i_4 → hasS p.cloud[j]! d = false := h_9
  refine sq ?_
  refine sq ?_
  refine rg (A := _ ∧ (AV.b (decide (i_4 < (↑c_6.length : Int))) = AV.b (decide (i_4 < (↑c_6.length : Int))))) cx [(3, { tell := some (.i .i64 ((↑c_6.length : Int))) }), (4, { tell := some (.b (decide (i_4 < (↑c_6.length : Int)))) })] [2, 3, 5, 31] [2, 3] ⟨(told_len c81 c_6), (by kernel_rfl)⟩ ?_
  refine sn ?_
  refine st_dec (i_4 < (↑c_6.length : Int)) (by kernel_rfl) (by kernel_rfl) (fun h_17 => ?_) (fun h_17 => ?_)
  refine st_skip (by kernel_rfl) ?_
  refine sn ?_
  refine sq ?_
  refine st_block 1 (by kernel_rfl) ?_
  refine sq ?_
  refine rg (A := ((0 : Int) ≤ i_4) ∧ ((List.map c81 c_6)[i_4.toNat]? = some (c81 c_6[i_4.toNat]!)) ∧ ((c81 c_6[i_4.toNat]!).length = (3 : Nat)) ∧ ((3 : Nat) ≤ [AV.i IntKind.i64 c_6[i_4.toNat]!.rep, AV.i IntKind.i64 c_6[i_4.toNat]!.lo, AV.i IntKind.i64 c_6[i_4.toNat]!.hi].length)) cx [(3, { row := (c81 c_6[i_4.toNat]!) })] [2, 3, 5, 6] [2, 3, 6] ⟨(by (with_reducible assumption)), (by (with_reducible refine get_map ?_; omega)), (by kernel_rfl), (by (simp only [List.length_append, List.length_cons, List.length_nil]; omega))⟩ ?_
  refine sn ?_
  refine sq ?_
  refine st_join (σ' := ⟨[(2, .ptr (2) (0) (0) (0)), (3, .ptr (3) (0) (0) (0)), (5, .i .i64 (i_4)), (57, .b (decide (c_6[i_4.toNat]!.rep = r_7 ∧ c_6[i_4.toNat]!.lo ≤ n_8 ∧ n_8 ≤ c_6[i_4.toNat]!.hi)))], [(2, ⟨0, 36, .var [.sl (List.map c3 v_5), .sl (List.map c81 c_6)]⟩), (3, ⟨0, 26, .var [.i .i64 (r_7), .i .i64 (n_8)]⟩)]⟩) ?_ ?_
  refine st_split (c_6[i_4.toNat]!.rep = r_7) (fun h_19 => ?_) (fun h_19 => ?_)
  refine st_split (c_6[i_4.toNat]!.lo ≤ n_8) (fun h_20 => ?_) (fun h_20 => ?_)
  refine rg (A := _ ∧ _ ∧ (AV.b (decide (n_8 ≤ c_6[i_4.toNat]!.hi)) = AV.b (decide (n_8 ≤ c_6[i_4.toNat]!.hi))) ∧ (AV.b (decide (n_8 ≤ c_6[i_4.toNat]!.hi)) = AV.b (decide (c_6[i_4.toNat]!.rep = r_7 ∧ c_6[i_4.toNat]!.lo ≤ n_8 ∧ n_8 ≤ c_6[i_4.toNat]!.hi)))) cx [(4, { tell := some (.b (true)) }), (10, { tell := some (.b (true)) }), (17, { tell := some (.b (decide (n_8 ≤ c_6[i_4.toNat]!.hi))) }), (18, { tell := some (.b (decide (c_6[i_4.toNat]!.rep = r_7 ∧ c_6[i_4.toNat]!.lo ≤ n_8 ∧ n_8 ≤ c_6[i_4.toNat]!.hi))) })] [2, 3, 5, 57] [2, 3] ⟨(told_true h_19), (told_true h_20), (by kernel_rfl), (by simp only [eq_true h_19, eq_true h_20, told_simp1, told_simp2, and_true, true_and, and_false, false_and, or_true, true_or, or_false, false_or, not_true_eq_false, not_false_eq_true, decide_true, decide_false, Bool.decide_eq_true])⟩ ?_
  exact ⟨rfl, by kernel_rfl⟩
  refine rg (A := _ ∧ _ ∧ (AV.b false = AV.b (decide (c_6[i_4.toNat]!.rep = r_7 ∧ c_6[i_4.toNat]!.lo ≤ n_8 ∧ n_8 ≤ c_6[i_4.toNat]!.hi)))) cx [(4, { tell := some (.b (true)) }), (10, { tell := some (.b (false)) }), (18, { tell := some (.b (decide (c_6[i_4.toNat]!.rep = r_7 ∧ c_6[i_4.toNat]!.lo ≤ n_8 ∧ n_8 ≤ c_6[i_4.toNat]!.hi))) })] [2, 3, 5, 57] [2, 3] ⟨(told_true h_19), (told_false h_20), (by simp only [eq_true h_19, eq_false h_20, told_simp1, told_simp2, and_true, true_and, and_false, false_and, or_true, true_or, or_false, false_or, not_true_eq_false, not_false_eq_true, decide_true, decide_false, Bool.decide_eq_true])⟩ ?_
  exact ⟨rfl, by kernel_rfl⟩
  refine rg (A := _ ∧ (AV.b false = AV.b (decide (c_6[i_4.toNat]!.rep = r_7 ∧ c_6[i_4.toNat]!.lo ≤ n_8 ∧ n_8 ≤ c_6[i_4.toNat]!.hi)))) cx [(4, { tell := some (.b (false)) }), (18, { tell := some (.b (decide (c_6[i_4.toNat]!.rep = r_7 ∧ c_6[i_4.toNat]!.lo ≤ n_8 ∧ n_8 ≤ c_6[i_4.toNat]!.hi))) })] [2, 3, 5, 57] [2, 3] ⟨(told_false h_19), (by simp only [eq_false h_19, told_simp1, told_simp2, and_true, true_and, and_false, false_and, or_true, true_or, or_false, false_or, not_true_eq_false, not_false_eq_true, decide_true, decide_false, Bool.decide_eq_true])⟩ ?_
  exact ⟨rfl, by kernel_rfl⟩
  refine sn ?_
  refine st_dec (c_6[i_4.toNat]!.rep = r_7 ∧ c_6[i_4.toNat]!.lo ≤ n_8 ∧ n_8 ≤ c_6[i_4.toNat]!.hi) (by kernel_rfl) (by kernel_rfl) (fun h_21 => ?_) (fun h_21 => ?_)
  refine sq ?_
  refine rg (A := True) cx [] [4] [] trivial ?_
  refine sn ?_
  refine st_ret (by kernel_rfl) ?_
  refine q_blk_ret ?_
  refine q_seq_ret ?_
  refine q_seq_ret ?_
  refine q_blk_ret ?_
  refine q_seq_ret ?_
  refine q_ret (r := .b (true)) (obl := []) (by kernel_rfl) trivial (AVle.eq (show AV.b true = AV.b (hasP p d) from ?g5)); rotate_left 1
  refine st_skip (by kernel_rfl) ?_
  refine q_blk_normal ?_
  refine sn ?_
  refine rg (A := (AV.i IntKind.i64 (IntKind.i64.wrap (i_4 + (1 : Int))) = AV.i IntKind.i64 (i_4 + (1 : Int)))) cx [(1, { tell := some (.i .i64 (i_4 + (1 : Int))) })] [2, 3, 5] [2, 3] (told_i64 (by omega) ?g6) ?_; rotate_left 1
  refine sn ?_
  refine loop_next ((i_4 + (1 : Int), v_5, c_6, r_7, n_8)) (by kernel_rfl) (show ((↑p.cloud.length : Int) - (i_4 + (1 : Int))).toNat < ((↑p.cloud.length : Int) - i_4).toNat from ?g7) (show invHas p d (i_4 + (1 : Int)) v_5 c_6 r_7 n_8 from ?g8); rotate_left 2
  refine st_exit 0 (by kernel_rfl) ?_
  refine q_seq_exit ?_
  refine q_seq_exit ?_
  refine q_blk_hit ?_
  refine sn ?_
  refine sq ?_
  refine rg (A := True) cx [] [4] [] trivial ?_
  refine sn ?_
  refine st_ret (by kernel_rfl) ?_
  refine q_ret (r := .b (false)) (obl := []) (by kernel_rfl) trivial (AVle.eq (show AV.b false = AV.b (hasP p d) from ?g9)); rotate_left 1
  revert h_0; rotate_left
  revert h_0 h_2; rotate_left
  revert h_0 h_2; rotate_left
  revert h_0 h_3; rotate_left
  revert h_0 h_3; rotate_left
  revert h_0 h_3 i_4 v_5 c_6 r_7 n_8 h_10 h_11 h_12 h_13 h_14 h_15 h_16 h_17 h_21; rotate_left
  revert h_0 h_3 i_4 v_5 c_6 r_7 n_8 h_10 h_11 h_12 h_13 h_14 h_15 h_16 h_17 h_21; rotate_left
  revert h_0 h_3 i_4 v_5 c_6 r_7 n_8 h_10 h_11 h_12 h_13 h_14 h_15 h_16 h_17 h_21; rotate_left
  revert h_0 h_3 i_4 v_5 c_6 r_7 n_8 h_10 h_11 h_12 h_13 h_14 h_15 h_16 h_17 h_21; rotate_left
  revert h_0 h_3 i_4 v_5 c_6 r_7 n_8 h_10 h_11 h_12 h_13 h_14 h_15 h_16 h_17; rotate_left
  case g0 => intro h; unfold hasP; rw [Bool.eq_false_iff.2 h]; rfl
  case g1 => intro h h1; exact (dotB_in (Classical.not_not.1 h)).1
  case g2 => intro h h1; have := (dotB_in (Classical.not_not.1 h)).1; exact get_map (by omega)
  case g3 => intro h h1; unfold hasP; rw [Classical.not_not.1 h, decide_eq_true h1]; rfl
  case g4 => intro h h1; exact ⟨rfl, rfl, rfl, rfl, by omega, by omega, fun j hj => by omega⟩
  case g5 =>
    intro h h1 i v c r n k0 k1 k2 k3 k4 k5 k6 k7 k8
    subst k0 k1 k2 k3
    have : (p.cloud.any fun s => hasS s d) = true := List.any_eq_true.2 ⟨_, bang_in (l := p.cloud) (i := i.toNat) (by omega), decide_eq_true k8⟩
    unfold hasP
    rw [Classical.not_not.1 h, this]
    simp
  case g6 => intro h h1 i v c r n k0 k1 k2 k3 k4 k5 k6 k7 k8; subst k0 k1 k2 k3; omega
  case g7 => intro h h1 i v c r n k0 k1 k2 k3 k4 k5 k6 k7 k8; subst k0 k1 k2 k3; omega
  case g8 =>
    intro h h1 i v c r n k0 k1 k2 k3 k4 k5 k6 k7 k8
    subst k0 k1 k2 k3
    refine ⟨rfl, rfl, rfl, rfl, by omega, by omega, fun j hj => ?_⟩
    by_cases e : j = i.toNat
    · rw [e]; exact decide_eq_false k8
    · exact k6 j (by omega)
  case g9 =>
    intro h h1 i v c r n k0 k1 k2 k3 k4 k5 k6 k7
    subst k0 k1 k2 k3
    have e := idx_any p.cloud d
    rw [idx_no fun j hj => k6 j (by omega)] at e
    unfold hasP
    rw [decide_eq_false h1, ← e]
    simp
theorem con44 (a b : Past) (h1 : a.vec.length ≤ 9223372036854775807) (h2 : a.cloud.length ≤ 9223372036854775807) : Con Try.prog 44 [.agg (c36 a), .agg (c36 b)] (.b (decide (a = b))) :=
  by
  refine st_con tab_ok (by kernel_rfl) [.tmp 4] 59 Go.Proofs.Try.func44 (by kernel_rfl) (by kernel_rfl) ?_
  intro e0 cx
  refine sq ?_
  refine rg (A := True) cx [] [2, 3] [2, 3] trivial ?_
  refine sn ?_
  refine sq ?_
  refine sq ?_
  refine st_join (σ' := ⟨[(2, .ptr (2) (0) (0) (0)), (3, .ptr (3) (0) (0) (0)), (22, .b (decide (¬(↑a.vec.length : Int) = (↑b.vec.length : Int) ∨ ¬(↑a.cloud.length : Int) = (↑b.cloud.length : Int))))], [(2, ⟨0, 36, .var [.sl (List.map c3 a.vec), .sl (List.map c81 a.cloud)]⟩), (3, ⟨0, 36, .var [.sl (List.map c3 b.vec), .sl (List.map c81 b.cloud)]⟩)]⟩) ?_ ?_
  refine st_split (¬(↑a.vec.length : Int) = (↑b.vec.length : Int)) (fun h_1 => ?_) (fun h_1 => ?_)
  refine rg (A := _ ∧ _ ∧ (AV.b ((↑a.vec.length : Int) != (↑b.vec.length : Int)) = AV.b true) ∧ (AV.b true = AV.b (decide (¬(↑a.vec.length : Int) = (↑b.vec.length : Int) ∨ ¬(↑a.cloud.length : Int) = (↑b.cloud.length : Int))))) cx [(2, { tell := some (.i .i64 ((↑a.vec.length : Int))) }), (5, { tell := some (.i .i64 ((↑b.vec.length : Int))) }), (6, { tell := some (.b (true)) }), (15, { tell := some (.b (decide (¬(↑a.vec.length : Int) = (↑b.vec.length : Int) ∨ ¬(↑a.cloud.length : Int) = (↑b.cloud.length : Int)))) })] [2, 3, 22] [2, 3] ⟨(told_len c3 a.vec), (told_len c3 b.vec), (told_neqt h_1), (by simp only [eq_false h_1, told_simp1, told_simp2, and_true, true_and, and_false, false_and, or_true, true_or, or_false, false_or, not_true_eq_false, not_false_eq_true, decide_true, decide_false, Bool.decide_eq_true])⟩ ?_
  exact ⟨rfl, by kernel_rfl⟩
  refine rg (A := _ ∧ _ ∧ (AV.b ((↑a.vec.length : Int) != (↑b.vec.length : Int)) = AV.b (decide ¬(↑a.vec.length : Int) = (↑b.vec.length : Int))) ∧ _ ∧ _ ∧ _ ∧ (AV.b ((↑a.cloud.length : Int) != (↑b.cloud.length : Int)) = AV.b (decide ¬(↑a.cloud.length : Int) = (↑b.cloud.length : Int))) ∧ (AV.b (decide ¬(↑a.cloud.length : Int) = (↑b.cloud.length : Int)) = AV.b (decide (¬(↑a.vec.length : Int) = (↑b.vec.length : Int) ∨ ¬(↑a.cloud.length : Int) = (↑b.cloud.length : Int))))) cx [(2, { tell := some (.i .i64 ((↑a.vec.length : Int))) }), (5, { tell := some (.i .i64 ((↑b.vec.length : Int))) }), (6, { tell := some (.b (decide ¬(↑a.vec.length : Int) = (↑b.vec.length : Int))) }), (7, { tell := some (.b (false)) }), (10, { tell := some (.i .i64 ((↑a.cloud.length : Int))) }), (13, { tell := some (.i .i64 ((↑b.cloud.length : Int))) }), (14, { tell := some (.b (decide ¬(↑a.cloud.length : Int) = (↑b.cloud.length : Int))) }), (15, { tell := some (.b (decide (¬(↑a.vec.length : Int) = (↑b.vec.length : Int) ∨ ¬(↑a.cloud.length : Int) = (↑b.cloud.length : Int)))) })] [2, 3, 22] [2, 3] ⟨(told_len c3 a.vec), (told_len c3 b.vec), (told_neq), (told_false h_1), (told_len c81 a.cloud), (told_len c81 b.cloud), (told_neq), (by simp only [eq_false h_1, told_simp1, told_simp2, and_true, true_and, and_false, false_and, or_true, true_or, or_false, false_or, not_true_eq_false, not_false_eq_true, decide_true, decide_false, Bool.decide_eq_true])⟩ ?_
  exact ⟨rfl, by kernel_rfl⟩
  refine sn ?_
  refine st_dec (¬(↑a.vec.length : Int) = (↑b.vec.length : Int) ∨ ¬(↑a.cloud.length : Int) = (↑b.cloud.length : Int)) (by kernel_rfl) (by kernel_rfl) (fun h_2 => ?_) (fun h_2 => ?_)
  refine sq ?_
  refine rg (A := True) cx [] [4] [] trivial ?_
  refine sn ?_
  refine st_ret (by kernel_rfl) ?_
  refine q_seq_ret ?_
  refine q_ret (r := .b (false)) (obl := []) (by kernel_rfl) trivial (AVle.eq (show AV.b false = AV.b (decide (a = b)) from ?g0)); rotate_left 1
  refine st_skip (by kernel_rfl) ?_
  refine sn ?_
  refine sq ?_
  refine sq ?_
  refine rg (A := True) cx [] [2, 3, 5] [2, 3] trivial ?_
  refine sn ?_
  refine st_block 0 (by kernel_rfl) ?_
  refine st_loop (X := Int × List Int × List Span × List Int × List Span) (fun x => ⟨[(2, .ptr (2) (0) (0) (0)), (3, .ptr (3) (0) (0) (0)), (5, .i .i64 (x.fst))], [(2, ⟨0, 36, .var [.sl (List.map c3 x.snd.fst), .sl (List.map c81 x.snd.snd.fst)]⟩), (3, ⟨0, 36, .var [.sl (List.map c3 x.snd.snd.snd.fst), .sl (List.map c81 x.snd.snd.snd.snd)]⟩)]⟩) (fun x ↦ decSV a x.fst x.snd.fst x.snd.snd.fst x.snd.snd.snd.fst x.snd.snd.snd.snd) (fun x ↦ invSV a b x.fst x.snd.fst x.snd.snd.fst x.snd.snd.snd.fst x.snd.snd.snd.snd) [2, 3, 5] [2, 3] (((0 : Int), a.vec, a.cloud, b.vec, b.cloud)) (by kernel_rfl) (by kernel_rfl) (show invSV a b (0 : Int) a.vec a.cloud b.vec b.cloud from ?g1) ?_; rotate_left 1
  rintro ⟨i_3, v_4, c_5, w_6, e_7⟩ h_8
  obtain ⟨h_9, h_10, h_11, h_12, h_13, h_14, h_15⟩ : v_4 = a.vec ∧ c_5 = a.cloud ∧ w_6 = b.vec ∧ e_7 = b.cloud ∧ (0 : Int) ≤ i_3 ∧ i_3 ≤ (↑a.vec.length : Int) ∧ ∀ (j : Nat), (↑j : Int) < i_3 → a.vec[j]! = b.vec[j]! := h_8
  refine sq ?_
  refine sq ?_
  refine rg (A := _ ∧ (AV.b (decide (i_3 < (↑v_4.length : Int))) = AV.b (decide (i_3 < (↑v_4.length : Int))))) cx [(3, { tell := some (.i .i64 ((↑v_4.length : Int))) }), (4, { tell := some (.b (decide (i_3 < (↑v_4.length : Int)))) })] [2, 3, 5, 27] [2, 3] ⟨(told_len c3 v_4), (by kernel_rfl)⟩ ?_
  refine sn ?_
  refine st_dec (i_3 < (↑v_4.length : Int)) (by kernel_rfl) (by kernel_rfl) (fun h_16 => ?_) (fun h_16 => ?_)
  refine st_skip (by kernel_rfl) ?_
  refine sn ?_
  refine sq ?_
  refine st_block 1 (by kernel_rfl) ?_
  refine sq ?_
  refine ra (A := ((0 : Int) ≤ i_3) ∧ ((List.map c3 v_4)[i_3.toNat]? = some (c3 v_4[i_3.toNat]!)) ∧ ((c3 v_4[i_3.toNat]!).length = (1 : Nat)) ∧ ((0 : Int) ≤ i_3) ∧ ((List.map c3 w_6)[i_3.toNat]? = some (c3 w_6[i_3.toNat]!)) ∧ ((c3 w_6[i_3.toNat]!).length = (1 : Nat)) ∧ (AV.b (v_4[i_3.toNat]! != w_6[i_3.toNat]!) = AV.b (decide ¬v_4[i_3.toNat]! = w_6[i_3.toNat]!))) cx [(3, { row := (c3 v_4[i_3.toNat]!) }), (8, { row := (c3 w_6[i_3.toNat]!) }), (10, { tell := some (.b (decide ¬v_4[i_3.toNat]! = w_6[i_3.toNat]!)) })] [2, 3, 5, 40] [2, 3] ⟨(by (with_reducible assumption)), (by (with_reducible refine get_map ?_; omega)), (by kernel_rfl), (by (with_reducible assumption)), ?g2, (by kernel_rfl), (told_neq)⟩ ?_; rotate_left 1
  refine sn ?_
  refine st_dec (¬v_4[i_3.toNat]! = w_6[i_3.toNat]!) (by kernel_rfl) (by kernel_rfl) (fun h_17 => ?_) (fun h_17 => ?_)
  refine sq ?_
  refine rg (A := True) cx [] [4] [] trivial ?_
  refine sn ?_
  refine st_ret (by kernel_rfl) ?_
  refine q_blk_ret ?_
  refine q_seq_ret ?_
  refine q_seq_ret ?_
  refine q_blk_ret ?_
  refine q_seq_ret ?_
  refine q_ret (r := .b (false)) (obl := []) (by kernel_rfl) trivial (AVle.eq (show AV.b false = AV.b (decide (a = b)) from ?g3)); rotate_left 1
  refine st_skip (by kernel_rfl) ?_
  refine q_blk_normal ?_
  refine sn ?_
  refine rg (A := (AV.i IntKind.i64 (IntKind.i64.wrap (i_3 + (1 : Int))) = AV.i IntKind.i64 (i_3 + (1 : Int)))) cx [(1, { tell := some (.i .i64 (i_3 + (1 : Int))) })] [2, 3, 5] [2, 3] (told_i64 (by omega) ?g4) ?_; rotate_left 1
  refine sn ?_
  refine loop_next ((i_3 + (1 : Int), v_4, c_5, w_6, e_7)) (by kernel_rfl) (show ((↑a.vec.length : Int) - (i_3 + (1 : Int))).toNat < ((↑a.vec.length : Int) - i_3).toNat from ?g5) (show invSV a b (i_3 + (1 : Int)) v_4 c_5 w_6 e_7 from ?g6); rotate_left 2
  refine st_exit 0 (by kernel_rfl) ?_
  refine q_seq_exit ?_
  refine q_seq_exit ?_
  refine q_blk_hit ?_
  refine sn ?_
  refine sq ?_
  refine sq ?_
  refine rg (A := True) cx [] [2, 3, 6] [2, 3] trivial ?_
  refine sn ?_
  refine st_block 2 (by kernel_rfl) ?_
  refine st_loop (X := Int × List Int × List Span × List Int × List Span) (fun x => ⟨[(2, .ptr (2) (0) (0) (0)), (3, .ptr (3) (0) (0) (0)), (6, .i .i64 (x.fst))], [(2, ⟨0, 36, .var [.sl (List.map c3 x.snd.fst), .sl (List.map c81 x.snd.snd.fst)]⟩), (3, ⟨0, 36, .var [.sl (List.map c3 x.snd.snd.snd.fst), .sl (List.map c81 x.snd.snd.snd.snd)]⟩)]⟩) (fun x ↦ decSC a x.fst x.snd.fst x.snd.snd.fst x.snd.snd.snd.fst x.snd.snd.snd.snd) (fun x ↦ invSC a b x.fst x.snd.fst x.snd.snd.fst x.snd.snd.snd.fst x.snd.snd.snd.snd) [2, 3, 6] [2, 3] (((0 : Int), v_4, c_5, w_6, e_7)) (by kernel_rfl) (by kernel_rfl) (show invSC a b (0 : Int) v_4 c_5 w_6 e_7 from ?g7) ?_; rotate_left 1
  rintro ⟨i_18, v_19, c_20, w_21, e_22⟩ h_23
  obtain ⟨h_24, h_25, h_26, h_27, h_28, h_29, h_30⟩ : v_19 = a.vec ∧ c_20 = a.cloud ∧ w_21 = b.vec ∧ e_22 = b.cloud ∧ (0 : Int) ≤ i_18 ∧ i_18 ≤ (↑a.cloud.length : Int) ∧ ∀ (j : Nat), (↑j : Int) < i_18 → a.cloud[j]! = b.cloud[j]! := h_23
  refine sq ?_
  refine sq ?_
  refine rg (A := _ ∧ (AV.b (decide (i_18 < (↑c_20.length : Int))) = AV.b (decide (i_18 < (↑c_20.length : Int))))) cx [(3, { tell := some (.i .i64 ((↑c_20.length : Int))) }), (4, { tell := some (.b (decide (i_18 < (↑c_20.length : Int)))) })] [2, 3, 6, 45] [2, 3] ⟨(told_len c81 c_20), (by kernel_rfl)⟩ ?_
  refine sn ?_
  refine st_dec (i_18 < (↑c_20.length : Int)) (by kernel_rfl) (by kernel_rfl) (fun h_31 => ?_) (fun h_31 => ?_)
  refine st_skip (by kernel_rfl) ?_
  refine sn ?_
  refine sq ?_
  refine st_block 3 (by kernel_rfl) ?_
  refine sq ?_
  refine ra (A := ((0 : Int) ≤ i_18) ∧ ((List.map c81 c_20)[i_18.toNat]? = some (c81 c_20[i_18.toNat]!)) ∧ ((c81 c_20[i_18.toNat]!).length = (3 : Nat)) ∧ ((3 : Nat) ≤ [AV.i IntKind.i64 c_20[i_18.toNat]!.rep, AV.i IntKind.i64 c_20[i_18.toNat]!.lo, AV.i IntKind.i64 c_20[i_18.toNat]!.hi].length) ∧ ((0 : Int) ≤ i_18) ∧ ((List.map c81 e_22)[i_18.toNat]? = some (c81 e_22[i_18.toNat]!)) ∧ ((c81 e_22[i_18.toNat]!).length = (3 : Nat)) ∧ ((3 : Nat) ≤ [AV.i IntKind.i64 e_22[i_18.toNat]!.rep, AV.i IntKind.i64 e_22[i_18.toNat]!.lo, AV.i IntKind.i64 e_22[i_18.toNat]!.hi].length) ∧ (AggEq Try.prog (81 : Nat) [AV.i IntKind.i64 c_20[i_18.toNat]!.rep, AV.i IntKind.i64 c_20[i_18.toNat]!.lo, AV.i IntKind.i64 c_20[i_18.toNat]!.hi] [AV.i IntKind.i64 e_22[i_18.toNat]!.rep, AV.i IntKind.i64 e_22[i_18.toNat]!.lo, AV.i IntKind.i64 e_22[i_18.toNat]!.hi] !decide ¬c_20[i_18.toNat]! = e_22[i_18.toNat]!)) cx [(3, { row := (c81 c_20[i_18.toNat]!) }), (8, { row := (c81 e_22[i_18.toNat]!) }), (10, { val := some (.b (decide ¬c_20[i_18.toNat]! = e_22[i_18.toNat]!)) })] [2, 3, 6, 58] [2, 3] ⟨(by (with_reducible assumption)), (by (with_reducible refine get_map ?_; omega)), (by kernel_rfl), (by (simp only [List.length_append, List.length_cons, List.length_nil]; omega)), (by (with_reducible assumption)), ?g8, (by kernel_rfl), (by (simp only [List.length_append, List.length_cons, List.length_nil]; omega)), (aggNe_dec (eq81 c_20[i_18.toNat]! e_22[i_18.toNat]!))⟩ ?_; rotate_left 1
  refine sn ?_
  refine st_dec (¬c_20[i_18.toNat]! = e_22[i_18.toNat]!) (by kernel_rfl) (by kernel_rfl) (fun h_32 => ?_) (fun h_32 => ?_)
  refine sq ?_
  refine rg (A := True) cx [] [4] [] trivial ?_
  refine sn ?_
  refine st_ret (by kernel_rfl) ?_
  refine q_blk_ret ?_
  refine q_seq_ret ?_
  refine q_seq_ret ?_
  refine q_blk_ret ?_
  refine q_seq_ret ?_
  refine q_ret (r := .b (false)) (obl := []) (by kernel_rfl) trivial (AVle.eq (show AV.b false = AV.b (decide (a = b)) from ?g9)); rotate_left 1
  refine st_skip (by kernel_rfl) ?_
  refine q_blk_normal ?_
  refine sn ?_
  refine rg (A := (AV.i IntKind.i64 (IntKind.i64.wrap (i_18 + (1 : Int))) = AV.i IntKind.i64 (i_18 + (1 : Int)))) cx [(1, { tell := some (.i .i64 (i_18 + (1 : Int))) })] [2, 3, 6] [2, 3] (told_i64 (by omega) ?g10) ?_; rotate_left 1
  refine sn ?_
  refine loop_next ((i_18 + (1 : Int), v_19, c_20, w_21, e_22)) (by kernel_rfl) (show ((↑a.cloud.length : Int) - (i_18 + (1 : Int))).toNat < ((↑a.cloud.length : Int) - i_18).toNat from ?g11) (show invSC a b (i_18 + (1 : Int)) v_19 c_20 w_21 e_22 from ?g12); rotate_left 2
  refine st_exit 2 (by kernel_rfl) ?_
  refine q_seq_exit ?_
  refine q_seq_exit ?_
  refine q_blk_hit ?_
  refine sn ?_
  refine sq ?_
  refine rg (A := True) cx [] [4] [] trivial ?_
  refine sn ?_
  refine st_ret (by kernel_rfl) ?_
  refine q_ret (r := .b (true)) (obl := []) (by kernel_rfl) trivial (AVle.eq (show AV.b true = AV.b (decide (a = b)) from ?g13)); rotate_left 1
  revert h_2; rotate_left
  revert h_2; rotate_left
  revert h_2 i_3 v_4 c_5 w_6 e_7 h_9 h_10 h_11 h_12 h_13 h_14 h_15 h_16; rotate_left
  revert h_2 i_3 v_4 c_5 w_6 e_7 h_9 h_10 h_11 h_12 h_13 h_14 h_15 h_16 h_17; rotate_left
  revert h_2 i_3 v_4 c_5 w_6 e_7 h_9 h_10 h_11 h_12 h_13 h_14 h_15 h_16 h_17; rotate_left
  revert h_2 i_3 v_4 c_5 w_6 e_7 h_9 h_10 h_11 h_12 h_13 h_14 h_15 h_16 h_17; rotate_left
  revert h_2 i_3 v_4 c_5 w_6 e_7 h_9 h_10 h_11 h_12 h_13 h_14 h_15 h_16 h_17; rotate_left
  revert h_2 i_3 v_4 c_5 w_6 e_7 h_9 h_10 h_11 h_12 h_13 h_14 h_15 h_16; rotate_left
  revert h_2 i_3 v_4 c_5 w_6 e_7 h_9 h_10 h_11 h_12 h_13 h_14 h_15 h_16 i_18 v_19 c_20 w_21 e_22 h_24 h_25 h_26 h_27 h_28 h_29 h_30 h_31; rotate_left
  revert h_2 i_3 v_4 c_5 w_6 e_7 h_9 h_10 h_11 h_12 h_13 h_14 h_15 h_16 i_18 v_19 c_20 w_21 e_22 h_24 h_25 h_26 h_27 h_28 h_29 h_30 h_31 h_32; rotate_left
  revert h_2 i_3 v_4 c_5 w_6 e_7 h_9 h_10 h_11 h_12 h_13 h_14 h_15 h_16 i_18 v_19 c_20 w_21 e_22 h_24 h_25 h_26 h_27 h_28 h_29 h_30 h_31 h_32; rotate_left
  revert h_2 i_3 v_4 c_5 w_6 e_7 h_9 h_10 h_11 h_12 h_13 h_14 h_15 h_16 i_18 v_19 c_20 w_21 e_22 h_24 h_25 h_26 h_27 h_28 h_29 h_30 h_31 h_32; rotate_left
  revert h_2 i_3 v_4 c_5 w_6 e_7 h_9 h_10 h_11 h_12 h_13 h_14 h_15 h_16 i_18 v_19 c_20 w_21 e_22 h_24 h_25 h_26 h_27 h_28 h_29 h_30 h_31 h_32; rotate_left
  revert h_2 i_3 v_4 c_5 w_6 e_7 h_9 h_10 h_11 h_12 h_13 h_14 h_15 h_16 i_18 v_19 c_20 w_21 e_22 h_24 h_25 h_26 h_27 h_28 h_29 h_30 h_31; rotate_left
  case g0 => intro h; rw [decide_eq_false]; rintro rfl; exact h.elim (fun k => k rfl) (fun k => k rfl)
  case g1 => intro h; exact ⟨rfl, rfl, rfl, rfl, by omega, by omega, fun j hj => by omega⟩
  case g2 => intro h i v c w e k0 k1 k2 k3 k4 k5 k6 k7; subst k0 k1 k2 k3; exact get_map (by omega)
  case g3 => intro h i v c w e k0 k1 k2 k3 k4 k5 k6 k7 k8; subst k0 k1 k2 k3; rw [decide_eq_false]; rintro rfl; exact k8 rfl
  case g4 => intro h i v c w e k0 k1 k2 k3 k4 k5 k6 k7 k8; subst k0 k1 k2 k3; omega
  case g5 => intro h i v c w e k0 k1 k2 k3 k4 k5 k6 k7 k8; subst k0 k1 k2 k3; omega
  case g6 =>
    intro h i v c w e k0 k1 k2 k3 k4 k5 k6 k7 k8
    subst k0 k1 k2 k3
    refine ⟨rfl, rfl, rfl, rfl, by omega, by omega, fun j hj => ?_⟩
    by_cases e : j = i.toNat
    · rw [e]; exact Classical.not_not.1 k8
    · exact k6 j (by omega)
  case g7 => intro h i v c w e k0 k1 k2 k3 k4 k5 k6 k7; exact ⟨k0, k1, k2, k3, by omega, by omega, fun j hj => by omega⟩
  case g8 => intro h i v c w e k0 k1 k2 k3 k4 k5 k6 k7 j x y z u m0 m1 m2 m3 m4 m5 m6 m7; subst m0 m1 m2 m3; exact get_map (by omega)
  case g9 => intro h i v c w e k0 k1 k2 k3 k4 k5 k6 k7 j x y z u m0 m1 m2 m3 m4 m5 m6 m7 m8; subst m0 m1 m2 m3; rw [decide_eq_false]; rintro rfl; exact m8 rfl
  case g10 => intro h i v c w e k0 k1 k2 k3 k4 k5 k6 k7 j x y z u m0 m1 m2 m3 m4 m5 m6 m7 m8; subst m0 m1 m2 m3; omega
  case g11 => intro h i v c w e k0 k1 k2 k3 k4 k5 k6 k7 j x y z u m0 m1 m2 m3 m4 m5 m6 m7 m8; subst m0 m1 m2 m3; omega
  case g12 =>
    intro h i v c w e k0 k1 k2 k3 k4 k5 k6 k7 j x y z u m0 m1 m2 m3 m4 m5 m6 m7 m8
    subst m0 m1 m2 m3
    refine ⟨rfl, rfl, rfl, rfl, by omega, by omega, fun l hl => ?_⟩
    by_cases e : l = j.toNat
    · rw [e]; exact Classical.not_not.1 m8
    · exact m6 l (by omega)
  case g13 =>
    intro h i v c w e k0 k1 k2 k3 k4 k5 k6 k7 j x y z u m0 m1 m2 m3 m4 m5 m6 m7
    subst k0 m1
    have e1 : a.vec = b.vec := eq_of_all (by omega) fun j hj => k6 j (by omega)
    have e2 : a.cloud = b.cloud := eq_of_all (by omega) fun j hj => m6 j (by omega)
    rw [decide_eq_true]
    cases a; cases b
    simp only at e1 e2
    rw [e1, e2]
end Go.Proofs.Ytjngmlkaijpbgaa
namespace Go.Proofs.Ytjngmlkaijpbgaa
open Go.E
set_option maxRecDepth 100000
set_option maxHeartbeats 4000000
def leI (a b : Int) : Bool := decide (a ≤ b)
def isMrg (A B : List Int) (i j : Int) (s : List Int) : Prop := s ++ List.merge (A.drop i.toNat) (B.drop j.toNat) leI = List.merge A B leI
def inv37 (A B : List Int) (i j : Int) (s : List Int) : Prop := 0 ≤ i ∧ i ≤ A.length ∧ 0 ≤ j ∧ j ≤ B.length ∧ (s.length : Int) = i + j ∧ isMrg A B i j s
def dec37 (A B : List Int) (i j : Int) (s : List Int) : Nat := (A.length + B.length - i - j).toNat
def hA (l : List Int) : List Int := (List.take ((l.length : Int).tdiv 2).toNat l).mergeSort leI
def hB (l : List Int) : List Int := (List.drop ((l.length : Int).tdiv 2).toNat l).mergeSort leI
theorem hA_len (l : List Int) : (hA l).length = ((l.length : Int).tdiv 2).toNat := by
  unfold hA
  rw [List.length_mergeSort, List.length_take, Int.tdiv_eq_ediv_of_nonneg (by omega)]
  omega
theorem hB_len (l : List Int) : (hB l).length = l.length - ((l.length : Int).tdiv 2).toNat := by
  unfold hB
  rw [List.length_mergeSort, List.length_drop]
theorem half_bd (l : List Int) : 0 ≤ (l.length : Int).tdiv 2 ∧ 2 * (l.length : Int).tdiv 2 ≤ l.length ∧ (l.length : Int) ≤ 2 * (l.length : Int).tdiv 2 + 1 := by
  rw [Int.tdiv_eq_ediv_of_nonneg (by omega)]
  omega
theorem leI_tr (a b c : Int) (h1 : leI a b = true) (h2 : leI b c = true) : leI a c = true := by simp only [leI, decide_eq_true_eq] at *; omega
theorem leI_to (a b : Int) : (leI a b || leI b a) = true := by simp only [leI, Bool.or_eq_true, decide_eq_true_eq]; omega
theorem hAB_sort (l : List Int) : List.merge (hA l) (hB l) leI = l.mergeSort leI := by
  refine List.Perm.eq_of_pairwise (le := fun x y => leI x y = true) (fun a b _ _ h1 h2 => by simp only [leI, decide_eq_true_eq] at *; omega) ?_ (List.pairwise_mergeSort leI_tr leI_to l) ?_
  · exact List.pairwise_merge leI_tr leI_to _ _ (List.pairwise_mergeSort leI_tr leI_to _) (List.pairwise_mergeSort leI_tr leI_to _)
  · refine (List.merge_perm_append leI).trans (((List.mergeSort_perm _ _).append (List.mergeSort_perm _ _)).trans ?_)
    rw [List.take_append_drop]
    exact (List.mergeSort_perm _ _).symm
theorem drop_at {α : Type} [Inhabited α] {l : List α} {i : Int} (h0 : 0 ≤ i) (h : i < l.length) : l.drop i.toNat = l[i.toNat]! :: l.drop (i + 1).toNat := by
  rw [show (i + 1).toNat = i.toNat + 1 by omega, getElem!_pos l i.toNat (by omega), ← List.drop_eq_getElem_cons]
theorem mrgL {A B : List Int} {i j : Int} {s : List Int} (h0 : 0 ≤ i) (hi : i < A.length) (j0 : 0 ≤ j) (hj : j = B.length ∨ (j < B.length ∧ A[i.toNat]! ≤ B[j.toNat]!)) (h : isMrg A B i j s) : isMrg A B (i + 1) j (s ++ [A[i.toNat]!]) := by
  unfold isMrg at *
  rw [← h, List.append_assoc]
  congr 1
  rw [drop_at h0 hi]
  rcases hj with hj | ⟨hj, hle⟩
  · rw [List.drop_of_length_le (l := B) (by omega)]; simp
  · rw [drop_at j0 hj, List.cons_merge_cons, if_pos (by simpa [leI] using hle)]; simp
theorem mrgR {A B : List Int} {i j : Int} {s : List Int} (h0 : 0 ≤ i) (j0 : 0 ≤ j) (hj : j < B.length) (hi : ¬ i < A.length ∨ (i < A.length ∧ ¬ A[i.toNat]! ≤ B[j.toNat]!)) (h : isMrg A B i j s) : isMrg A B i (j + 1) (s ++ [B[j.toNat]!]) := by
  unfold isMrg at *
  rw [← h, List.append_assoc]
  congr 1
  rw [drop_at j0 hj]
  rcases hi with hi | ⟨hi, hle⟩
  · rw [List.drop_of_length_le (l := A) (by omega)]; simp
  · rw [drop_at h0 hi, List.cons_merge_cons, if_neg (by simpa [leI] using hle)]; simp
theorem mrgE {l : List Int} {i j : Int} {s : List Int} (hi : ¬ i < (hA l).length) (hj : ¬ j < (hB l).length) (h : isMrg (hA l) (hB l) i j s) : s = l.mergeSort leI := by
  unfold isMrg at h
  rw [List.drop_of_length_le (by omega), List.drop_of_length_le (by omega)] at h
  rw [← hAB_sort, ← h]
  simp
theorem srt_short {l : List Int} (h : (l.length : Int) < 2) : l.mergeSort leI = l := by
  match l with
  | [] => simp
  | [a] => simp
  | a :: b :: l => simp only [List.length_cons] at h; omega
theorem con139_r (l : List Int) (n : Nat) (hn : l.length ≤ n) (ih : ∀ m : List Int, m.length < n → m.length * 8 ≤ 140737488351232 → Con Try.prog 139 [.sl (m.map c3)] (.sl ((m.mergeSort leI).map c3))) (hb : l.length * 8 ≤ 140737488351232) : Con Try.prog 139 [.sl (l.map c3)] (.sl ((l.mergeSort leI).map c3)) :=
  by
  have b1 := half_bd l
  have b2 := hA_len l
  have b3 := hB_len l
  refine con_lens 0 (c3) (l) (by kernel_rfl) Go.Proofs.Try.func139 (by kernel_rfl) fun hl_0 => ?_
  refine st_con tab_ok (by kernel_rfl) [.tmp 2] 79 Go.Proofs.Try.func139 (by kernel_rfl) (by kernel_rfl) ?_
  intro e0 cx
  refine sq ?_
  refine rg (A := True) cx [] [0] [] trivial ?_
  refine sn ?_
  refine sq ?_
  refine sq ?_
  refine rg (A := _ ∧ (AV.b (decide ((↑l.length : Int) < (2 : Int))) = AV.b (decide ((↑l.length : Int) < (2 : Int))))) cx [(1, { tell := some (.i .i64 ((↑l.length : Int))) }), (2, { tell := some (.b (decide ((↑l.length : Int) < (2 : Int)))) })] [0, 10] [] ⟨(told_len c3 l), (by kernel_rfl)⟩ ?_
  refine sn ?_
  refine st_dec ((↑l.length : Int) < (2 : Int)) (by kernel_rfl) (by kernel_rfl) (fun h_0 => ?_) (fun h_0 => ?_)
  refine sq ?_
  refine rg (A := (3 = (3 : Nat)) ∧ ((1 : Nat) = 1) ∧ ([AV.i IntKind.i64 (0 : Int)].length = (1 : Nat)) ∧ (∀ (r : List AV), r ∈ List.map c3 l → r.length = 1) ∧ ((List.map c3 []).length + (List.map c3 l).length ≤ maxLen) ∧ (((List.map c3 []).length + (List.map c3 l).length) * (8 : Nat) ≤ (140737488355328 : Nat)) ∧ (List.map c3 [] ++ List.map c3 l = List.map c3 ([] ++ l))) cx [(2, { rows := some (List.map c3 ([] ++ l)) })] [2] [11] ⟨(by kernel_rfl), (by kernel_rfl), (by kernel_rfl), (by (with_reducible refine len_map (fun _ => ?_) _; kernel_rfl)), (by (simp only [Go.maxLen, List.length_map, List.length_append, List.length_cons, List.length_nil]; omega)), (by (simp only [Go.maxLen, List.length_map, List.length_append, List.length_cons, List.length_nil]; omega)), (by (with_reducible refine app_map ?_; kernel_rfl))⟩ ?_
  refine sn ?_
  refine st_ret (by kernel_rfl) ?_
  refine q_seq_ret ?_
  refine q_ret (r := .sl (List.map c3 ([] ++ l))) (obl := []) (by kernel_rfl) trivial (AVle.eq (show AV.sl (List.map c3 ([] ++ l)) = AV.sl (List.map c3 (l.mergeSort leI)) from ?g0)); rotate_left 1
  refine st_skip (by kernel_rfl) ?_
  refine sn ?_
  refine sq ?_
  refine rg (A := _ ∧ (AV.i IntKind.i64 (IntKind.i64.wrap ((↑l.length : Int).tdiv (2 : Int))) = AV.i IntKind.i64 ((↑l.length : Int).tdiv (2 : Int))) ∧ (AV.sl (List.drop (Int.toNat (0 : Int)) (List.take ((↑l.length : Int).tdiv (2 : Int)).toNat (List.map c3 l))) = AV.sl (List.map c3 (List.take ((↑l.length : Int).tdiv (2 : Int)).toNat l))) ∧ ((0 : Int) ≤ (0 : Int)) ∧ ((0 : Int) ≤ (↑l.length : Int).tdiv (2 : Int)) ∧ ((↑l.length : Int).tdiv (2 : Int) ≤ (↑(List.map c3 l).length : Int)) ∧ (∀ (r : List AV), r ∈ List.map c3 l → r.length = (1 : Nat)) ∧ (Con Try.prog (139 : FuncId) [AV.sl (List.map c3 (List.take ((↑l.length : Int).tdiv (2 : Int)).toNat l))] (AV.sl (List.map c3 ((List.take ((↑l.length : Int).tdiv (2 : Int)).toNat l).mergeSort leI))))) cx [(2, { tell := some (.i .i64 ((↑l.length : Int))) }), (3, { tell := some (.i .i64 ((↑l.length : Int).tdiv (2 : Int))) }), (4, { tell := some (.sl (List.map c3 (List.take ((↑l.length : Int).tdiv (2 : Int)).toNat l))) }), (5, { val := some (.sl (List.map c3 ((List.take ((↑l.length : Int).tdiv (2 : Int)).toNat l).mergeSort leI))) })] [0, 3] [] ⟨(told_len c3 l), (told_i64 ?g1 ?g2), (told_slT c3 l ((↑l.length : Int).tdiv (2 : Int)).toNat), (by omega), ?g3, ?g4, (by (with_reducible refine len_map (fun _ => ?_) _; kernel_rfl)), (ih (List.take ((↑l.length : Int).tdiv (2 : Int)).toNat l) ?g5 ?g6)⟩ ?_; rotate_left 6
  refine sn ?_
  refine sq ?_
  refine rg (A := _ ∧ (AV.i IntKind.i64 (IntKind.i64.wrap ((↑l.length : Int).tdiv (2 : Int))) = AV.i IntKind.i64 ((↑l.length : Int).tdiv (2 : Int))) ∧ (AV.sl (List.drop ((↑l.length : Int).tdiv (2 : Int)).toNat (List.take (none.getD (↑(List.map c3 l).length : Int)).toNat (List.map c3 l))) = AV.sl (List.map c3 (List.drop ((↑l.length : Int).tdiv (2 : Int)).toNat l))) ∧ ((0 : Int) ≤ (↑l.length : Int).tdiv (2 : Int)) ∧ ((↑l.length : Int).tdiv (2 : Int) ≤ none.getD (↑(List.map c3 l).length : Int)) ∧ (none.getD (↑(List.map c3 l).length : Int) ≤ (↑(List.map c3 l).length : Int)) ∧ (∀ (r : List AV), r ∈ List.map c3 l → r.length = (1 : Nat)) ∧ (Con Try.prog (139 : FuncId) [AV.sl (List.map c3 (List.drop ((↑l.length : Int).tdiv (2 : Int)).toNat l))] (AV.sl (List.map c3 ((List.drop ((↑l.length : Int).tdiv (2 : Int)).toNat l).mergeSort leI))))) cx [(2, { tell := some (.i .i64 ((↑l.length : Int))) }), (3, { tell := some (.i .i64 ((↑l.length : Int).tdiv (2 : Int))) }), (4, { tell := some (.sl (List.map c3 (List.drop ((↑l.length : Int).tdiv (2 : Int)).toNat l))) }), (5, { val := some (.sl (List.map c3 ((List.drop ((↑l.length : Int).tdiv (2 : Int)).toNat l).mergeSort leI))) })] [0, 3, 4] [] ⟨(told_len c3 l), (told_i64 ?g7 ?g8), (told_slN c3 l ((↑l.length : Int).tdiv (2 : Int)).toNat), ?g9, ?g10, ?g11, (by (with_reducible refine len_map (fun _ => ?_) _; kernel_rfl)), (ih (List.drop ((↑l.length : Int).tdiv (2 : Int)).toNat l) ?g12 ?g13)⟩ ?_; rotate_left 7
  refine sn ?_
  refine sq ?_
  refine rg (A := _ ∧ ((0 : Int) = (0 : Int)) ∧ ((↑l.length : Int) = (↑l.length : Int)) ∧ ((8 : Nat) * l.length ≤ (281474976710656 : Nat)) ∧ (l.length ≤ maxLen)) cx [(1, { tell := some (.i .i64 ((↑l.length : Int))) }), (2, { n := l.length, flat := true })] [3, 4, 5] [28] ⟨(told_len c3 l), (by kernel_rfl), (by kernel_rfl), (by omega), (by (simp only [Go.maxLen]; omega))⟩ ?_
  refine sn ?_
  refine sq ?_
  refine rg (A := True) cx [] [3, 4, 5, 6, 7] [28] trivial ?_
  refine sn ?_
  refine sq ?_
  refine st_block 0 (by kernel_rfl) ?_
  refine st_loop (X := Int × Int × List Int) (fun x => ⟨[(3, .sl (List.map c3 ((List.take ((↑l.length : Int).tdiv (2 : Int)).toNat l).mergeSort leI))), (4, .sl (List.map c3 ((List.drop ((↑l.length : Int).tdiv (2 : Int)).toNat l).mergeSort leI))), (5, .own 28 0), (6, .i .i64 (x.fst)), (7, .i .i64 (x.snd.fst))], [(28, ⟨0, 3, .row 1 (List.map c3 x.snd.snd)⟩)]⟩) (fun x ↦ dec37 (hA l) (hB l) x.fst x.snd.fst x.snd.snd) (fun x ↦ inv37 (hA l) (hB l) x.fst x.snd.fst x.snd.snd) [3, 4, 5, 6, 7] [28] (((0 : Int), (0 : Int), [])) (by kernel_rfl) (by kernel_rfl) (show inv37 (hA l) (hB l) (0 : Int) (0 : Int) [] from ?g14) ?_; rotate_left 1
  rintro ⟨i_1, j_2, s_3⟩ h_4
  obtain ⟨h_5, h_6, h_7, h_8, h_9, h_10⟩ : (0 : Int) ≤ i_1 ∧ i_1 ≤ (↑(hA l).length : Int) ∧ (0 : Int) ≤ j_2 ∧ j_2 ≤ (↑(hB l).length : Int) ∧ (↑s_3.length : Int) = i_1 + j_2 ∧ isMrg (hA l) (hB l) i_1 j_2 s_3 := h_4
  refine sq ?_
  refine sq ?_
  refine st_join (σ' := ⟨[(3, .sl (List.map c3 ((List.take ((↑l.length : Int).tdiv (2 : Int)).toNat l).mergeSort leI))), (4, .sl (List.map c3 ((List.drop ((↑l.length : Int).tdiv (2 : Int)).toNat l).mergeSort leI))), (5, .own 28 0), (6, .i .i64 (i_1)), (7, .i .i64 (j_2)), (38, .b (decide (i_1 < (↑((List.take ((↑l.length : Int).tdiv (2 : Int)).toNat l).mergeSort leI).length : Int) ∨ j_2 < (↑((List.drop ((↑l.length : Int).tdiv (2 : Int)).toNat l).mergeSort leI).length : Int))))], [(28, ⟨0, 3, .row 1 (List.map c3 s_3)⟩)]⟩) ?_ ?_
  refine st_split (i_1 < (↑((List.take ((↑l.length : Int).tdiv (2 : Int)).toNat l).mergeSort leI).length : Int)) (fun h_12 => ?_) (fun h_12 => ?_)
  refine rg (A := _ ∧ _ ∧ (AV.b true = AV.b (decide (i_1 < (↑((List.take ((↑l.length : Int).tdiv (2 : Int)).toNat l).mergeSort leI).length : Int) ∨ j_2 < (↑((List.drop ((↑l.length : Int).tdiv (2 : Int)).toNat l).mergeSort leI).length : Int))))) cx [(2, { tell := some (.i .i64 ((↑((List.take ((↑l.length : Int).tdiv (2 : Int)).toNat l).mergeSort leI).length : Int))) }), (3, { tell := some (.b (true)) }), (9, { tell := some (.b (decide (i_1 < (↑((List.take ((↑l.length : Int).tdiv (2 : Int)).toNat l).mergeSort leI).length : Int) ∨ j_2 < (↑((List.drop ((↑l.length : Int).tdiv (2 : Int)).toNat l).mergeSort leI).length : Int)))) })] [3, 4, 5, 6, 7, 38] [28] ⟨(told_len c3 ((List.take ((↑l.length : Int).tdiv (2 : Int)).toNat l).mergeSort leI)), (told_true h_12), (by simp only [eq_true h_12, told_simp1, told_simp2, and_true, true_and, and_false, false_and, or_true, true_or, or_false, false_or, not_true_eq_false, not_false_eq_true, decide_true, decide_false, Bool.decide_eq_true])⟩ ?_
  exact ⟨rfl, by kernel_rfl⟩
  refine rg (A := _ ∧ _ ∧ _ ∧ (AV.b (decide (j_2 < (↑((List.drop ((↑l.length : Int).tdiv (2 : Int)).toNat l).mergeSort leI).length : Int))) = AV.b (decide (j_2 < (↑((List.drop ((↑l.length : Int).tdiv (2 : Int)).toNat l).mergeSort leI).length : Int)))) ∧ (AV.b (decide (j_2 < (↑((List.drop ((↑l.length : Int).tdiv (2 : Int)).toNat l).mergeSort leI).length : Int))) = AV.b (decide (i_1 < (↑((List.take ((↑l.length : Int).tdiv (2 : Int)).toNat l).mergeSort leI).length : Int) ∨ j_2 < (↑((List.drop ((↑l.length : Int).tdiv (2 : Int)).toNat l).mergeSort leI).length : Int))))) cx [(2, { tell := some (.i .i64 ((↑((List.take ((↑l.length : Int).tdiv (2 : Int)).toNat l).mergeSort leI).length : Int))) }), (3, { tell := some (.b (false)) }), (7, { tell := some (.i .i64 ((↑((List.drop ((↑l.length : Int).tdiv (2 : Int)).toNat l).mergeSort leI).length : Int))) }), (8, { tell := some (.b (decide (j_2 < (↑((List.drop ((↑l.length : Int).tdiv (2 : Int)).toNat l).mergeSort leI).length : Int)))) }), (9, { tell := some (.b (decide (i_1 < (↑((List.take ((↑l.length : Int).tdiv (2 : Int)).toNat l).mergeSort leI).length : Int) ∨ j_2 < (↑((List.drop ((↑l.length : Int).tdiv (2 : Int)).toNat l).mergeSort leI).length : Int)))) })] [3, 4, 5, 6, 7, 38] [28] ⟨(told_len c3 ((List.take ((↑l.length : Int).tdiv (2 : Int)).toNat l).mergeSort leI)), (told_false h_12), (told_len c3 ((List.drop ((↑l.length : Int).tdiv (2 : Int)).toNat l).mergeSort leI)), (by kernel_rfl), (by simp only [eq_false h_12, told_simp1, told_simp2, and_true, true_and, and_false, false_and, or_true, true_or, or_false, false_or, not_true_eq_false, not_false_eq_true, decide_true, decide_false, Bool.decide_eq_true])⟩ ?_
  exact ⟨rfl, by kernel_rfl⟩
  refine sn ?_
  refine st_dec (i_1 < (↑((List.take ((↑l.length : Int).tdiv (2 : Int)).toNat l).mergeSort leI).length : Int) ∨ j_2 < (↑((List.drop ((↑l.length : Int).tdiv (2 : Int)).toNat l).mergeSort leI).length : Int)) (by kernel_rfl) (by kernel_rfl) (fun h_13 => ?_) (fun h_13 => ?_)
  refine st_skip (by kernel_rfl) ?_
  refine sn ?_
  refine st_block 1 (by kernel_rfl) ?_
  refine sq ?_
  refine st_join (σ' := ⟨[(3, .sl (List.map c3 ((List.take ((↑l.length : Int).tdiv (2 : Int)).toNat l).mergeSort leI))), (4, .sl (List.map c3 ((List.drop ((↑l.length : Int).tdiv (2 : Int)).toNat l).mergeSort leI))), (5, .own 28 0), (6, .i .i64 (i_1)), (7, .i .i64 (j_2)), (59, .b (decide (j_2 = (↑((List.drop ((↑l.length : Int).tdiv (2 : Int)).toNat l).mergeSort leI).length : Int) ∨ i_1 < (↑((List.take ((↑l.length : Int).tdiv (2 : Int)).toNat l).mergeSort leI).length : Int) ∧ ((List.take ((↑l.length : Int).tdiv (2 : Int)).toNat l).mergeSort leI)[i_1.toNat]! ≤ ((List.drop ((↑l.length : Int).tdiv (2 : Int)).toNat l).mergeSort leI)[j_2.toNat]!)))], [(28, ⟨0, 3, .row 1 (List.map c3 s_3)⟩)]⟩) ?_ ?_
  refine st_split (j_2 = (↑((List.drop ((↑l.length : Int).tdiv (2 : Int)).toNat l).mergeSort leI).length : Int)) (fun h_15 => ?_) (fun h_15 => ?_)
  refine ra (A := _ ∧ _ ∧ (AV.b true = AV.b (decide (j_2 = (↑((List.drop ((↑l.length : Int).tdiv (2 : Int)).toNat l).mergeSort leI).length : Int) ∨ i_1 < (↑((List.take ((↑l.length : Int).tdiv (2 : Int)).toNat l).mergeSort leI).length : Int) ∧ ((List.take ((↑l.length : Int).tdiv (2 : Int)).toNat l).mergeSort leI)[i_1.toNat]! ≤ ((List.drop ((↑l.length : Int).tdiv (2 : Int)).toNat l).mergeSort leI)[j_2.toNat]!)))) cx [(2, { tell := some (.i .i64 ((↑((List.drop ((↑l.length : Int).tdiv (2 : Int)).toNat l).mergeSort leI).length : Int))) }), (3, { tell := some (.b (true)) }), (20, { tell := some (.b (decide (j_2 = (↑((List.drop ((↑l.length : Int).tdiv (2 : Int)).toNat l).mergeSort leI).length : Int) ∨ i_1 < (↑((List.take ((↑l.length : Int).tdiv (2 : Int)).toNat l).mergeSort leI).length : Int) ∧ ((List.take ((↑l.length : Int).tdiv (2 : Int)).toNat l).mergeSort leI)[i_1.toNat]! ≤ ((List.drop ((↑l.length : Int).tdiv (2 : Int)).toNat l).mergeSort leI)[j_2.toNat]!))) })] [3, 4, 5, 6, 7, 59] [28] ⟨(told_len c3 ((List.drop ((↑l.length : Int).tdiv (2 : Int)).toNat l).mergeSort leI)), (told_true h_15), (by simp only [eq_true h_15, told_simp1, told_simp2, and_true, true_and, and_false, false_and, or_true, true_or, or_false, false_or, not_true_eq_false, not_false_eq_true, decide_true, decide_false, Bool.decide_eq_true])⟩ ?_
  exact ⟨rfl, by kernel_rfl⟩
  refine st_split (i_1 < (↑((List.take ((↑l.length : Int).tdiv (2 : Int)).toNat l).mergeSort leI).length : Int)) (fun h_16 => ?_) (fun h_16 => ?_)
  refine ra (A := _ ∧ _ ∧ _ ∧ _ ∧ ((0 : Int) ≤ i_1) ∧ ((List.map c3 ((List.take ((↑l.length : Int).tdiv (2 : Int)).toNat l).mergeSort leI))[i_1.toNat]? = some (c3 ((List.take ((↑l.length : Int).tdiv (2 : Int)).toNat l).mergeSort leI)[i_1.toNat]!)) ∧ ((c3 ((List.take ((↑l.length : Int).tdiv (2 : Int)).toNat l).mergeSort leI)[i_1.toNat]!).length = (1 : Nat)) ∧ ((0 : Int) ≤ j_2) ∧ ((List.map c3 ((List.drop ((↑l.length : Int).tdiv (2 : Int)).toNat l).mergeSort leI))[j_2.toNat]? = some (c3 ((List.drop ((↑l.length : Int).tdiv (2 : Int)).toNat l).mergeSort leI)[j_2.toNat]!)) ∧ ((c3 ((List.drop ((↑l.length : Int).tdiv (2 : Int)).toNat l).mergeSort leI)[j_2.toNat]!).length = (1 : Nat)) ∧ (AV.b (decide (((List.take ((↑l.length : Int).tdiv (2 : Int)).toNat l).mergeSort leI)[i_1.toNat]! ≤ ((List.drop ((↑l.length : Int).tdiv (2 : Int)).toNat l).mergeSort leI)[j_2.toNat]!)) = AV.b (decide (((List.take ((↑l.length : Int).tdiv (2 : Int)).toNat l).mergeSort leI)[i_1.toNat]! ≤ ((List.drop ((↑l.length : Int).tdiv (2 : Int)).toNat l).mergeSort leI)[j_2.toNat]!))) ∧ (AV.b (decide (((List.take ((↑l.length : Int).tdiv (2 : Int)).toNat l).mergeSort leI)[i_1.toNat]! ≤ ((List.drop ((↑l.length : Int).tdiv (2 : Int)).toNat l).mergeSort leI)[j_2.toNat]!)) = AV.b (decide (j_2 = (↑((List.drop ((↑l.length : Int).tdiv (2 : Int)).toNat l).mergeSort leI).length : Int) ∨ i_1 < (↑((List.take ((↑l.length : Int).tdiv (2 : Int)).toNat l).mergeSort leI).length : Int) ∧ ((List.take ((↑l.length : Int).tdiv (2 : Int)).toNat l).mergeSort leI)[i_1.toNat]! ≤ ((List.drop ((↑l.length : Int).tdiv (2 : Int)).toNat l).mergeSort leI)[j_2.toNat]!)))) cx [(2, { tell := some (.i .i64 ((↑((List.drop ((↑l.length : Int).tdiv (2 : Int)).toNat l).mergeSort leI).length : Int))) }), (3, { tell := some (.b (false)) }), (7, { tell := some (.i .i64 ((↑((List.take ((↑l.length : Int).tdiv (2 : Int)).toNat l).mergeSort leI).length : Int))) }), (8, { tell := some (.b (true)) }), (12, { row := (c3 ((List.take ((↑l.length : Int).tdiv (2 : Int)).toNat l).mergeSort leI)[i_1.toNat]!) }), (16, { row := (c3 ((List.drop ((↑l.length : Int).tdiv (2 : Int)).toNat l).mergeSort leI)[j_2.toNat]!) }), (18, { tell := some (.b (decide (((List.take ((↑l.length : Int).tdiv (2 : Int)).toNat l).mergeSort leI)[i_1.toNat]! ≤ ((List.drop ((↑l.length : Int).tdiv (2 : Int)).toNat l).mergeSort leI)[j_2.toNat]!))) }), (20, { tell := some (.b (decide (j_2 = (↑((List.drop ((↑l.length : Int).tdiv (2 : Int)).toNat l).mergeSort leI).length : Int) ∨ i_1 < (↑((List.take ((↑l.length : Int).tdiv (2 : Int)).toNat l).mergeSort leI).length : Int) ∧ ((List.take ((↑l.length : Int).tdiv (2 : Int)).toNat l).mergeSort leI)[i_1.toNat]! ≤ ((List.drop ((↑l.length : Int).tdiv (2 : Int)).toNat l).mergeSort leI)[j_2.toNat]!))) })] [3, 4, 5, 6, 7, 59] [28] ⟨(told_len c3 ((List.drop ((↑l.length : Int).tdiv (2 : Int)).toNat l).mergeSort leI)), (told_false h_15), (told_len c3 ((List.take ((↑l.length : Int).tdiv (2 : Int)).toNat l).mergeSort leI)), (told_true h_16), (by (with_reducible assumption)), (by (with_reducible refine get_map ?_; omega)), (by kernel_rfl), (by (with_reducible assumption)), ?g15, (by kernel_rfl), (by kernel_rfl), (by simp only [eq_false h_15, eq_true h_16, told_simp1, told_simp2, and_true, true_and, and_false, false_and, or_true, true_or, or_false, false_or, not_true_eq_false, not_false_eq_true, decide_true, decide_false, Bool.decide_eq_true])⟩ ?_; rotate_left 1
  exact ⟨rfl, by kernel_rfl⟩
  refine ra (A := _ ∧ _ ∧ _ ∧ _ ∧ (AV.b false = AV.b (decide (j_2 = (↑((List.drop ((↑l.length : Int).tdiv (2 : Int)).toNat l).mergeSort leI).length : Int) ∨ i_1 < (↑((List.take ((↑l.length : Int).tdiv (2 : Int)).toNat l).mergeSort leI).length : Int) ∧ ((List.take ((↑l.length : Int).tdiv (2 : Int)).toNat l).mergeSort leI)[i_1.toNat]! ≤ ((List.drop ((↑l.length : Int).tdiv (2 : Int)).toNat l).mergeSort leI)[j_2.toNat]!)))) cx [(2, { tell := some (.i .i64 ((↑((List.drop ((↑l.length : Int).tdiv (2 : Int)).toNat l).mergeSort leI).length : Int))) }), (3, { tell := some (.b (false)) }), (7, { tell := some (.i .i64 ((↑((List.take ((↑l.length : Int).tdiv (2 : Int)).toNat l).mergeSort leI).length : Int))) }), (8, { tell := some (.b (false)) }), (20, { tell := some (.b (decide (j_2 = (↑((List.drop ((↑l.length : Int).tdiv (2 : Int)).toNat l).mergeSort leI).length : Int) ∨ i_1 < (↑((List.take ((↑l.length : Int).tdiv (2 : Int)).toNat l).mergeSort leI).length : Int) ∧ ((List.take ((↑l.length : Int).tdiv (2 : Int)).toNat l).mergeSort leI)[i_1.toNat]! ≤ ((List.drop ((↑l.length : Int).tdiv (2 : Int)).toNat l).mergeSort leI)[j_2.toNat]!))) })] [3, 4, 5, 6, 7, 59] [28] ⟨(told_len c3 ((List.drop ((↑l.length : Int).tdiv (2 : Int)).toNat l).mergeSort leI)), (told_false h_15), (told_len c3 ((List.take ((↑l.length : Int).tdiv (2 : Int)).toNat l).mergeSort leI)), (told_false h_16), (by simp only [eq_false h_15, eq_false h_16, told_simp1, told_simp2, and_true, true_and, and_false, false_and, or_true, true_or, or_false, false_or, not_true_eq_false, not_false_eq_true, decide_true, decide_false, Bool.decide_eq_true])⟩ ?_
  exact ⟨rfl, by kernel_rfl⟩
  refine sn ?_
  refine st_dec (j_2 = (↑((List.drop ((↑l.length : Int).tdiv (2 : Int)).toNat l).mergeSort leI).length : Int) ∨ i_1 < (↑((List.take ((↑l.length : Int).tdiv (2 : Int)).toNat l).mergeSort leI).length : Int) ∧ ((List.take ((↑l.length : Int).tdiv (2 : Int)).toNat l).mergeSort leI)[i_1.toNat]! ≤ ((List.drop ((↑l.length : Int).tdiv (2 : Int)).toNat l).mergeSort leI)[j_2.toNat]!) (by kernel_rfl) (by kernel_rfl) (fun h_17 => ?_) (fun h_17 => ?_)
  refine sq ?_
  refine rg (A := ((0 : Int) ≤ i_1) ∧ ((List.map c3 ((List.take ((↑l.length : Int).tdiv (2 : Int)).toNat l).mergeSort leI))[i_1.toNat]? = some (c3 ((List.take ((↑l.length : Int).tdiv (2 : Int)).toNat l).mergeSort leI)[i_1.toNat]!)) ∧ ((c3 ((List.take ((↑l.length : Int).tdiv (2 : Int)).toNat l).mergeSort leI)[i_1.toNat]!).length = (1 : Nat)) ∧ (3 = (3 : Nat)) ∧ ((1 : Nat) = 1) ∧ ([AV.i IntKind.i64 (0 : Int)].length = (1 : Nat)) ∧ (∀ (r : List AV), r ∈ List.map c3 [((List.take ((↑l.length : Int).tdiv (2 : Int)).toNat l).mergeSort leI)[i_1.toNat]!] → r.length = 1) ∧ ((List.map c3 s_3).length + (List.map c3 [((List.take ((↑l.length : Int).tdiv (2 : Int)).toNat l).mergeSort leI)[i_1.toNat]!]).length ≤ maxLen) ∧ (((List.map c3 s_3).length + (List.map c3 [((List.take ((↑l.length : Int).tdiv (2 : Int)).toNat l).mergeSort leI)[i_1.toNat]!]).length) * (8 : Nat) ≤ (140737488355328 : Nat)) ∧ (List.map c3 s_3 ++ List.map c3 [((List.take ((↑l.length : Int).tdiv (2 : Int)).toNat l).mergeSort leI)[i_1.toNat]!] = List.map c3 (s_3 ++ [((List.take ((↑l.length : Int).tdiv (2 : Int)).toNat l).mergeSort leI)[i_1.toNat]!]))) cx [(3, { row := (c3 ((List.take ((↑l.length : Int).tdiv (2 : Int)).toNat l).mergeSort leI)[i_1.toNat]!) }), (6, { rows := some (List.map c3 (s_3 ++ [((List.take ((↑l.length : Int).tdiv (2 : Int)).toNat l).mergeSort leI)[i_1.toNat]!])) })] [3, 4, 5, 6, 7] [28] ⟨(by (with_reducible assumption)), (by (with_reducible refine get_map ?_; omega)), (by kernel_rfl), (by kernel_rfl), (by kernel_rfl), (by kernel_rfl), (by (with_reducible refine len_map (fun _ => ?_) _; kernel_rfl)), ?g16, ?g17, (by (with_reducible refine app_map ?_; kernel_rfl))⟩ ?_; rotate_left 2
  refine sn ?_
  refine rg (A := (AV.i IntKind.i64 (IntKind.i64.wrap (i_1 + (1 : Int))) = AV.i IntKind.i64 (i_1 + (1 : Int)))) cx [(1, { tell := some (.i .i64 (i_1 + (1 : Int))) })] [3, 4, 5, 6, 7] [28] (told_i64 (by omega) ?g18) ?_; rotate_left 1
  refine q_blk_normal ?_
  refine sn ?_
  refine loop_next ((i_1 + (1 : Int), j_2, s_3 ++ [((List.take ((↑l.length : Int).tdiv (2 : Int)).toNat l).mergeSort leI)[i_1.toNat]!])) (by kernel_rfl) (show ((↑(hA l).length : Int) + (↑(hB l).length : Int) - (i_1 + (1 : Int)) - j_2).toNat < ((↑(hA l).length : Int) + (↑(hB l).length : Int) - i_1 - j_2).toNat from ?g19) (show inv37 (hA l) (hB l) (i_1 + (1 : Int)) j_2 (s_3 ++ [((List.take ((↑l.length : Int).tdiv (2 : Int)).toNat l).mergeSort leI)[i_1.toNat]!]) from ?g20); rotate_left 2
  refine sq ?_
  refine rg (A := ((0 : Int) ≤ j_2) ∧ ((List.map c3 ((List.drop ((↑l.length : Int).tdiv (2 : Int)).toNat l).mergeSort leI))[j_2.toNat]? = some (c3 ((List.drop ((↑l.length : Int).tdiv (2 : Int)).toNat l).mergeSort leI)[j_2.toNat]!)) ∧ ((c3 ((List.drop ((↑l.length : Int).tdiv (2 : Int)).toNat l).mergeSort leI)[j_2.toNat]!).length = (1 : Nat)) ∧ (3 = (3 : Nat)) ∧ ((1 : Nat) = 1) ∧ ([AV.i IntKind.i64 (0 : Int)].length = (1 : Nat)) ∧ (∀ (r : List AV), r ∈ List.map c3 [((List.drop ((↑l.length : Int).tdiv (2 : Int)).toNat l).mergeSort leI)[j_2.toNat]!] → r.length = 1) ∧ ((List.map c3 s_3).length + (List.map c3 [((List.drop ((↑l.length : Int).tdiv (2 : Int)).toNat l).mergeSort leI)[j_2.toNat]!]).length ≤ maxLen) ∧ (((List.map c3 s_3).length + (List.map c3 [((List.drop ((↑l.length : Int).tdiv (2 : Int)).toNat l).mergeSort leI)[j_2.toNat]!]).length) * (8 : Nat) ≤ (140737488355328 : Nat)) ∧ (List.map c3 s_3 ++ List.map c3 [((List.drop ((↑l.length : Int).tdiv (2 : Int)).toNat l).mergeSort leI)[j_2.toNat]!] = List.map c3 (s_3 ++ [((List.drop ((↑l.length : Int).tdiv (2 : Int)).toNat l).mergeSort leI)[j_2.toNat]!]))) cx [(3, { row := (c3 ((List.drop ((↑l.length : Int).tdiv (2 : Int)).toNat l).mergeSort leI)[j_2.toNat]!) }), (6, { rows := some (List.map c3 (s_3 ++ [((List.drop ((↑l.length : Int).tdiv (2 : Int)).toNat l).mergeSort leI)[j_2.toNat]!])) })] [3, 4, 5, 6, 7] [28] ⟨(by (with_reducible assumption)), ?g21, (by kernel_rfl), (by kernel_rfl), (by kernel_rfl), (by kernel_rfl), (by (with_reducible refine len_map (fun _ => ?_) _; kernel_rfl)), ?g22, ?g23, (by (with_reducible refine app_map ?_; kernel_rfl))⟩ ?_; rotate_left 3
  refine sn ?_
  refine rg (A := (AV.i IntKind.i64 (IntKind.i64.wrap (j_2 + (1 : Int))) = AV.i IntKind.i64 (j_2 + (1 : Int)))) cx [(1, { tell := some (.i .i64 (j_2 + (1 : Int))) })] [3, 4, 5, 6, 7] [28] (told_i64 (by omega) ?g24) ?_; rotate_left 1
  refine q_blk_normal ?_
  refine sn ?_
  refine loop_next ((i_1, j_2 + (1 : Int), s_3 ++ [((List.drop ((↑l.length : Int).tdiv (2 : Int)).toNat l).mergeSort leI)[j_2.toNat]!])) (by kernel_rfl) (show ((↑(hA l).length : Int) + (↑(hB l).length : Int) - i_1 - (j_2 + (1 : Int))).toNat < ((↑(hA l).length : Int) + (↑(hB l).length : Int) - i_1 - j_2).toNat from ?g25) (show inv37 (hA l) (hB l) i_1 (j_2 + (1 : Int)) (s_3 ++ [((List.drop ((↑l.length : Int).tdiv (2 : Int)).toNat l).mergeSort leI)[j_2.toNat]!]) from ?g26); rotate_left 2
  refine st_exit 0 (by kernel_rfl) ?_
  refine q_seq_exit ?_
  refine q_seq_exit ?_
  refine q_blk_hit ?_
  refine sn ?_
  refine sq ?_
  refine rg (A := True) cx [] [2] [28] trivial ?_
  refine sn ?_
  refine st_ret (by kernel_rfl) ?_
  refine q_ret (r := .sl (List.map c3 s_3)) (obl := []) (by kernel_rfl) trivial (AVle.eq (show AV.sl (List.map c3 s_3) = AV.sl (List.map c3 (l.mergeSort leI)) from ?g27)); rotate_left 1
  revert h_0; rotate_left
  revert h_0; rotate_left
  revert h_0; rotate_left
  revert h_0; rotate_left
  revert h_0; rotate_left
  revert h_0; rotate_left
  revert h_0; rotate_left
  revert h_0; rotate_left
  revert h_0; rotate_left
  revert h_0; rotate_left
  revert h_0; rotate_left
  revert h_0; rotate_left
  revert h_0; rotate_left
  revert h_0; rotate_left
  revert h_0; rotate_left
  revert h_0 i_1 j_2 s_3 h_5 h_6 h_7 h_8 h_9 h_10 h_13 h_15 h_16; rotate_left
  revert h_0 i_1 j_2 s_3 h_5 h_6 h_7 h_8 h_9 h_10 h_13 h_17; rotate_left
  revert h_0 i_1 j_2 s_3 h_5 h_6 h_7 h_8 h_9 h_10 h_13 h_17; rotate_left
  revert h_0 i_1 j_2 s_3 h_5 h_6 h_7 h_8 h_9 h_10 h_13 h_17; rotate_left
  revert h_0 i_1 j_2 s_3 h_5 h_6 h_7 h_8 h_9 h_10 h_13 h_17; rotate_left
  revert h_0 i_1 j_2 s_3 h_5 h_6 h_7 h_8 h_9 h_10 h_13 h_17; rotate_left
  revert h_0 i_1 j_2 s_3 h_5 h_6 h_7 h_8 h_9 h_10 h_13 h_17; rotate_left
  revert h_0 i_1 j_2 s_3 h_5 h_6 h_7 h_8 h_9 h_10 h_13 h_17; rotate_left
  revert h_0 i_1 j_2 s_3 h_5 h_6 h_7 h_8 h_9 h_10 h_13 h_17; rotate_left
  revert h_0 i_1 j_2 s_3 h_5 h_6 h_7 h_8 h_9 h_10 h_13 h_17; rotate_left
  revert h_0 i_1 j_2 s_3 h_5 h_6 h_7 h_8 h_9 h_10 h_13 h_17; rotate_left
  revert h_0 i_1 j_2 s_3 h_5 h_6 h_7 h_8 h_9 h_10 h_13 h_17; rotate_left
  revert h_0 i_1 j_2 s_3 h_5 h_6 h_7 h_8 h_9 h_10 h_13; rotate_left
  case g0 => intro h; rw [srt_short h]; rfl
  case g1 => intro h; omega
  case g2 => intro h; omega
  case g3 => intro h; omega
  case g4 => intro h; rw [List.length_map]; omega
  case g5 => intro h; show (List.take ((l.length : Int).tdiv 2).toNat l).length < n; rw [List.length_take]; omega
  case g6 => intro h; show (List.take ((l.length : Int).tdiv 2).toNat l).length * 8 ≤ 140737488351232; rw [List.length_take]; omega
  case g7 => intro h; omega
  case g8 => intro h; omega
  case g9 => intro h; omega
  case g10 => intro h; show _ ≤ ((List.map c3 l).length : Int); rw [List.length_map]; omega
  case g11 => intro h; exact Int.le_refl _
  case g12 => intro h; rw [List.length_drop]; omega
  case g13 => intro h; rw [List.length_drop]; omega
  case g14 => intro h; exact ⟨by omega, by omega, by omega, by omega, rfl, rfl⟩
  case g15 => intro h i j s k0 k1 k2 k3 k4 k5 k6 k7 k8; exact get_map (xs := hB l) (by have : ¬ j = (hB l).length := k7; omega)
  case g16 => intro h i j s k0 k1 k2 k3 k4 k5 k6 k7; simp only [List.length_map, List.length_cons, List.length_nil, Go.maxLen]; omega
  case g17 => intro h i j s k0 k1 k2 k3 k4 k5 k6 k7; simp only [List.length_map, List.length_cons, List.length_nil]; omega
  case g18 => intro h i j s k0 k1 k2 k3 k4 k5 k6 k7; omega
  case g19 => intro h i j s k0 k1 k2 k3 k4 k5 k6 k7; have k6' : i < (hA l).length ∨ j < (hB l).length := k6; have k7' : j = (hB l).length ∨ i < (hA l).length ∧ (hA l)[i.toNat]! ≤ (hB l)[j.toNat]! := k7; omega
  case g20 =>
    intro h i j s k0 k1 k2 k3 k4 k5 k6 k7
    have k6' : i < (hA l).length ∨ j < (hB l).length := k6
    have k7' : j = (hB l).length ∨ i < (hA l).length ∧ (hA l)[i.toNat]! ≤ (hB l)[j.toNat]! := k7
    have hi : i < (hA l).length := by omega
    refine ⟨by omega, by omega, by omega, by omega, by rw [List.length_append]; simp only [List.length_cons, List.length_nil]; omega, mrgL k0 hi k2 ?_ k5⟩
    by_cases e : j = (hB l).length
    · exact .inl e
    · exact .inr ⟨by omega, (k7'.resolve_left e).2⟩
  case g21 => intro h i j s k0 k1 k2 k3 k4 k5 k6 k7; have k6' : i < (hA l).length ∨ j < (hB l).length := k6; have k7' : ¬ (j = (hB l).length ∨ i < (hA l).length ∧ (hA l)[i.toNat]! ≤ (hB l)[j.toNat]!) := k7; exact get_map (xs := hB l) (by omega)
  case g22 => intro h i j s k0 k1 k2 k3 k4 k5 k6 k7; simp only [List.length_map, List.length_cons, List.length_nil, Go.maxLen]; omega
  case g23 => intro h i j s k0 k1 k2 k3 k4 k5 k6 k7; simp only [List.length_map, List.length_cons, List.length_nil]; omega
  case g24 => intro h i j s k0 k1 k2 k3 k4 k5 k6 k7; omega
  case g25 => intro h i j s k0 k1 k2 k3 k4 k5 k6 k7; have k6' : i < (hA l).length ∨ j < (hB l).length := k6; have k7' : ¬ (j = (hB l).length ∨ i < (hA l).length ∧ (hA l)[i.toNat]! ≤ (hB l)[j.toNat]!) := k7; omega
  case g26 =>
    intro h i j s k0 k1 k2 k3 k4 k5 k6 k7
    have k6' : i < (hA l).length ∨ j < (hB l).length := k6
    have k7' : ¬ (j = (hB l).length ∨ i < (hA l).length ∧ (hA l)[i.toNat]! ≤ (hB l)[j.toNat]!) := k7
    have hj : j < (hB l).length := by omega
    refine ⟨by omega, by omega, by omega, by omega, by rw [List.length_append]; simp only [List.length_cons, List.length_nil]; omega, mrgR k0 k2 hj ?_ k5⟩
    by_cases e : i < (hA l).length
    · exact .inr ⟨e, fun k => k7' (.inr ⟨e, k⟩)⟩
    · exact .inl e
  case g27 =>
    intro h i j s k0 k1 k2 k3 k4 k5 k6
    have k6' : ¬ (i < (hA l).length ∨ j < (hB l).length) := k6
    rw [mrgE (fun k => k6' (.inl k)) (fun k => k6' (.inr k)) k5]
theorem con_srt : ∀ (n : Nat) (l : List Int), l.length ≤ n → l.length * 8 ≤ 140737488351232 → Con Try.prog 139 [.sl (l.map c3)] (.sl ((l.mergeSort leI).map c3))
  | 0, l, h, hb => con139_r l 0 h (fun m hm => by omega) hb
  | n + 1, l, h, hb => con139_r l (n + 1) h (fun m hm hb' => con_srt n m (by omega) hb') hb
theorem con139 (l : List Int) (hb : l.length * 8 ≤ 140737488351232) : Con Try.prog 139 [.sl (l.map c3)] (.sl ((l.mergeSort leI).map c3)) := con_srt l.length l (Nat.le_refl _) hb
end Go.Proofs.Ytjngmlkaijpbgaa
namespace Go.Proofs.Ytjngmlkaijpbgaa
open Go.E
set_option maxRecDepth 100000
set_option maxHeartbeats 4000000
def cntI (l : List Int) (n : Int) : Nat := l.countP (fun x => decide (x ≤ n))
def turnsR (l : List Run) : List Int := l.flatMap fun r => [r.lo, r.hi + 1]
def sw : List Int → List Int → Nat → List Int
  | [], [], _ => []
  | [], b :: B, d => (if d = 1 then [b] else []) ++ sw [] B (d - 1)
  | a :: A, [], d => (if d = 0 then [a] else []) ++ sw A [] (d + 1)
  | a :: A, b :: B, d => if a ≤ b then (if d = 0 then [a] else []) ++ sw A (b :: B) (d + 1) else (if d = 1 then [b] else []) ++ sw (a :: A) B (d - 1)
termination_by A B _ => A.length + B.length
theorem cnt_nil (n : Int) : cntI [] n = 0 := rfl
theorem cnt_cons (a : Int) (l : List Int) (n : Int) : cntI (a :: l) n = cntI l n + if a ≤ n then 1 else 0 := by
  unfold cntI
  rw [List.countP_cons]
  by_cases h : a ≤ n <;> simp [h]
theorem cnt_zero {l : List Int} {n : Int} (h : ∀ x ∈ l, n < x) : cntI l n = 0 := by
  unfold cntI
  rw [List.countP_eq_zero]
  intro x hx
  have := h x hx
  simp
  omega
theorem cnt_len (l : List Int) (n : Int) : cntI l n ≤ l.length := List.countP_le_length
structure VW (A B : List Int) (d : Nat) : Prop where
  sA : A.Pairwise (fun x y => x ≤ y)
  sB : B.Pairwise (fun x y => x ≤ y)
  len : d + A.length = B.length
  cov : ∀ n : Int, cntI B (n + 1) ≤ d + cntI A n
theorem VW.in_ {a b : Int} {A B : List Int} {d : Nat} (h : VW (a :: A) (b :: B) d) (hab : a ≤ b) : VW A (b :: B) (d + 1) := by
  refine ⟨(List.pairwise_cons.1 h.sA).2, h.sB, by have := h.len; simp only [List.length_cons] at *; omega, fun n => ?_⟩
  have := h.cov n
  rw [cnt_cons a A] at this
  split at this <;> omega
theorem VW.pos {a b : Int} {A B : List Int} {d : Nat} (h : VW (a :: A) (b :: B) d) (hab : b < a) : 1 ≤ d := by
  have h1 := h.cov (b - 1)
  have h2 := (List.pairwise_cons.1 h.sA).1
  rw [show b - 1 + 1 = b by omega, cnt_cons b B, if_pos (Int.le_refl b)] at h1
  rw [cnt_zero (l := a :: A) fun x hx => by
    rcases List.mem_cons.1 hx with rfl | hx
    · omega
    · have := h2 x hx; omega] at h1
  omega
theorem VW.out {a b : Int} {A B : List Int} {d : Nat} (h : VW (a :: A) (b :: B) d) (hab : b < a) : VW (a :: A) B (d - 1) := by
  have hp := h.pos hab
  have hB := List.pairwise_cons.1 h.sB
  refine ⟨h.sA, hB.2, by have := h.len; simp only [List.length_cons] at *; omega, fun n => ?_⟩
  have := h.cov n
  rw [cnt_cons b B] at this
  by_cases e : b ≤ n + 1
  · rw [if_pos e] at this; omega
  · rw [cnt_zero (l := B) fun x hx => by have := hB.1 x hx; omega]
    omega
theorem VW.end_ {b : Int} {B : List Int} {d : Nat} (h : VW [] (b :: B) d) : 1 ≤ d ∧ VW [] B (d - 1) := by
  have hl := h.len
  simp only [List.length_cons, List.length_nil] at hl
  have hB := List.pairwise_cons.1 h.sB
  exact ⟨by omega, h.sA, hB.2, by simp only [List.length_nil]; omega, fun n => by have := cnt_len B (n + 1); omega⟩
theorem VW.strict {a b : Int} {A B : List Int} (h : VW (a :: A) (b :: B) 0) : a < b := by
  have h1 := h.cov (a - 1)
  have h2 := (List.pairwise_cons.1 h.sA).1
  rw [show a - 1 + 1 = a by omega, cnt_zero (l := a :: A) fun x hx => by
    rcases List.mem_cons.1 hx with rfl | hx
    · omega
    · have := h2 x hx; omega, cnt_cons b B] at h1
  by_cases e : b ≤ a
  · rw [if_pos e] at h1; omega
  · omega
def SwZ (A B : List Int) : Prop := ∃ R : List Run, sw A B 0 = turnsR R ∧ R.Pairwise (fun x y => x.hi + 1 < y.lo) ∧ (∀ r ∈ R, r.lo ≤ r.hi ∧ r.lo ∈ A ∧ r.hi + 1 ∈ B) ∧ ∀ n, inR R n ↔ cntI B n < cntI A n
def SwP (A B : List Int) (d : Nat) : Prop := ∃ (x : Int) (R : List Run), sw A B d = x :: turnsR R ∧ x ∈ B ∧ R.Pairwise (fun x y => x.hi + 1 < y.lo) ∧ (∀ r ∈ R, x < r.lo ∧ r.lo ≤ r.hi ∧ r.lo ∈ A ∧ r.hi + 1 ∈ B) ∧ ∀ n, (n < x ∨ inR R n) ↔ cntI B n < d + cntI A n
theorem sw_main : ∀ (k : Nat) (A B : List Int) (d : Nat), A.length + B.length = k → VW A B d → (d = 0 → SwZ A B) ∧ (0 < d → SwP A B d)
  | k, [], [], d, _, h => by
    have hd := h.len
    simp only [List.length_nil] at hd
    refine ⟨fun _ => ⟨[], ?_, List.Pairwise.nil, fun r hr => (by cases hr), fun n => ?_⟩, fun h0 => by omega⟩
    · rw [sw]; try rfl
    · rw [cnt_nil]; simp [inR]
  | k, a :: A, [], d, _, h => by have := h.len; simp only [List.length_cons, List.length_nil] at this; omega
  | 0, [], b :: B, d, hk, h => by simp only [List.length_cons] at hk; omega
  | 0, a :: A, b :: B, d, hk, h => by simp only [List.length_cons] at hk; omega
  | k + 1, [], b :: B, d, hk, h => by
    obtain ⟨hd, h'⟩ := h.end_
    have ih := sw_main k [] B (d - 1) (by simp only [List.length_cons, List.length_nil] at *; omega) h'
    have hB := List.pairwise_cons.1 h.sB
    have low : ∀ n : Int, n < b → cntI (b :: B) n = 0 ∧ cntI B n = 0 := fun n hn => by
      have : cntI B n = 0 := cnt_zero fun x hx => by have := hB.1 x hx; omega
      rw [cnt_cons, if_neg (by omega)]; omega
    refine ⟨fun h0 => by omega, fun _ => ?_⟩
    by_cases e : d = 1
    · obtain ⟨R, r1, r2, r3, r4⟩ := ih.1 (by omega)
      refine ⟨b, R, ?_, by simp, r2, fun r hr => absurd (r3 r hr).2.1 (by simp), fun n => ?_⟩
      · rw [sw, if_pos e, show d - 1 = 0 by omega, r1]; rfl
      · rw [r4 n, cnt_cons, cnt_nil]
        by_cases hn : b ≤ n
        · rw [if_pos hn]; omega
        · have := low n (by omega); rw [if_neg hn]; omega
    · obtain ⟨x, R, r1, r2, r3, r4, r5⟩ := ih.2 (by omega)
      refine ⟨x, R, ?_, by simp [r2], r3, fun r hr => absurd (r4 r hr).2.2.1 (by simp), fun n => ?_⟩
      · rw [sw, if_neg e, r1]; rfl
      · rw [r5 n, cnt_cons, cnt_nil]
        by_cases hn : b ≤ n
        · rw [if_pos hn]; omega
        · have := low n (by omega); rw [if_neg hn]; omega
  | k + 1, a :: A, b :: B, d, hk, h => by
    have hA := List.pairwise_cons.1 h.sA
    have hB := List.pairwise_cons.1 h.sB
    have lowA : ∀ n : Int, n < a → cntI (a :: A) n = 0 ∧ cntI A n = 0 := fun n hn => by
      have : cntI A n = 0 := cnt_zero fun x hx => by have := hA.1 x hx; omega
      rw [cnt_cons, if_neg (by omega)]; omega
    have lowB : ∀ n : Int, n < b → cntI (b :: B) n = 0 ∧ cntI B n = 0 := fun n hn => by
      have : cntI B n = 0 := cnt_zero fun x hx => by have := hB.1 x hx; omega
      rw [cnt_cons, if_neg (by omega)]; omega
    by_cases hab : a ≤ b
    · obtain ⟨x, R, r1, r2, r3, r4, r5⟩ := (sw_main k A (b :: B) (d + 1) (by simp only [List.length_cons] at *; omega) (h.in_ hab)).2 (by omega)
      have hx : b ≤ x := by
        rcases List.mem_cons.1 r2 with rfl | r2
        · omega
        · exact hB.1 x r2
      constructor
      · rintro rfl
        have hs := h.strict
        refine ⟨⟨a, x - 1⟩ :: R, ?_, List.pairwise_cons.2 ⟨fun r hr => ?_, r3⟩, fun r hr => ?_, fun n => ?_⟩
        · rw [sw, if_pos hab, if_pos rfl, r1]; simp [turnsR]
        · have := (r4 r hr).1; simp only; omega
        · rcases List.mem_cons.1 hr with rfl | hr
          · simp only; exact ⟨by omega, by simp, by rw [show x - 1 + 1 = x by omega]; exact r2⟩
          · have := r4 r hr; exact ⟨this.2.1, by simp [this.2.2.1], this.2.2.2⟩
        · have h5 := r5 n
          rw [inR_cons, cnt_cons a A]
          simp only
          by_cases hn : a ≤ n
          · rw [if_pos hn]
            constructor
            · rintro (g | g)
              · have := h5.1 (.inl (by omega)); omega
              · have := h5.1 (.inr g); omega
            · intro g
              rcases h5.2 (by omega) with g | g
              · exact .inl ⟨hn, by omega⟩
              · exact .inr g
          · rw [if_neg hn]
            have l1 := lowA n (by omega)
            constructor
            · rintro (g | ⟨r, hr, g1, g2⟩)
              · omega
              · have := hA.1 _ (r4 r hr).2.2.1; omega
            · intro g; omega
      · intro h0
        refine ⟨x, R, ?_, r2, r3, fun r hr => ?_, fun n => ?_⟩
        · rw [sw, if_pos hab, if_neg (by omega), r1]; rfl
        · have := r4 r hr; exact ⟨this.1, this.2.1, by simp [this.2.2.1], this.2.2.2⟩
        · rw [r5 n, cnt_cons a A]
          by_cases hn : a ≤ n
          · rw [if_pos hn]; omega
          · have l1 := lowA n (by omega)
            have l2 := lowB n (by omega)
            rw [if_neg hn]; omega
    · have hd := h.pos (by omega)
      have ih := sw_main k (a :: A) B (d - 1) (by simp only [List.length_cons] at *; omega) (h.out (by omega))
      refine ⟨fun h0 => by omega, fun _ => ?_⟩
      by_cases e : d = 1
      · obtain ⟨R, r1, r2, r3, r4⟩ := ih.1 (by omega)
        refine ⟨b, R, ?_, by simp, r2, fun r hr => ?_, fun n => ?_⟩
        · rw [sw, if_neg hab, if_pos e, show d - 1 = 0 by omega, r1]; rfl
        · have := r3 r hr
          refine ⟨?_, this.1, this.2.1, by simp [this.2.2]⟩
          rcases List.mem_cons.1 this.2.1 with g | g
          · omega
          · have := hA.1 _ g; omega
        · rw [r4 n, cnt_cons b B]
          by_cases hn : b ≤ n
          · rw [if_pos hn]; omega
          · have := lowB n (by omega); rw [if_neg hn]; omega
      · obtain ⟨x, R, r1, r2, r3, r4, r5⟩ := ih.2 (by omega)
        refine ⟨x, R, ?_, by simp [r2], r3, fun r hr => ?_, fun n => ?_⟩
        · rw [sw, if_neg hab, if_neg e, r1]; rfl
        · have := r4 r hr; exact ⟨this.1, this.2.1, this.2.2.1, by simp [this.2.2.2]⟩
        · rw [r5 n, cnt_cons b B]
          by_cases hn : b ≤ n
          · rw [if_pos hn]; omega
          · have := lowB n (by omega); have := lowA n (by omega); rw [if_neg hn]; omega
def insR (l : List Run) : List Int := (keepR l).map fun r => r.lo
def outsR (l : List Run) : List Int := (keepR l).map fun r => r.hi + 1
def insS (l : List Run) : List Int := (insR l).mergeSort leI
def outsS (l : List Run) : List Int := (outsR l).mergeSort leI
theorem leI_sorted (l : List Int) : (l.mergeSort leI).Pairwise (fun x y => x ≤ y) := by
  have := List.pairwise_mergeSort leI_tr leI_to l
  exact this.imp fun h => by simpa [leI] using h
theorem cnt_sort (l : List Int) (n : Int) : cntI (l.mergeSort leI) n = cntI l n := (List.mergeSort_perm l leI).countP_eq _
theorem countP_lt {α : Type} {p q : α → Bool} : ∀ {l : List α}, (∀ x ∈ l, p x = true → q x = true) → (l.countP p < l.countP q ↔ ∃ x ∈ l, q x = true ∧ ¬ p x = true)
  | [], _ => by simp
  | x :: l, h => by
    have ih := countP_lt (p := p) (q := q) (l := l) fun y hy => h y (by simp [hy])
    have hle := List.countP_mono_left (l := l) (p := p) (q := q) fun y hy => h y (by simp [hy])
    have hx := h x (by simp)
    rw [List.countP_cons, List.countP_cons]
    have ex : (∃ y ∈ x :: l, q y = true ∧ ¬ p y = true) ↔ (q x = true ∧ ¬ p x = true) ∨ ∃ y ∈ l, q y = true ∧ ¬ p y = true := by simp
    rw [ex, ← ih]
    by_cases h1 : p x = true
    · have h2 := hx h1
      rw [if_pos h1, if_pos h2]
      constructor
      · intro g; exact .inr (by omega)
      · rintro (g | g)
        · exact absurd h1 g.2
        · omega
    · by_cases h2 : q x = true
      · rw [if_neg h1, if_pos h2]
        constructor
        · intro _; exact .inl ⟨h2, h1⟩
        · intro _; omega
      · rw [if_neg h1, if_neg h2]
        constructor
        · intro g; exact .inr (by omega)
        · rintro (g | g)
          · exact absurd g.1 h2
          · omega
theorem keep_in (l : List Run) (n : Int) : inR (keepR l) n ↔ 1 ≤ n ∧ n ≤ 1000000000 ∧ inR l n := by
  constructor
  · rintro ⟨r, hr, h1, h2⟩
    unfold keepR at hr
    obtain ⟨hr, _⟩ := List.mem_filter.1 hr
    obtain ⟨x, hx, rfl⟩ := List.mem_map.1 hr
    simp only [clipR] at h1 h2
    exact ⟨by omega, by omega, x, hx, by omega, by omega⟩
  · rintro ⟨h1, h2, x, hx, h3, h4⟩
    refine ⟨clipR x, ?_, ?_, ?_⟩
    · unfold keepR
      refine List.mem_filter.2 ⟨List.mem_map.2 ⟨x, hx, rfl⟩, ?_⟩
      show decide ((clipR x).lo ≤ (clipR x).hi) = true
      rw [decide_eq_true_iff]
      show max x.lo 1 ≤ min x.hi 1000000000
      omega
    · simp only [clipR]; omega
    · simp only [clipR]; omega
theorem cnt_ins (l : List Run) (n : Int) : cntI (insS l) n = (keepR l).countP fun r => decide (r.lo ≤ n) := by
  unfold insS insR
  rw [cnt_sort, cntI, List.countP_map]
  rfl
theorem cnt_outs (l : List Run) (n : Int) : cntI (outsS l) n = (keepR l).countP fun r => decide (r.hi + 1 ≤ n) := by
  unfold outsS outsR
  rw [cnt_sort, cntI, List.countP_map]
  rfl
theorem sweep_ok (l : List Run) : VW (insS l) (outsS l) 0 := by
  refine ⟨leI_sorted _, leI_sorted _, ?_, fun n => ?_⟩
  · unfold insS outsS insR outsR
    rw [List.length_mergeSort, List.length_mergeSort]
    simp
  · rw [cnt_ins, cnt_outs, Nat.zero_add]
    refine List.countP_mono_left fun r hr h => ?_
    have := keep_good r hr
    unfold good1 at this
    simp only [decide_eq_true_eq] at *
    omega
/-- What the sweep finds: where one gets into and out of the set in form. -/
theorem sweep_nrm (l : List Run) : sw (insS l) (outsS l) 0 = turnsR (nrm l) := by
  obtain ⟨R, r1, r2, r3, r4⟩ := (sw_main _ _ _ _ rfl (sweep_ok l)).1 rfl
  rw [r1]
  congr 1
  have bd : ∀ r ∈ R, 1 ≤ r.lo ∧ r.hi ≤ 1000000000 := fun r hr => by
    obtain ⟨_, h1, h2⟩ := r3 r hr
    have h1 := (List.mergeSort_perm _ _).subset h1
    have h2 := (List.mergeSort_perm _ _).subset h2
    obtain ⟨x, hx, ex⟩ := List.mem_map.1 h1
    obtain ⟨y, hy, ey⟩ := List.mem_map.1 h2
    have gx := keep_good x hx
    have gy := keep_good y hy
    unfold good1 okR at gx gy
    omega
  refine sep_unique ⟨r2, fun r hr => ?_⟩ (nrm_sep l) fun n => ?_
  · have := bd r hr; have := (r3 r hr).1; omega
  · rw [r4 n, nrm_in, cnt_ins, cnt_outs, ← keep_in, countP_lt fun r hr h => by
      have := keep_good r hr
      unfold good1 at this
      simp only [decide_eq_true_eq] at *
      omega]
    unfold inR
    constructor
    · rintro ⟨r, hr, h1, h2⟩
      simp only [decide_eq_true_eq] at h1 h2
      exact ⟨r, hr, h1, by omega⟩
    · rintro ⟨r, hr, h1, h2⟩
      exact ⟨r, hr, by simp only [decide_eq_true_eq]; exact h1, by simp only [decide_eq_true_eq]; omega⟩
end Go.Proofs.Ytjngmlkaijpbgaa
