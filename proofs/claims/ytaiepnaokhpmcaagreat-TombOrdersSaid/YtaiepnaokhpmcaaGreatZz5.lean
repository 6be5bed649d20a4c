/- Rf: the document's Form. Conditions: the runs are in form. Rg: the document's Norm, Of, IsNorm. Conditions: sizes. Pm: span.Meet, others, Minus; past.Minus, Join. Conditions: sizes. Rm: the document's combine, Minus, Join, Size, Empty. Conditions: sizes. Rn: the document's Compare, Next, Within. Conditions: sizes. La: lines: entries in form. Conditions: none. Kr: records in the documents. Conditions: sizes. Ta: the act layer's document: entries, records, facts in form. Conditions: sizes. -/
import Derived.Below
import Derived.OwnWalk
import Derived.WalkKit
import Derived.KernelRfl
import Derived.Laws.MakeOwn
import Derived.Laws.OwnMore
import Derived.Laws.Slices
import Derived.Laws.CopyOwn
import Derived.Laws.AppendOwnNone
import Derived.Laws.Rows
import Derived.Orders
import Derived.Test.YtaiepnaokhpmcaaGreatProg
import Derived.DataReads
import Derived.ChangeOld
import Derived.DataElems
import Derived.SizedLaws
import Derived.ChangeKeysEq
import Derived.Sort.LotA
import Derived.Shelf.SlSortFuncK.RowK2
import Derived.Shelf.SlSortCmp.NoneTotal
import Derived.Lib.Walk
import Derived.Shelf.SlLaysE0
import Derived.Shelf.RegionOpenPlain
import Derived.Deep.LoopGhost
import Derived.Lib.SliceRun
import Derived.Lib.Bytealg
import Derived.Test.YtaiepnaokhpmcaaGreatZz4
set_option linter.unusedVariables false
set_option linter.unusedSimpArgs false
namespace Go.Proofs.YtaiepnaokhpmcaaGreat
open Go.E
set_option maxRecDepth 100000
set_option maxHeartbeats 4000000
def invFa (U : Nat → List Run) (n r:Int) (S : Nat → List Int) (v : List Int) (c : List Span) : Prop := S = tnS U ∧ 0 ≤ r ∧ r ≤ 16 ∧ 0 ≤ n ∧ n ≤ r ∧ v.length = 16 ∧ isSz U r n ∧ isVec U r v ∧ isCloud U r c
def decFa (n r:Int) (S : Nat → List Int) (v : List Int) (c : List Span) : Nat := (16 - r).toNat
def isIn (U : Nat → List Run) (r n0:Int) (v0 : List Int) (c0 : List Span) (k n:Int) (v : List Int) (c : List Span) : Prop :=
 n = (if 0 < (leadR ((U r.toNat).take (k / 2).toNat)).1 then r + 1 else n0) ∧ v = v0.set r.toNat (leadR ((U r.toNat).take (k / 2).toNat)).1 ∧ c = c0 ++ (leadR ((U r.toNat).take (k / 2).toNat)).2.map fun x => (⟨r, x.lo, x.hi⟩ : Span)
def invFb (U : Nat → List Run) (r n0:Int) (v0 : List Int) (c0 : List Span) (n k:Int) (S : Nat → List Int) (v : List Int) (c : List Span) : Prop := S = tnS U ∧ 0 ≤ k ∧ k ≤ 2 * (U r.toNat).length ∧ 2 * (k / 2) = k ∧ v.length = 16 ∧ 0 ≤ n ∧ n ≤ r + 1 ∧ isIn U r n0 v0 c0 k n v c
def decFb (U : Nat → List Run) (r:Int) (n k:Int) (S : Nat → List Int) (v : List Int) (c : List Span) : Nat := (2 * (U r.toNat).length - k).toNat
theorem turns_len (l : List Run) : (turnsR l).length = 2 * l.length := by
 induction l with
 | nil => rfl
 | cons r l ih =>
  have : turnsR (r :: l) = r.lo :: (r.hi + 1) :: turnsR l := rfl
  rw [this]; simp only [List.length_cons, ih]; omega
theorem turns_at : ∀ {l : List Run} {j : Nat}, j < l.length → (turnsR l)[2 * j]! = l[j]!.lo ∧ (turnsR l)[2 * j + 1]! = l[j]!.hi + 1
 | r :: l, 0, _ => ⟨rfl, rfl⟩
 | r :: l, j + 1, h => by
  have e : turnsR (r :: l) = r.lo :: (r.hi + 1) :: turnsR l := rfl
  have ih := turns_at (l := l) (j := j) (by simpa using h)
  rw [e, show 2 * (j + 1) = 2 * j + 1 + 1 by omega]
  simpa using ih
theorem lead_one {x : Run} (h : x.lo = 1) : leadR [x] = (x.hi, []) := by
 unfold leadR
 rw [if_neg]
 ·rfl
 ·rintro (k | k)
  ·cases k
  ·exact k h
theorem lead_snoc {P : List Run} {x : Run} (h : P = [] → ¬ x.lo = 1) : leadR (P ++ [x]) = ((leadR P).1, (leadR P).2 ++ [x]) := by
 cases P with
 | nil =>
  show leadR [x] = _
  unfold leadR
  rw [if_pos (.inr (h rfl)), if_pos (.inl rfl)]
  rfl
 | cons y P =>
  unfold leadR
  by_cases hy : y.lo = 1
  ·rw [if_neg, if_neg]
   ·simp
   ·simpa using hy
   ·simpa using hy
  ·rw [if_pos, if_pos]
   ·simpa using hy
   ·simpa using hy
theorem lead_len (P : List Run) : (leadR P).2.length ≤ P.length := by
 unfold leadR
 split
 ·exact Nat.le_refl _
 ·simp
theorem isIn_start {U : Nat → List Run} {r n0 : Int} {v0 : List Int} {c0 : List Span} (h0 : 0 ≤ r) (h1 : r < 16) (hv : isVec U r v0) : isIn U r n0 v0 c0 0 n0 v0 c0 := by
 unfold isIn
 refine ⟨?_, ?_, ?_⟩
 ·show n0 = if (0:Int) < (leadR []).1 then _ else _
  rw [lead_nil, if_neg (by omega)]
 ·show v0 = v0.set r.toNat (leadR []).1
  rw [lead_nil]
  unfold isVec vecT at hv
  have e : 16 - r.toNat = (15 - r.toNat) + 1 := by omega
  rw [hv, List.set_append_right _ _ (by simp), List.length_map, List.length_range, Nat.sub_self, e, List.replicate_succ, List.set_cons_zero]
 ·show c0 = c0 ++ List.map _ (leadR []).2
  rw [lead_nil]; simp
theorem take_at {l : List Run} {k : Int} (h0 : 0 ≤ k) (he : 2 * (k / 2) = k) (hk : k + 1 < 2 * l.length) : l.take ((k + 2) / 2).toNat = l.take (k / 2).toNat ++ [l[(k / 2).toNat]!] := by
 have := take_step (a := l) (i := k / 2) (by omega) (by omega)
 rw [show ((k + 2) / 2).toNat = (k / 2 + 1).toNat by omega, this]
theorem isIn_one {U : Nat → List Run} {r n0 n k : Int} {v0 v : List Int} {c0 c : List Span} (hU : sepR (U r.toNat)) (h0 : 0 ≤ k) (he : 2 * (k / 2) = k) (hk : k + 1 < 2 * (U r.toNat).length) (hlo : (U r.toNat)[(k / 2).toNat]!.lo = 1) (h : isIn U r n0 v0 c0 k n v c) :
  isIn U r n0 v0 c0 (k + 2) (r + 1) (v.set r.toNat (U r.toNat)[(k / 2).toNat]!.hi) c := by
 have h1 := sepR_lo hU (k / 2).toNat (by omega)
 have h2 := hU.2 _ (bang_in (l := U r.toNat) (i := (k / 2).toNat) (by omega))
 have hz : k = 0 := by omega
 subst hz
 unfold isIn at *
 rw [take_at h0 he hk]
 obtain ⟨a1, a2, a3⟩ := h
 have e : (U r.toNat).take ((0:Int) / 2).toNat = [] := by simp
 rw [e] at a1 a2 a3 ⊢
 rw [List.nil_append, lead_one hlo]
 rw [lead_nil] at a2 a3
 refine ⟨?_, ?_, ?_⟩
 ·rw [if_pos (show (0:Int) < (U r.toNat)[((0:Int) / 2).toNat]!.hi by omega)]
 ·rw [a2, List.set_set]
 ·exact a3
theorem isIn_snoc {U : Nat → List Run} {r n0 n k : Int} {v0 v : List Int} {c0 c : List Span} (h0 : 0 ≤ k) (he : 2 * (k / 2) = k) (hk : k + 1 < 2 * (U r.toNat).length) (hlo : ¬ (U r.toNat)[(k / 2).toNat]!.lo = 1) (h : isIn U r n0 v0 c0 k n v c) :
  isIn U r n0 v0 c0 (k + 2) n v (c ++ [⟨r, (U r.toNat)[(k / 2).toNat]!.lo, (U r.toNat)[(k / 2).toNat]!.hi⟩]) := by
 unfold isIn at *
 rw [take_at h0 he hk, lead_snoc (fun _ => hlo)]
 obtain ⟨a1, a2, a3⟩ := h
 refine ⟨a1, a2, ?_⟩
 rw [a3, List.map_append, List.append_assoc]
 rfl
theorem isIn_end {U : Nat → List Run} {r n0 n k : Int} {v0 v : List Int} {c0 c : List Span} (hU : sepR (U r.toNat)) (r0 : 0 ≤ r) (r1 : r < 16) (hs : isSz U r n0) (hv : isVec U r v0) (hc : isCloud U r c0) (h0 : 0 ≤ k) (he : 2 * (k / 2) = k) (hk : ¬ k + 1 < 2 * (U r.toNat).length) (hl : k ≤ 2 * (U r.toNat).length)
  (h : isIn U r n0 v0 c0 k n v c) : isSz U (r + 1) n ∧ isVec U (r + 1) v ∧ isCloud U (r + 1) c := by
 unfold isIn at h
 rw [List.take_of_length_le (by omega)] at h
 obtain ⟨a1, a2, a3⟩ := h
 have g1 := sz_next r0 hs
 have g2 := vec_next r0 r1 hv
 rw [nrm_id hU] at g1 g2
 rw [a1, a2]
 refine ⟨g1, g2, ?_⟩
 unfold isCloud at *
 rw [show (r + 1).toNat = r.toNat + 1 by omega, cloudT, restT, nrm_id hU, a3, hc, show ((r.toNat:Nat):Int) = r by omega]
theorem tn_at {U : Nat → List Run} {r k : Int} (h0 : 0 ≤ k) (he : 2 * (k / 2) = k) (hk : k + 1 < 2 * (U r.toNat).length) : (tnS U r.toNat)[k.toNat]! = (U r.toNat)[(k / 2).toNat]!.lo ∧ (tnS U r.toNat)[(k + 1).toNat]! = (U r.toNat)[(k / 2).toNat]!.hi + 1 := by
 have := turns_at (l := U r.toNat) (j := (k / 2).toNat) (by omega)
 unfold tnS
 rw [show k.toNat = 2 * (k / 2).toNat by omega, show (k + 1).toNat = 2 * (k / 2).toNat + 1 by omega]
 exact this
theorem isIn_len {U : Nat → List Run} {r n0 n k : Int} {v0 v : List Int} {c0 c : List Span} (hU : sepR (U r.toNat)) (r0 : 0 ≤ r) (r1 : r < 16) (hc : isCloud U r c0) (h : isIn U r n0 v0 c0 k n v c) : c.length ≤ 8000000000 := by
 obtain ⟨_, _, a3⟩ := h
 have h1 := cloud_len U r.toNat
 have h2 := lead_len ((U r.toNat).take (k / 2).toNat)
 have h3 := sepR_len hU
 unfold isCloud at hc
 rw [List.length_take] at h2
 rw [a3, List.length_append, List.length_map, hc]
 omega
theorem con109 (U : Nat → List Run) (hU : ∀ r : Nat, r < 16 → sepR (U r)) : Con Tryz.prog 109 [.agg (c122 (tnS U))] (.agg (c26 (tabP U))) :=
  by
  refine st_con tab_ok (by kernel_rfl) [.cell 2 26] 73 Go.Proofs.Tryz.func109 (by kernel_rfl) (by kernel_rfl) ?_
  intro e0 cx
  refine sq ?_
  refine rg (A := True) cx [] [1, 2] [1, 2] trivial ?_
  refine sn (sq ?_)
  refine rg (A := True) cx [] [1, 2, 3] [1, 2, 3] trivial ?_
  refine sn (sq ?_)
  refine rg (A := ((16:Int) = (↑(16:Nat):Int)) ∧ ((16:Int) = (↑(16:Nat):Int)) ∧ ((8:Nat) * (16:Nat) ≤ (281474976710656:Nat)) ∧ ((16:Nat) ≤ maxLen) ∧ ([AV.i .i64 (0:Int)].length = (1:Nat)) ∧ (ZLe [AV.i .i64 (0:Int)] [AV.i .i64 (0:Int)]) ∧ (List.replicate (16:Nat) [AV.i .i64 (0:Int)] = List.map c3 (List.replicate (16:Nat) (0:Int)))) cx [(0, { row := [.i .i64 ((0:Int))], rows := some (List.map c3 (List.replicate (16:Nat) (0:Int))), n := (16:Nat) })] [1, 2, 3, 4] [1, 2, 3, 8] ⟨(by kernel_rfl), (by kernel_rfl), (by omega), (by (simp only [Go.maxLen]; omega)), (by kernel_rfl), (by (with_reducible exact ZLe.refl _)), (by (with_reducible refine rep_map ?_; kernel_rfl))⟩ ?_
  refine sn (sq ?_)
  refine rg (A := True) cx [] [1, 2, 3, 4, 5] [1, 2, 3, 8] trivial ?_
  refine sn (sq ?_)
  refine sq ?_
  refine rg (A := True) cx [] [1, 2, 3, 4, 5, 6] [1, 2, 3, 8] trivial ?_
  refine sn ?_
  refine st_block 0 (by kernel_rfl) ?_
  refine awp_cellIn 3 104 3 1 5301 (σ' := ⟨[(1, .ptr (1) (0) (0) (0)), (2, .ptr (2) (0) (0) (0)), (3, .ptr (3) (0) (0) (0)), (4, .own 8 0), (5, .i .i64 ((0:Int))), (6, .i .i64 ((0:Int)))], [(1, ⟨0, 122, .var [.sl (List.map c3 (tnS U (0))), .sl (List.map c3 (tnS U (1))), .sl (List.map c3 (tnS U (2))), .sl (List.map c3 (tnS U (3))), .sl (List.map c3 (tnS U (4))), .sl (List.map c3 (tnS U (5))), .sl (List.map c3 (tnS U (6))), .sl (List.map c3 (tnS U (7))), .sl (List.map c3 (tnS U (8))), .sl (List.map c3 (tnS U (9))), .sl (List.map c3 (tnS U (10))), .sl (List.map c3 (tnS U (11))), .sl (List.map c3 (tnS U (12))), .sl (List.map c3 (tnS U (13))), .sl (List.map c3 (tnS U (14))), .sl (List.map c3 (tnS U (15)))]⟩), (2, ⟨0, 26, .var [.nl, .nl]⟩), (3, ⟨0, 26, .var [.nl, .own 5301 0]⟩), (8, ⟨0, 3, .row 1 (List.map c3 (List.replicate (16:Nat) (0:Int)))⟩), (5301, ⟨0, 104, .row 3 (List.map c104 [])⟩)]⟩) (by kernel_rfl) ?_
  refine awp_varArr 1 ⟨0, 122, .var [.sl (List.map c3 (tnS U (0))), .sl (List.map c3 (tnS U (1))), .sl (List.map c3 (tnS U (2))), .sl (List.map c3 (tnS U (3))), .sl (List.map c3 (tnS U (4))), .sl (List.map c3 (tnS U (5))), .sl (List.map c3 (tnS U (6))), .sl (List.map c3 (tnS U (7))), .sl (List.map c3 (tnS U (8))), .sl (List.map c3 (tnS U (9))), .sl (List.map c3 (tnS U (10))), .sl (List.map c3 (tnS U (11))), .sl (List.map c3 (tnS U (12))), .sl (List.map c3 (tnS U (13))), .sl (List.map c3 (tnS U (14))), .sl (List.map c3 (tnS U (15)))]⟩ [.sl (List.map c3 (tnS U (0))), .sl (List.map c3 (tnS U (1))), .sl (List.map c3 (tnS U (2))), .sl (List.map c3 (tnS U (3))), .sl (List.map c3 (tnS U (4))), .sl (List.map c3 (tnS U (5))), .sl (List.map c3 (tnS U (6))), .sl (List.map c3 (tnS U (7))), .sl (List.map c3 (tnS U (8))), .sl (List.map c3 (tnS U (9))), .sl (List.map c3 (tnS U (10))), .sl (List.map c3 (tnS U (11))), .sl (List.map c3 (tnS U (12))), .sl (List.map c3 (tnS U (13))), .sl (List.map c3 (tnS U (14))), .sl (List.map c3 (tnS U (15)))] (tabC c3 (16:Nat) (tnS U)) (σ' := ⟨[(1, .ptr (1) (0) (0) (0)), (2, .ptr (2) (0) (0) (0)), (3, .ptr (3) (0) (0) (0)), (4, .own 8 0), (5, .i .i64 ((0:Int))), (6, .i .i64 ((0:Int)))], [(1, ⟨0, 122, .arr (tabC c3 (16:Nat) (tnS U))⟩), (2, ⟨0, 26, .var [.nl, .nl]⟩), (3, ⟨0, 26, .var [.nl, .own 5301 0]⟩), (8, ⟨0, 3, .row 1 (List.map c3 (List.replicate (16:Nat) (0:Int)))⟩), (5301, ⟨0, 104, .row 3 (List.map c104 [])⟩)]⟩) (by kernel_rfl) (by kernel_rfl) (by kernel_rfl) (by kernel_rfl) (ZLe.of_eq (by kernel_rfl)) (by kernel_rfl) ?_
  refine st_loop (X := Int × Int × (Nat → List Int) × List Int × List Span) (fun x => ⟨[(1, .ptr (1) (0) (0) (0)), (2, .ptr (2) (0) (0) (0)), (3, .ptr (3) (0) (0) (0)), (4, .own 8 0), (5, .i .i64 (x.fst)), (6, .i .i64 (x.snd.fst))], [(1, ⟨0, 122, .arr (tabC c3 (16:Nat) x.snd.snd.fst)⟩), (2, ⟨0, 26, .var [.nl, .nl]⟩), (3, ⟨0, 26, .var [.nl, .own 5301 0]⟩), (8, ⟨0, 3, .row 1 (List.map c3 x.snd.snd.snd.fst)⟩), (5301, ⟨0, 104, .row 3 (List.map c104 x.snd.snd.snd.snd)⟩)]⟩) (fun x ↦ decFa x.fst x.snd.fst x.snd.snd.fst x.snd.snd.snd.fst x.snd.snd.snd.snd) (fun x ↦ invFa U x.fst x.snd.fst x.snd.snd.fst x.snd.snd.snd.fst x.snd.snd.snd.snd) [1, 2, 3, 4, 5, 6] [1, 2, 3, 8, 5301] (((0:Int), (0:Int), tnS U, List.replicate (16:Nat) (0:Int), [])) (by kernel_rfl) (by kernel_rfl) (show invFa U (0:Int) (0:Int) (tnS U) (List.replicate (16:Nat) (0:Int)) [] from ?g0) ?_; rotate_left 1
  rintro ⟨n_0, r_1, S_2, v_3, c_4⟩ h_5
  obtain ⟨h_6, h_7, h_8, h_9, h_10, h_11, h_12, h_13, h_14⟩ : S_2 = tnS U ∧ (0:Int) ≤ r_1 ∧ r_1 ≤ (16:Int) ∧ (0:Int) ≤ n_0 ∧ n_0 ≤ r_1 ∧ v_3.length = (16:Nat) ∧ isSz U r_1 n_0 ∧ isVec U r_1 v_3 ∧ isCloud U r_1 c_4 := h_5
  refine sq ?_
  refine sq ?_
  refine rg (A := (AV.b (decide (r_1 < (16:Int))) = AV.b (decide (r_1 < (16:Int))))) cx [(1, { tell := some (.b (decide (r_1 < (16:Int)))) })] [1, 2, 3, 4, 5, 6, 10] [1, 2, 3, 8, 5301] (by kernel_rfl) ?_
  refine sn ?_
  refine st_dec (r_1 < (16:Int)) (by kernel_rfl) (by kernel_rfl) (fun h_15 => ?_) (fun h_15 => ?_)
  refine st_skip (by kernel_rfl) ?_
  refine sn (sq ?_)
  refine st_block 1 (by kernel_rfl) ?_
  refine sq ?_
  refine rg (A := True) cx [] [1, 2, 3, 4, 5, 6, 7] [1, 2, 3, 8, 5301] trivial ?_
  refine sn ?_
  refine st_block 2 (by kernel_rfl) ?_
  refine st_loop (X := Int × Int × (Nat → List Int) × List Int × List Span) (fun x => ⟨[(1, .ptr (1) (0) (0) (0)), (2, .ptr (2) (0) (0) (0)), (3, .ptr (3) (0) (0) (0)), (4, .own 8 0), (5, .i .i64 (x.fst)), (6, .i .i64 (r_1)), (7, .i .i64 (x.snd.fst))], [(1, ⟨0, 122, .arr (tabC c3 (16:Nat) x.snd.snd.fst)⟩), (2, ⟨0, 26, .var [.nl, .nl]⟩), (3, ⟨0, 26, .var [.nl, .own 5301 0]⟩), (8, ⟨0, 3, .row 1 (List.map c3 x.snd.snd.snd.fst)⟩), (5301, ⟨0, 104, .row 3 (List.map c104 x.snd.snd.snd.snd)⟩)]⟩) (fun x ↦ decFb U r_1 x.fst x.snd.fst x.snd.snd.fst x.snd.snd.snd.fst x.snd.snd.snd.snd) (fun x ↦ invFb U r_1 n_0 v_3 c_4 x.fst x.snd.fst x.snd.snd.fst x.snd.snd.snd.fst x.snd.snd.snd.snd) [1, 2, 3, 4, 5, 6, 7] [1, 2, 3, 8, 5301] ((n_0, (0:Int), S_2, v_3, c_4)) (by kernel_rfl) (by kernel_rfl) (show invFb U r_1 n_0 v_3 c_4 n_0 (0:Int) S_2 v_3 c_4 from ?g1) ?_; rotate_left 1
  rintro ⟨n_16, k_17, S_18, v_19, c_20⟩ h_21
  obtain ⟨h_22, h_23, h_24, h_25, h_26, h_27, h_28, h_29⟩ : S_18 = tnS U ∧ (0:Int) ≤ k_17 ∧ k_17 ≤ (2:Int) * (↑(U r_1.toNat).length:Int) ∧ (2:Int) * (k_17 / (2:Int)) = k_17 ∧ v_19.length = (16:Nat) ∧ (0:Int) ≤ n_16 ∧ n_16 ≤ r_1 + (1:Int) ∧ isIn U r_1 n_0 v_3 c_4 k_17 n_16 v_19 c_20 := h_21
  refine sq ?_
  refine sq ?_
  refine rg (A := (AV.i .i64 (IntKind.i64.wrap (k_17 + (1:Int))) = AV.i .i64 (k_17 + (1:Int))) ∧ ((0:Int) ≤ r_1) ∧ (r_1 < (↑(16:Nat):Int)) ∧ ((tabC c3 (16:Nat) S_18)[r_1.toNat * (1:Nat) + 0]? = some (AV.sl (List.map c3 (S_18 r_1.toNat)))) ∧ _ ∧ (AV.b (decide (k_17 + (1:Int) < (↑(S_18 r_1.toNat).length:Int))) = AV.b (decide (k_17 + (1:Int) < (↑(S_18 r_1.toNat).length:Int))))) cx [(1, { tell := some (.i .i64 (k_17 + (1:Int))) }), (5, { row := [.sl (List.map c3 (S_18 r_1.toNat))] }), (6, { tell := some (.i .i64 ((↑(S_18 r_1.toNat).length:Int))) }), (7, { tell := some (.b (decide (k_17 + (1:Int) < (↑(S_18 r_1.toNat).length:Int)))) })] [1, 2, 3, 4, 5, 6, 7, 20] [1, 2, 3, 8, 5301] ⟨(told_i64 (by omega) ?g2), (by (with_reducible assumption)), (by omega), (by (simp only [Nat.mul_one, Nat.add_zero, Nat.zero_add]; with_reducible refine get_tabC ?_; omega)), (told_len c3 (S_18 r_1.toNat)), (by kernel_rfl)⟩ ?_; rotate_left 1
  refine sn ?_
  refine st_dec (k_17 + (1:Int) < (↑(S_18 r_1.toNat).length:Int)) (by kernel_rfl) (by kernel_rfl) (fun h_30 => ?_) (fun h_30 => ?_)
  refine st_skip (by kernel_rfl) ?_
  refine sn (sq ?_)
  refine st_block 3 (by kernel_rfl) ?_
  refine sq ?_
  refine rg (A := ((0:Int) ≤ r_1) ∧ (r_1 < (↑(16:Nat):Int)) ∧ ((tabC c3 (16:Nat) S_18)[r_1.toNat * (1:Nat) + 0]? = some (AV.sl (List.map c3 (S_18 r_1.toNat)))) ∧ ((0:Int) ≤ k_17) ∧ ((List.map c3 (S_18 r_1.toNat))[k_17.toNat]? = some (c3 (S_18 r_1.toNat)[k_17.toNat]!)) ∧ ((c3 (S_18 r_1.toNat)[k_17.toNat]!).length = (1:Nat)) ∧ (AV.b ((S_18 r_1.toNat)[k_17.toNat]! == (1:Int)) = AV.b (decide ((S_18 r_1.toNat)[k_17.toNat]! = (1:Int))))) cx [(3, { row := [.sl (List.map c3 (S_18 r_1.toNat))] }), (5, { row := (c3 (S_18 r_1.toNat)[k_17.toNat]!) }), (7, { tell := some (.b (decide ((S_18 r_1.toNat)[k_17.toNat]! = (1:Int)))) })] [1, 2, 3, 4, 5, 6, 7, 30] [1, 2, 3, 8, 5301] ⟨(by (with_reducible assumption)), (by omega), (by (simp only [Nat.mul_one, Nat.add_zero, Nat.zero_add]; with_reducible refine get_tabC ?_; omega)), (by (with_reducible assumption)), (by (with_reducible refine get_map ?_; omega)), (by kernel_rfl), (by kernel_rfl)⟩ ?_
  refine sn ?_
  refine st_dec ((S_18 r_1.toNat)[k_17.toNat]! = (1:Int)) (by kernel_rfl) (by kernel_rfl) (fun h_31 => ?_) (fun h_31 => ?_)
  refine sq ?_
  refine rg (A := ((0:Int) ≤ r_1) ∧ (r_1 < (↑(16:Nat):Int)) ∧ ((tabC c3 (16:Nat) S_18)[r_1.toNat * (1:Nat) + 0]? = some (AV.sl (List.map c3 (S_18 r_1.toNat)))) ∧ (AV.i .i64 (IntKind.i64.wrap (k_17 + (1:Int))) = AV.i .i64 (k_17 + (1:Int))) ∧ ((0:Int) ≤ k_17 + (1:Int)) ∧ ((List.map c3 (S_18 r_1.toNat))[(k_17 + (1:Int)).toNat]? = some (c3 (S_18 r_1.toNat)[(k_17 + (1:Int)).toNat]!)) ∧ ((c3 (S_18 r_1.toNat)[(k_17 + (1:Int)).toNat]!).length = (1:Nat)) ∧ (AV.i .i64 (IntKind.i64.wrap ((S_18 r_1.toNat)[(k_17 + (1:Int)).toNat]! - (1:Int))) = AV.i .i64 ((S_18 r_1.toNat)[(k_17 + (1:Int)).toNat]! - (1:Int))) ∧ ((0:Int) ≤ r_1) ∧ (r_1.toNat < (List.map c3 v_19).length) ∧ ((1:Nat) = 1) ∧ ((List.map c3 v_19)[r_1.toNat]? = some (c3 v_19[r_1.toNat]!)) ∧ ((cellsA (AV.i .i64 ((S_18 r_1.toNat)[(k_17 + (1:Int)).toNat]! - (1:Int)))).length = (1:Nat)) ∧ (0 + (1:Nat) ≤ 1) ∧ ((List.map c3 v_19).set r_1.toNat (List.take (0) (c3 v_19[r_1.toNat]!) ++ cellsA (AV.i .i64 ((S_18 r_1.toNat)[(k_17 + (1:Int)).toNat]! - (1:Int))) ++ List.drop (0 + (1:Nat)) (c3 v_19[r_1.toNat]!)) = List.map c3 (v_19.set r_1.toNat ((S_18 r_1.toNat)[(k_17 + (1:Int)).toNat]! - (1:Int))))) cx [(5, { row := [.sl (List.map c3 (S_18 r_1.toNat))] }), (7, { tell := some (.i .i64 (k_17 + (1:Int))) }), (8, { row := (c3 (S_18 r_1.toNat)[(k_17 + (1:Int)).toNat]!) }), (10, { tell := some (.i .i64 ((S_18 r_1.toNat)[(k_17 + (1:Int)).toNat]! - (1:Int))) }), (12, { row := (c3 v_19[r_1.toNat]!), rows := some (List.map c3 (v_19.set r_1.toNat ((S_18 r_1.toNat)[(k_17 + (1:Int)).toNat]! - (1:Int)))) })] [1, 2, 3, 4, 6, 7] [1, 2, 3, 8, 5301] ⟨(by (with_reducible assumption)), (by omega), (by (simp only [Nat.mul_one, Nat.add_zero, Nat.zero_add]; with_reducible refine get_tabC ?_; omega)), (told_i64 (by omega) ?g3), (by omega), (by (with_reducible refine get_map ?_; omega)), (by kernel_rfl), (told_i64 ?g4 ?g5), (by (with_reducible assumption)), (by (first | omega | (simp only [List.length_map]; omega))), (by kernel_rfl), (by (with_reducible refine get_map ?_; omega)), (by kernel_rfl), (by (first | omega | (simp only [List.length_map]; omega))), (by (with_reducible refine set_map ?_; kernel_rfl))⟩ ?_; rotate_left 3
  refine sn ?_
  refine rg (A := (AV.i .i64 (IntKind.i64.wrap (r_1 + (1:Int))) = AV.i .i64 (r_1 + (1:Int)))) cx [(1, { tell := some (.i .i64 (r_1 + (1:Int))) })] [1, 2, 3, 4, 6, 7, 5] [1, 2, 3, 8, 5301] (told_i64 (by omega) (by omega)) ?_
  refine q_blk_normal ?_
  refine sn ?_
  refine rg (A := (AV.i .i64 (IntKind.i64.wrap (k_17 + (2:Int))) = AV.i .i64 (k_17 + (2:Int)))) cx [(1, { tell := some (.i .i64 (k_17 + (2:Int))) })] [1, 2, 3, 4, 6, 7, 5] [1, 2, 3, 8, 5301] (told_i64 (by omega) ?g6) ?_; rotate_left 1
  refine sn ?_
  refine loop_next ((r_1 + (1:Int), k_17 + (2:Int), S_18, v_19.set r_1.toNat ((S_18 r_1.toNat)[(k_17 + (1:Int)).toNat]! - (1:Int)), c_20)) (by kernel_rfl) (show ((2:Int) * (↑(U r_1.toNat).length:Int) - (k_17 + (2:Int))).toNat < ((2:Int) * (↑(U r_1.toNat).length:Int) - k_17).toNat from ?g7) (show invFb U r_1 n_0 v_3 c_4 (r_1 + (1:Int)) (k_17 + (2:Int)) S_18 (v_19.set r_1.toNat ((S_18 r_1.toNat)[(k_17 + (1:Int)).toNat]! - (1:Int))) c_20 from ?g8); rotate_left 2
  refine ra (A := ((0:Int) ≤ r_1) ∧ (r_1 < (↑(16:Nat):Int)) ∧ ((tabC c3 (16:Nat) S_18)[r_1.toNat * (1:Nat) + 0]? = some (AV.sl (List.map c3 (S_18 r_1.toNat)))) ∧ ((0:Int) ≤ k_17) ∧ ((List.map c3 (S_18 r_1.toNat))[k_17.toNat]? = some (c3 (S_18 r_1.toNat)[k_17.toNat]!)) ∧ ((c3 (S_18 r_1.toNat)[k_17.toNat]!).length = (1:Nat)) ∧ ((0:Int) ≤ r_1) ∧ (r_1 < (↑(16:Nat):Int)) ∧ ((tabC c3 (16:Nat) S_18)[r_1.toNat * (1:Nat) + 0]? = some (AV.sl (List.map c3 (S_18 r_1.toNat)))) ∧ (AV.i .i64 (IntKind.i64.wrap (k_17 + (1:Int))) = AV.i .i64 (k_17 + (1:Int))) ∧ ((0:Int) ≤ k_17 + (1:Int)) ∧ ((List.map c3 (S_18 r_1.toNat))[(k_17 + (1:Int)).toNat]? = some (c3 (S_18 r_1.toNat)[(k_17 + (1:Int)).toNat]!)) ∧ ((c3 (S_18 r_1.toNat)[(k_17 + (1:Int)).toNat]!).length = (1:Nat)) ∧ (AV.i .i64 (IntKind.i64.wrap ((S_18 r_1.toNat)[(k_17 + (1:Int)).toNat]! - (1:Int))) = AV.i .i64 ((S_18 r_1.toNat)[(k_17 + (1:Int)).toNat]! - (1:Int))) ∧ (104 = (104:Nat)) ∧ ((3:Nat) = 3) ∧ ([AV.i .i64 (0:Int), AV.i .i64 (0:Int), AV.i .i64 (0:Int)].length = (3:Nat)) ∧ (∀ (r : List AV), r ∈ List.map c104 [{ rep := r_1, lo := (S_18 r_1.toNat)[k_17.toNat]!, hi := (S_18 r_1.toNat)[(k_17 + (1:Int)).toNat]! - (1:Int) : Span }] → r.length = 3) ∧ ((List.map c104 c_20).length + (List.map c104 [{ rep := r_1, lo := (S_18 r_1.toNat)[k_17.toNat]!, hi := (S_18 r_1.toNat)[(k_17 + (1:Int)).toNat]! - (1:Int) : Span }]).length ≤ maxLen) ∧ (((List.map c104 c_20).length + (List.map c104 [{ rep := r_1, lo := (S_18 r_1.toNat)[k_17.toNat]!, hi := (S_18 r_1.toNat)[(k_17 + (1:Int)).toNat]! - (1:Int) : Span }]).length) * (24:Nat) ≤ (140737488355328:Nat)) ∧ (List.map c104 c_20 ++ List.map c104 [{ rep := r_1, lo := (S_18 r_1.toNat)[k_17.toNat]!, hi := (S_18 r_1.toNat)[(k_17 + (1:Int)).toNat]! - (1:Int) : Span }] = List.map c104 (c_20 ++ [{ rep := r_1, lo := (S_18 r_1.toNat)[k_17.toNat]!, hi := (S_18 r_1.toNat)[(k_17 + (1:Int)).toNat]! - (1:Int) : Span }]))) cx [(6, { row := [.sl (List.map c3 (S_18 r_1.toNat))] }), (8, { row := (c3 (S_18 r_1.toNat)[k_17.toNat]!) }), (13, { row := [.sl (List.map c3 (S_18 r_1.toNat))] }), (15, { tell := some (.i .i64 (k_17 + (1:Int))) }), (16, { row := (c3 (S_18 r_1.toNat)[(k_17 + (1:Int)).toNat]!) }), (18, { tell := some (.i .i64 ((S_18 r_1.toNat)[(k_17 + (1:Int)).toNat]! - (1:Int))) }), (21, { rows := some (List.map c104 (c_20 ++ [{ rep := r_1, lo := (S_18 r_1.toNat)[k_17.toNat]!, hi := (S_18 r_1.toNat)[(k_17 + (1:Int)).toNat]! - (1:Int) : Span }])) })] [1, 2, 3, 4, 5, 6, 7] [1, 2, 3, 8, 5301] ⟨(by (with_reducible assumption)), (by omega), (by (simp only [Nat.mul_one, Nat.add_zero, Nat.zero_add]; with_reducible refine get_tabC ?_; omega)), (by (with_reducible assumption)), (by (with_reducible refine get_map ?_; omega)), (by kernel_rfl), (by (with_reducible assumption)), (by omega), (by (simp only [Nat.mul_one, Nat.add_zero, Nat.zero_add]; with_reducible refine get_tabC ?_; omega)), (told_i64 (by omega) ?g9), (by omega), (by (with_reducible refine get_map ?_; omega)), (by kernel_rfl), (told_i64 ?g10 ?g11), (by kernel_rfl), (by kernel_rfl), (by kernel_rfl), (by (with_reducible refine len_map (fun _ => ?_) _; kernel_rfl)), ?g12, ?g13, (by (with_reducible refine app_map ?_; kernel_rfl))⟩ ?_; rotate_left 5
  refine q_blk_normal ?_
  refine sn ?_
  refine rg (A := (AV.i .i64 (IntKind.i64.wrap (k_17 + (2:Int))) = AV.i .i64 (k_17 + (2:Int)))) cx [(1, { tell := some (.i .i64 (k_17 + (2:Int))) })] [1, 2, 3, 4, 5, 6, 7] [1, 2, 3, 8, 5301] (told_i64 (by omega) ?g14) ?_; rotate_left 1
  refine sn ?_
  refine loop_next ((n_16, k_17 + (2:Int), S_18, v_19, c_20 ++ [{ rep := r_1, lo := (S_18 r_1.toNat)[k_17.toNat]!, hi := (S_18 r_1.toNat)[(k_17 + (1:Int)).toNat]! - (1:Int) : Span }])) (by kernel_rfl) (show ((2:Int) * (↑(U r_1.toNat).length:Int) - (k_17 + (2:Int))).toNat < ((2:Int) * (↑(U r_1.toNat).length:Int) - k_17).toNat from ?g15) (show invFb U r_1 n_0 v_3 c_4 n_16 (k_17 + (2:Int)) S_18 v_19 (c_20 ++ [{ rep := r_1, lo := (S_18 r_1.toNat)[k_17.toNat]!, hi := (S_18 r_1.toNat)[(k_17 + (1:Int)).toNat]! - (1:Int) : Span }]) from ?g16); rotate_left 2
  refine st_exit 2 (by kernel_rfl) ?_
  refine q_seq_exit ?_
  refine q_seq_exit ?_
  refine q_blk_hit ?_
  refine q_blk_normal ?_
  refine sn ?_
  refine rg (A := (AV.i .i64 (IntKind.i64.wrap (r_1 + (1:Int))) = AV.i .i64 (r_1 + (1:Int)))) cx [(1, { tell := some (.i .i64 (r_1 + (1:Int))) })] [1, 2, 3, 4, 5, 6] [1, 2, 3, 8, 5301] (told_i64 (by omega) (by omega)) ?_
  refine sn ?_
  refine loop_next ((n_16, r_1 + (1:Int), S_18, v_19, c_20)) (by kernel_rfl) (show ((16:Int) - (r_1 + (1:Int))).toNat < ((16:Int) - r_1).toNat from (by omega)) (show invFa U n_16 (r_1 + (1:Int)) S_18 v_19 c_20 from ?g17); rotate_left 1
  refine st_exit 0 (by kernel_rfl) ?_
  refine q_seq_exit ?_
  refine q_seq_exit ?_
  refine q_blk_hit ?_
  refine sn (sq ?_)
  refine rg (A := ((0:Int) ≤ (0:Int)) ∧ ((0:Int) ≤ n_0) ∧ (n_0 ≤ (↑(List.map c3 v_3).length:Int)) ∧ ((0:Int) < (↑(List.map c3 v_3).length:Int)) ∧ (Option.map TI.size (E.look tab (3:Nat)) = some (1))) cx [] [2, 3] [2, 3, 8, 5301] ⟨(by omega), (by (with_reducible assumption)), (by (first | omega | (simp only [List.length_map]; omega))), (by (first | omega | (simp only [List.length_map]; omega))), (by kernel_rfl)⟩ ?_
  refine sn (sq ?_)
  refine awp_norm [8, 5301] [2, 3] [2, 3] (σ' := ⟨[(2, .ptr (2) (0) (0) (0)), (3, .ptr (3) (0) (0) (0))], [(2, ⟨0, 26, .var [.nl, .nl]⟩), (3, ⟨0, 26, .var [.sl (List.take (n_0 - (0:Int)).toNat (List.drop (0) (List.map c3 v_3))), .sl (List.map c104 c_4)]⟩)]⟩) (by kernel_rfl) ?_
  refine rg (A := True) cx [] [2] [2] trivial ?_
  refine sn ?_
  refine st_ret (by kernel_rfl) ?_
  refine q_ret (r := .agg [.sl (List.take (n_0 - (0:Int)).toNat (List.drop (0) (List.map c3 v_3))), .sl (List.map c104 c_4)]) (obl := []) (by kernel_rfl) trivial (AVle.eq (show AV.agg [AV.sl (List.take (n_0 - (0:Int)).toNat (List.drop (0) (List.map c3 v_3))), AV.sl (List.map c104 c_4)] = AV.agg (c26 (tabP U)) from ?g18)); rotate_left 1
  rotate_left
  revert n_0 r_1 S_2 v_3 c_4 h_6 h_7 h_8 h_9 h_10 h_11 h_12 h_13 h_14 h_15; rotate_left
  revert n_0 r_1 S_2 v_3 c_4 h_6 h_7 h_8 h_9 h_10 h_11 h_12 h_13 h_14 h_15 n_16 k_17 S_18 v_19 c_20 h_22 h_23 h_24 h_25 h_26 h_27 h_28 h_29; rotate_left
  revert n_0 r_1 S_2 v_3 c_4 h_6 h_7 h_8 h_9 h_10 h_11 h_12 h_13 h_14 h_15 n_16 k_17 S_18 v_19 c_20 h_22 h_23 h_24 h_25 h_26 h_27 h_28 h_29 h_30 h_31; rotate_left
  revert n_0 r_1 S_2 v_3 c_4 h_6 h_7 h_8 h_9 h_10 h_11 h_12 h_13 h_14 h_15 n_16 k_17 S_18 v_19 c_20 h_22 h_23 h_24 h_25 h_26 h_27 h_28 h_29 h_30 h_31; rotate_left
  revert n_0 r_1 S_2 v_3 c_4 h_6 h_7 h_8 h_9 h_10 h_11 h_12 h_13 h_14 h_15 n_16 k_17 S_18 v_19 c_20 h_22 h_23 h_24 h_25 h_26 h_27 h_28 h_29 h_30 h_31; rotate_left
  revert n_0 r_1 S_2 v_3 c_4 h_6 h_7 h_8 h_9 h_10 h_11 h_12 h_13 h_14 h_15 n_16 k_17 S_18 v_19 c_20 h_22 h_23 h_24 h_25 h_26 h_27 h_28 h_29 h_30 h_31; rotate_left
  revert n_0 r_1 S_2 v_3 c_4 h_6 h_7 h_8 h_9 h_10 h_11 h_12 h_13 h_14 h_15 n_16 k_17 S_18 v_19 c_20 h_22 h_23 h_24 h_25 h_26 h_27 h_28 h_29 h_30 h_31; rotate_left
  revert n_0 r_1 S_2 v_3 c_4 h_6 h_7 h_8 h_9 h_10 h_11 h_12 h_13 h_14 h_15 n_16 k_17 S_18 v_19 c_20 h_22 h_23 h_24 h_25 h_26 h_27 h_28 h_29 h_30 h_31; rotate_left
  revert n_0 r_1 S_2 v_3 c_4 h_6 h_7 h_8 h_9 h_10 h_11 h_12 h_13 h_14 h_15 n_16 k_17 S_18 v_19 c_20 h_22 h_23 h_24 h_25 h_26 h_27 h_28 h_29 h_30 h_31; rotate_left
  revert n_0 r_1 S_2 v_3 c_4 h_6 h_7 h_8 h_9 h_10 h_11 h_12 h_13 h_14 h_15 n_16 k_17 S_18 v_19 c_20 h_22 h_23 h_24 h_25 h_26 h_27 h_28 h_29 h_30 h_31; rotate_left
  revert n_0 r_1 S_2 v_3 c_4 h_6 h_7 h_8 h_9 h_10 h_11 h_12 h_13 h_14 h_15 n_16 k_17 S_18 v_19 c_20 h_22 h_23 h_24 h_25 h_26 h_27 h_28 h_29 h_30 h_31; rotate_left
  revert n_0 r_1 S_2 v_3 c_4 h_6 h_7 h_8 h_9 h_10 h_11 h_12 h_13 h_14 h_15 n_16 k_17 S_18 v_19 c_20 h_22 h_23 h_24 h_25 h_26 h_27 h_28 h_29 h_30 h_31; rotate_left
  revert n_0 r_1 S_2 v_3 c_4 h_6 h_7 h_8 h_9 h_10 h_11 h_12 h_13 h_14 h_15 n_16 k_17 S_18 v_19 c_20 h_22 h_23 h_24 h_25 h_26 h_27 h_28 h_29 h_30 h_31; rotate_left
  revert n_0 r_1 S_2 v_3 c_4 h_6 h_7 h_8 h_9 h_10 h_11 h_12 h_13 h_14 h_15 n_16 k_17 S_18 v_19 c_20 h_22 h_23 h_24 h_25 h_26 h_27 h_28 h_29 h_30 h_31; rotate_left
  revert n_0 r_1 S_2 v_3 c_4 h_6 h_7 h_8 h_9 h_10 h_11 h_12 h_13 h_14 h_15 n_16 k_17 S_18 v_19 c_20 h_22 h_23 h_24 h_25 h_26 h_27 h_28 h_29 h_30 h_31; rotate_left
  revert n_0 r_1 S_2 v_3 c_4 h_6 h_7 h_8 h_9 h_10 h_11 h_12 h_13 h_14 h_15 n_16 k_17 S_18 v_19 c_20 h_22 h_23 h_24 h_25 h_26 h_27 h_28 h_29 h_30 h_31; rotate_left
  revert n_0 r_1 S_2 v_3 c_4 h_6 h_7 h_8 h_9 h_10 h_11 h_12 h_13 h_14 h_15 n_16 k_17 S_18 v_19 c_20 h_22 h_23 h_24 h_25 h_26 h_27 h_28 h_29 h_30; rotate_left
  revert n_0 r_1 S_2 v_3 c_4 h_6 h_7 h_8 h_9 h_10 h_11 h_12 h_13 h_14 h_15; rotate_left
  case g0 => exact ⟨rfl, by omega, by omega, by omega, by omega, by simp, rfl, by simp [isVec, vecT], rfl⟩
  case g1 => intro n r S v c h0 h1 h2 h3 h4 h5 h6 h7 h8 h9; exact ⟨h0, by omega, by omega, by omega, by omega, by omega, by omega, isIn_start h1 h9 h7⟩
  case g18 =>
    intro n r S v c h0 h1 h2 h3 h4 h5 h6 h7 h8 h9
    rw [tab_end h2 h9 h6 h7 h8]
    show AV.agg [AV.sl (List.take (n - 0).toNat (List.drop 0 (List.map c3 v))), AV.sl (List.map c104 c)] = _
    rw [List.drop_zero, Int.sub_zero, ← List.map_take]
    rfl
  all_goals
    intro n r S v c h0 h1 h2 h3 h4 h5 h6 h7 h8 h9 m k X w d k0 k1 k2 k3 k4 k5 k6 k7
    have hs := hU r.toNat (by omega)
    have hl := sepR_len hs
    have hd := isIn_len hs h1 h9 h8 k7
    have ht : (tnS U r.toNat).length = 2 * (U r.toNat).length := turns_len _
    subst k0
  case g17 =>
    intro k8
    rw [ht] at k8
    obtain ⟨a, b, e⟩ := isIn_end hs h1 h9 h6 h7 h8 k1 k3 (by omega) k2 k7
    exact ⟨rfl, by omega, by omega, by omega, by omega, k4, a, b, e⟩
  case g8 =>
    intro k8 k9
    rw [ht] at k8
    obtain ⟨e1, e2⟩ := tn_at (U := U) (r := r) k1 k3 (by omega)
    rw [e1] at k9
    rw [e2, Int.add_sub_cancel]
    exact ⟨rfl, by omega, by omega, by omega, by rw [List.length_set]; exact k4, by omega, by omega, isIn_one hs k1 k3 (by omega) k9 k7⟩
  case g16 =>
    intro k8 k9
    rw [ht] at k8
    obtain ⟨e1, e2⟩ := tn_at (U := U) (r := r) k1 k3 (by omega)
    rw [e1] at k9
    rw [e1, e2, Int.add_sub_cancel]
    exact ⟨rfl, by omega, by omega, by omega, k4, by omega, by omega, isIn_snoc k1 k3 (by omega) k9 k7⟩
  all_goals
    first
    | omega
    | (intro k8 k9
       rw [ht] at k8
       obtain ⟨e1, e2⟩ := tn_at (U := U) (r := r) k1 k3 (by omega)
       have hb := hs.2 _ (bang_in (l := U r.toNat) (i := (k / 2).toNat) (by omega))
       simp only [e2, List.length_map, List.length_cons, List.length_nil, Go.maxLen]
       omega)
end Go.Proofs.YtaiepnaokhpmcaaGreat
namespace Go.Proofs.YtaiepnaokhpmcaaGreat
open Go.E
set_option maxRecDepth 100000
set_option maxHeartbeats 4000000
theorem con100 (p : Past) (hb : p.cloud.length * 16 ≤ 140737488350000) : Con Tryz.prog 100 [.agg (c26 p)] (.agg (c122 (tnS (nrmT (openT [p]))))) :=
 by
 refine st_con tab_ok (by kernel_rfl) [.cell 2 122] 6 Go.Proofs.Tryz.func100 (by kernel_rfl) (by kernel_rfl) ?_
 intro e0 cx
 refine sq ?_
 refine rg (A := True) cx [] [1, 2] [1, 2] trivial ?_
 refine sn (sq ?_)
 refine rg (A := _) cx [(2, { val := some (.agg (tabC c3 (16:Nat) (tnS (nrmT (openT [p]))))) })] [2] [2] (con129 ([p]) ?g0) ?_; rotate_left 1
 refine sn ?_
 refine st_ret (by kernel_rfl) ?_
 refine q_ret (r := .agg [.sl (List.map c3 (tnS (nrmT (openT [p])) (0))), .sl (List.map c3 (tnS (nrmT (openT [p])) (1))), .sl (List.map c3 (tnS (nrmT (openT [p])) (2))), .sl (List.map c3 (tnS (nrmT (openT [p])) (3))), .sl (List.map c3 (tnS (nrmT (openT [p])) (4))), .sl (List.map c3 (tnS (nrmT (openT [p])) (5))), .sl (List.map c3 (tnS (nrmT (openT [p])) (6))), .sl (List.map c3 (tnS (nrmT (openT [p])) (7))), .sl (List.map c3 (tnS (nrmT (openT [p])) (8))), .sl (List.map c3 (tnS (nrmT (openT [p])) (9))), .sl (List.map c3 (tnS (nrmT (openT [p])) (10))), .sl (List.map c3 (tnS (nrmT (openT [p])) (11))), .sl (List.map c3 (tnS (nrmT (openT [p])) (12))), .sl (List.map c3 (tnS (nrmT (openT [p])) (13))), .sl (List.map c3 (tnS (nrmT (openT [p])) (14))), .sl (List.map c3 (tnS (nrmT (openT [p])) (15)))]) (obl := []) (by kernel_rfl) trivial (AVle.eq (show AV.agg [AV.sl (List.map c3 (tnS (nrmT (openT [p])) (0))), AV.sl (List.map c3 (tnS (nrmT (openT [p])) (1))), AV.sl (List.map c3 (tnS (nrmT (openT [p])) (2))), AV.sl (List.map c3 (tnS (nrmT (openT [p])) (3))), AV.sl (List.map c3 (tnS (nrmT (openT [p])) (4))), AV.sl (List.map c3 (tnS (nrmT (openT [p])) (5))), AV.sl (List.map c3 (tnS (nrmT (openT [p])) (6))), AV.sl (List.map c3 (tnS (nrmT (openT [p])) (7))), AV.sl (List.map c3 (tnS (nrmT (openT [p])) (8))), AV.sl (List.map c3 (tnS (nrmT (openT [p])) (9))), AV.sl (List.map c3 (tnS (nrmT (openT [p])) (10))), AV.sl (List.map c3 (tnS (nrmT (openT [p])) (11))), AV.sl (List.map c3 (tnS (nrmT (openT [p])) (12))), AV.sl (List.map c3 (tnS (nrmT (openT [p])) (13))), AV.sl (List.map c3 (tnS (nrmT (openT [p])) (14))), AV.sl (List.map c3 (tnS (nrmT (openT [p])) (15)))] = AV.agg (c122 (tnS (nrmT (openT [p])))) from ?g1)); rotate_left 1
 case g0 => exact (by rw [tot_one]; omega)
 case g1 => exact rfl
theorem con95 (p : Past) (hb : p.cloud.length * 16 ≤ 140737488350000) : Con Tryz.prog 95 [.agg (c26 p)] (.agg (c26 (normP p))) :=
 by
 refine st_con tab_ok (by kernel_rfl) [.cell 2 26] 6 Go.Proofs.Tryz.func95 (by kernel_rfl) (by kernel_rfl) ?_
 intro e0 cx
 refine sq ?_
 refine rg (A := True) cx [] [1, 2] [1, 2] trivial ?_
 refine sn (sq ?_)
 refine rg (A := _ ∧ _) cx [(1, { val := some (.agg (tabC c3 (16:Nat) (tnS (nrmT (openT [p]))))) }), (2, { val := some (.agg [.sl (List.map c3 (tabP (nrmT (openT [p]))).vec), .sl (List.map c104 (tabP (nrmT (openT [p]))).cloud)]) })] [2] [2] ⟨(con100 (p) (by (with_reducible assumption))), (con109 (nrmT (openT [p])) ?g0)⟩ ?_; rotate_left 1
 refine sn ?_
 refine st_ret (by kernel_rfl) ?_
 refine q_ret (r := .agg [.sl (List.map c3 (tabP (nrmT (openT [p]))).vec), .sl (List.map c104 (tabP (nrmT (openT [p]))).cloud)]) (obl := []) (by kernel_rfl) trivial (AVle.eq (show AV.agg [AV.sl (List.map c3 (tabP (nrmT (openT [p]))).vec), AV.sl (List.map c104 (tabP (nrmT (openT [p]))).cloud)] = AV.agg (c26 (normP p)) from ?g1)); rotate_left 1
 case g0 => exact (nrmT_sep _)
 case g1 => exact (by rw [tabP_nrm]; rfl)
theorem con84 (p : Past) (hb : p.cloud.length * 16 ≤ 140737488350000) (hv : p.vec.length ≤ 9223372036854775807) : Con Tryz.prog 84 [.agg (c26 p)] (.b (decide (p = normP p))) :=
 by
 refine st_con tab_ok (by kernel_rfl) [.tmp 2] 7 Go.Proofs.Tryz.func84 (by kernel_rfl) (by kernel_rfl) ?_
 intro e0 cx
 refine sq ?_
 refine rg (A := True) cx [] [1] [1] trivial ?_
 refine sn (sq ?_)
 refine ra (A := _ ∧ _) cx [(2, { val := some (.agg [.sl (List.map c3 (normP p).vec), .sl (List.map c104 (normP p).cloud)]) }), (3, { val := some (.b (decide (p = normP p))) })] [2] [] ⟨(con95 (p) (by (with_reducible assumption))), (con46 (p) (normP p) (by (with_reducible assumption)) (by omega))⟩ ?_
 refine sn ?_
 refine st_ret (by kernel_rfl) ?_
 exact q_ret (r := .b (decide (p = normP p))) (obl := []) (by kernel_rfl) trivial (AVle.refl _)
end Go.Proofs.YtaiepnaokhpmcaaGreat
namespace Go.Proofs.YtaiepnaokhpmcaaGreat
open Go.E
set_option maxRecDepth 100000
set_option maxHeartbeats 4000000
def isMe (x y : List Run) (i j:Int) (o : List Run) : Prop := o ++ meetL (x.drop i.toNat) (y.drop j.toNat) = meetL x y
def invMe (x y : List Run) (i j:Int) (o : List Run) : Prop := 0 ≤ i ∧ i ≤ x.length ∧ 0 ≤ j ∧ j ≤ y.length ∧ (o.length:Int) ≤ i + j ∧ isMe x y i j o
def decMe (x y : List Run) (i j:Int) (o : List Run) : Nat := (x.length - i + (y.length - j)).toNat
theorem dropR {a : List Run} {i : Int} (h0 : 0 ≤ i) (h : i < a.length) : a.drop i.toNat = a[i.toNat]! :: a.drop (i + 1).toNat := by
 rw [show (i + 1).toNat = i.toNat + 1 by omega, getElem!_pos a i.toNat (by omega)]
 exact List.drop_eq_getElem_cons (by omega)
theorem dropRn {a : List Run} {i : Int} (h : ¬ i < a.length) : a.drop i.toNat = [] := List.drop_of_length_le (by omega)
theorem me_step {x y o : List Run} {i j : Int} (h0 : 0 ≤ i) (hi : i < x.length) (j0 : 0 ≤ j) (hj : j < y.length) (h : isMe x y i j o) :
  (o ++ if max x[i.toNat]!.lo y[j.toNat]!.lo ≤ min x[i.toNat]!.hi y[j.toNat]!.hi then [⟨max x[i.toNat]!.lo y[j.toNat]!.lo, min x[i.toNat]!.hi y[j.toNat]!.hi⟩] else []) ++
   (if x[i.toNat]!.hi < y[j.toNat]!.hi then meetL (x.drop (i + 1).toNat) (y.drop j.toNat) else meetL (x.drop i.toNat) (y.drop (j + 1).toNat)) = meetL x y := by
 unfold isMe at h
 rw [← h, dropR h0 hi, dropR j0 hj, meetL_cons, List.append_assoc]
theorem me_in1 {x y o : List Run} {i j : Int} (h0 : 0 ≤ i) (hi : i < x.length) (j0 : 0 ≤ j) (hj : j < y.length) (h : isMe x y i j o) (c : max x[i.toNat]!.lo y[j.toNat]!.lo ≤ min x[i.toNat]!.hi y[j.toNat]!.hi) (d : x[i.toNat]!.hi < y[j.toNat]!.hi) :
  isMe x y (i + 1) j (o ++ [⟨max x[i.toNat]!.lo y[j.toNat]!.lo, min x[i.toNat]!.hi y[j.toNat]!.hi⟩]) := by
 have := me_step h0 hi j0 hj h
 rw [if_pos c, if_pos d] at this
 exact this
theorem me_in2 {x y o : List Run} {i j : Int} (h0 : 0 ≤ i) (hi : i < x.length) (j0 : 0 ≤ j) (hj : j < y.length) (h : isMe x y i j o) (c : max x[i.toNat]!.lo y[j.toNat]!.lo ≤ min x[i.toNat]!.hi y[j.toNat]!.hi) (d : ¬ x[i.toNat]!.hi < y[j.toNat]!.hi) :
  isMe x y i (j + 1) (o ++ [⟨max x[i.toNat]!.lo y[j.toNat]!.lo, min x[i.toNat]!.hi y[j.toNat]!.hi⟩]) := by
 have := me_step h0 hi j0 hj h
 rw [if_pos c, if_neg d] at this
 exact this
theorem me_out1 {x y o : List Run} {i j : Int} (h0 : 0 ≤ i) (hi : i < x.length) (j0 : 0 ≤ j) (hj : j < y.length) (h : isMe x y i j o) (c : ¬ max x[i.toNat]!.lo y[j.toNat]!.lo ≤ min x[i.toNat]!.hi y[j.toNat]!.hi) (d : x[i.toNat]!.hi < y[j.toNat]!.hi) : isMe x y (i + 1) j o := by
 have := me_step h0 hi j0 hj h
 rw [if_neg c, if_pos d, List.append_nil] at this
 exact this
theorem me_out2 {x y o : List Run} {i j : Int} (h0 : 0 ≤ i) (hi : i < x.length) (j0 : 0 ≤ j) (hj : j < y.length) (h : isMe x y i j o) (c : ¬ max x[i.toNat]!.lo y[j.toNat]!.lo ≤ min x[i.toNat]!.hi y[j.toNat]!.hi) (d : ¬ x[i.toNat]!.hi < y[j.toNat]!.hi) : isMe x y i (j + 1) o := by
 have := me_step h0 hi j0 hj h
 rw [if_neg c, if_neg d, List.append_nil] at this
 exact this
theorem me_end {x y o : List Run} {i j : Int} (hn : ¬ (i < x.length ∧ j < y.length)) (h : isMe x y i j o) : o = meetL x y := by
 unfold isMe at h
 by_cases hi : i < x.length
 ·rw [dropRn (a := y) (i := j) (fun k => hn ⟨hi, k⟩), meetL_nil2, List.append_nil] at h
  exact h
 ·rw [dropRn hi, meetL_nil, List.append_nil] at h
  exact h
theorem me_start (x y : List Run) : isMe x y 0 0 [] := rfl
def isOt (n : List Run) (x i:Int) (o : List Run) : Prop := o ++ othL x (n.drop i.toNat) = othL 1 n
def invOt (n : List Run) (x i:Int) (o : List Run) : Prop := 0 ≤ i ∧ i ≤ n.length ∧ (o.length:Int) ≤ i ∧ 1 ≤ x ∧ x ≤ 1000000001 ∧ isOt n x i o
def decOt (n : List Run) (x i:Int) (o : List Run) : Nat := (n.length - i).toNat
theorem ot_in {n o : List Run} {x i : Int} (h0 : 0 ≤ i) (hi : i < n.length) (h : isOt n x i o) (c : x < n[i.toNat]!.lo) : isOt n (n[i.toNat]!.hi + 1) (i + 1) (o ++ [⟨x, n[i.toNat]!.lo - 1⟩]) := by
 unfold isOt at *
 rw [dropR h0 hi, othL, if_pos c, ← List.append_assoc] at h
 exact h
theorem ot_out {n o : List Run} {x i : Int} (h0 : 0 ≤ i) (hi : i < n.length) (h : isOt n x i o) (c : ¬ x < n[i.toNat]!.lo) : isOt n (n[i.toNat]!.hi + 1) (i + 1) o := by
 unfold isOt at *
 rw [dropR h0 hi, othL, if_neg c, List.nil_append] at h
 exact h
theorem ot_end1 {n o : List Run} {x i : Int} (hi : ¬ i < n.length) (h : isOt n x i o) (c : x ≤ 1000000000) : o ++ [⟨x, 1000000000⟩] = othL 1 n := by
 unfold isOt at h
 rw [dropRn hi, othL, if_pos c] at h
 exact h
theorem ot_end2 {n o : List Run} {x i : Int} (hi : ¬ i < n.length) (h : isOt n x i o) (c : ¬ x ≤ 1000000000) : o = othL 1 n := by
 unfold isOt at h
 rw [dropRn hi, othL, if_neg c, List.append_nil] at h
 exact h
def isEa (A B : Nat → List Run) (r:Int) (T : Nat → List Run) : Prop := ∀ k : Nat, k < 16 → T k = if (k:Int) < r then minR (A k) (B k) else A k
def invEa (A B : Nat → List Run) (r:Int) (T U : Nat → List Run) : Prop := U = B ∧ 0 ≤ r ∧ r ≤ 16 ∧ isEa A B r T
def decEa (r:Int) (T U : Nat → List Run) : Nat := (16 - r).toNat
theorem ea_start (A B : Nat → List Run) : isEa A B 0 A := fun k _ => by rw [if_neg (by omega)]
theorem ea_at {A B T : Nat → List Run} {r : Int} (h0 : 0 ≤ r) (h1 : r < 16) (h : isEa A B r T) : T r.toNat = A r.toNat := by
 rw [h r.toNat (by omega), if_neg (by omega)]
theorem ea_next {A B T : Nat → List Run} {r : Int} (h0 : 0 ≤ r) (h1 : r < 16) (h : isEa A B r T) : isEa A B (r + 1) (updF T r.toNat (minR (T r.toNat) (B r.toNat))) := by
 intro k hk
 unfold updF
 by_cases e : k = r.toNat
 ·subst e
  rw [if_pos rfl, if_pos (by omega), ea_at h0 h1 h]
 ·rw [if_neg e, h k hk]
  by_cases c : (k:Int) < r
  ·rw [if_pos c, if_pos (by omega)]
  ·rw [if_neg c, if_neg (by omega)]
theorem ea_end {A B T : Nat → List Run} {r : Int} (hr : r ≤ 16) (h1 : ¬ r < 16) (h : isEa A B r T) : tabP T = tabP fun k => minR (A k) (B k) := tabP_congr fun k hk => by
 rw [h k hk, if_pos (by omega)]
theorem con184 (a b : List Run) (ha : a.length * 16 ≤ 140737488351232) (hb : b.length * 16 ≤ 140737488351232) : Con Tryz.prog 184 [.sl (a.map c154), .sl (b.map c154)] (.sl ((metR a b).map c154)) :=
 by
 have h1 := sepR_len (nrm_sep a)
 have h2 := sepR_len (nrm_sep b)
 refine con_lens 0 (c154) (a) (by kernel_rfl) Go.Proofs.Tryz.func184 (by kernel_rfl) fun hl_0 => ?_
 refine con_lens 1 (c154) (b) (by kernel_rfl) Go.Proofs.Tryz.func184 (by kernel_rfl) fun hl_1 => ?_
 refine st_con tab_ok (by kernel_rfl) [.tmp 4] 73 Go.Proofs.Tryz.func184 (by kernel_rfl) (by kernel_rfl) ?_
 intro e0 cx
 refine sq ?_
 refine rg (A := True) cx [] [0, 1] [] trivial ?_
 refine sn (sq ?_)
 have hl_0 := (rng_nrm a)
 have hl_1 := (rng_nrm b)
 refine rg (A := _ ∧ _) cx [(1, { val := some (.sl (List.map c154 (nrm a))) }), (3, { val := some (.sl (List.map c154 (nrm b))) })] [5, 6] [] ⟨(con182 (a) (by (with_reducible assumption))), (con182 (b) (by (with_reducible assumption)))⟩ ?_
 refine sn (sq ?_)
 refine rg (A := True) cx [] [5, 6, 7] [] trivial ?_
 refine sn (sq ?_)
 refine sq ?_
 refine rg (A := True) cx [] [5, 6, 7, 8, 9] [] trivial ?_
 refine sn ?_
 refine st_block 0 (by kernel_rfl) ?_
 refine awp_adopt 7 1007 154 2 (σ' := ⟨[(5, .sl (List.map c154 (nrm a))), (6, .sl (List.map c154 (nrm b))), (7, .own 1007 0), (8, .i .i64 ((0:Int))), (9, .i .i64 ((0:Int)))], [(1007, ⟨0, 154, .row 2 (List.map c154 [])⟩)]⟩) (by kernel_rfl) ?_
 refine st_loop (X := Int × Int × List Run) (fun x => ⟨[(5, .sl (List.map c154 (nrm a))), (6, .sl (List.map c154 (nrm b))), (7, .own 1007 0), (8, .i .i64 (x.fst)), (9, .i .i64 (x.snd.fst))], [(1007, ⟨0, 154, .row 2 (List.map c154 x.snd.snd)⟩)]⟩) (fun x ↦ decMe (nrm a) (nrm b) x.fst x.snd.fst x.snd.snd) (fun x ↦ invMe (nrm a) (nrm b) x.fst x.snd.fst x.snd.snd) [5, 6, 7, 8, 9] [1007] (((0:Int), (0:Int), [])) (by kernel_rfl) (by kernel_rfl) (show invMe (nrm a) (nrm b) (0:Int) (0:Int) [] from ?g0) ?_; rotate_left 1
 rintro ⟨i_2, j_3, o_4⟩ h_5
 obtain ⟨h_6, h_7, h_8, h_9, h_10, h_11⟩ : (0:Int) ≤ i_2 ∧ i_2 ≤ (↑(nrm a).length:Int) ∧ (0:Int) ≤ j_3 ∧ j_3 ≤ (↑(nrm b).length:Int) ∧ (↑o_4.length:Int) ≤ i_2 + j_3 ∧ isMe (nrm a) (nrm b) i_2 j_3 o_4 := h_5
 refine sq ?_
 refine sq ?_
 refine st_join (σ' := ⟨[(5, .sl (List.map c154 (nrm a))), (6, .sl (List.map c154 (nrm b))), (7, .own 1007 0), (8, .i .i64 (i_2)), (9, .i .i64 (j_3)), (24, .b (decide (i_2 < (↑(nrm a).length:Int) ∧ j_3 < (↑(nrm b).length:Int))))], [(1007, ⟨0, 154, .row 2 (List.map c154 o_4)⟩)]⟩) ?_ ?_
 refine st_split (i_2 < (↑(nrm a).length:Int)) (fun h_13 => ?_) (fun h_13 => ?_)
 refine rg (A := _ ∧ _ ∧ _ ∧ (AV.b (decide (j_3 < (↑(nrm b).length:Int))) = AV.b (decide (j_3 < (↑(nrm b).length:Int)))) ∧ (AV.b (decide (j_3 < (↑(nrm b).length:Int))) = AV.b (decide (i_2 < (↑(nrm a).length:Int) ∧ j_3 < (↑(nrm b).length:Int))))) cx [(2, { tell := some (.i .i64 ((↑(nrm a).length:Int))) }), (3, { tell := some (.b (true)) }), (7, { tell := some (.i .i64 ((↑(nrm b).length:Int))) }), (8, { tell := some (.b (decide (j_3 < (↑(nrm b).length:Int)))) }), (9, { tell := some (.b (decide (i_2 < (↑(nrm a).length:Int) ∧ j_3 < (↑(nrm b).length:Int)))) })] [5, 6, 7, 8, 9, 24] [1007] ⟨(told_len c154 (nrm a)), (told_true h_13), (told_len c154 (nrm b)), (by kernel_rfl), (by simp only [eq_true h_13, told_simp1, told_simp2, and_true, true_and, and_false, false_and, or_true, true_or, or_false, false_or, not_true_eq_false, not_false_eq_true, decide_true, decide_false, Bool.decide_eq_true])⟩ ?_
 exact ⟨rfl, by kernel_rfl⟩
 refine rg (A := _ ∧ _ ∧ (AV.b false = AV.b (decide (i_2 < (↑(nrm a).length:Int) ∧ j_3 < (↑(nrm b).length:Int))))) cx [(2, { tell := some (.i .i64 ((↑(nrm a).length:Int))) }), (3, { tell := some (.b (false)) }), (9, { tell := some (.b (decide (i_2 < (↑(nrm a).length:Int) ∧ j_3 < (↑(nrm b).length:Int)))) })] [5, 6, 7, 8, 9, 24] [1007] ⟨(told_len c154 (nrm a)), (told_false h_13), (by simp only [eq_false h_13, told_simp1, told_simp2, and_true, true_and, and_false, false_and, or_true, true_or, or_false, false_or, not_true_eq_false, not_false_eq_true, decide_true, decide_false, Bool.decide_eq_true])⟩ ?_
 exact ⟨rfl, by kernel_rfl⟩
 refine sn ?_
 refine st_dec (i_2 < (↑(nrm a).length:Int) ∧ j_3 < (↑(nrm b).length:Int)) (by kernel_rfl) (by kernel_rfl) (fun h_14 => ?_) (fun h_14 => ?_)
 refine st_skip (by kernel_rfl) ?_
 refine sn ?_
 refine st_block 1 (by kernel_rfl) ?_
 refine sq ?_
 refine ra (A := ((0:Int) ≤ i_2) ∧ ((List.map c154 (nrm a))[i_2.toNat]? = some (c154 (nrm a)[i_2.toNat]!)) ∧ ((c154 (nrm a)[i_2.toNat]!).length = (2:Nat)) ∧ ((0:Int) ≤ j_3) ∧ ((List.map c154 (nrm b))[j_3.toNat]? = some (c154 (nrm b)[j_3.toNat]!)) ∧ ((c154 (nrm b)[j_3.toNat]!).length = (2:Nat)) ∧ (AV.i .i64 (if (nrm b)[j_3.toNat]!.lo > (nrm a)[i_2.toNat]!.lo then (nrm b)[j_3.toNat]!.lo else (nrm a)[i_2.toNat]!.lo) = AV.i .i64 (max (nrm a)[i_2.toNat]!.lo (nrm b)[j_3.toNat]!.lo)) ∧ ((0:Int) ≤ i_2) ∧ ((List.map c154 (nrm a))[i_2.toNat]? = some (c154 (nrm a)[i_2.toNat]!)) ∧ ((c154 (nrm a)[i_2.toNat]!).length = (2:Nat)) ∧ ((0:Int) ≤ j_3) ∧ ((List.map c154 (nrm b))[j_3.toNat]? = some (c154 (nrm b)[j_3.toNat]!)) ∧ ((c154 (nrm b)[j_3.toNat]!).length = (2:Nat)) ∧ (AV.i .i64 (if (nrm b)[j_3.toNat]!.hi < (nrm a)[i_2.toNat]!.hi then (nrm b)[j_3.toNat]!.hi else (nrm a)[i_2.toNat]!.hi) = AV.i .i64 (min (nrm a)[i_2.toNat]!.hi (nrm b)[j_3.toNat]!.hi))) cx [(2, { row := (c154 (nrm a)[i_2.toNat]!) }), (7, { row := (c154 (nrm b)[j_3.toNat]!) }), (10, { tell := some (.i .i64 (max (nrm a)[i_2.toNat]!.lo (nrm b)[j_3.toNat]!.lo)) }), (13, { row := (c154 (nrm a)[i_2.toNat]!) }), (18, { row := (c154 (nrm b)[j_3.toNat]!) }), (21, { tell := some (.i .i64 (min (nrm a)[i_2.toNat]!.hi (nrm b)[j_3.toNat]!.hi)) })] [5, 6, 7, 8, 9, 10] [1007, 10] ⟨(by (with_reducible assumption)), (by (with_reducible refine get_map ?_; omega)), (by kernel_rfl), (by (with_reducible assumption)), (by (with_reducible refine get_map ?_; omega)), (by kernel_rfl), (told_max), (by (with_reducible assumption)), (by (with_reducible refine get_map ?_; omega)), (by kernel_rfl), (by (with_reducible assumption)), (by (with_reducible refine get_map ?_; omega)), (by kernel_rfl), (told_min)⟩ ?_
 refine sn (sq ?_)
 refine sq ?_
 refine rg (A := (AV.b (decide (max (nrm a)[i_2.toNat]!.lo (nrm b)[j_3.toNat]!.lo ≤ min (nrm a)[i_2.toNat]!.hi (nrm b)[j_3.toNat]!.hi)) = AV.b (decide (max (nrm a)[i_2.toNat]!.lo (nrm b)[j_3.toNat]!.lo ≤ min (nrm a)[i_2.toNat]!.hi (nrm b)[j_3.toNat]!.hi)))) cx [(4, { tell := some (.b (decide (max (nrm a)[i_2.toNat]!.lo (nrm b)[j_3.toNat]!.lo ≤ min (nrm a)[i_2.toNat]!.hi (nrm b)[j_3.toNat]!.hi))) })] [5, 6, 7, 8, 9, 10, 52] [1007, 10] (by kernel_rfl) ?_
 refine sn ?_
 refine st_dec (max (nrm a)[i_2.toNat]!.lo (nrm b)[j_3.toNat]!.lo ≤ min (nrm a)[i_2.toNat]!.hi (nrm b)[j_3.toNat]!.hi) (by kernel_rfl) (by kernel_rfl) (fun h_15 => ?_) (fun h_15 => ?_)
 refine rg (A := (154 = (154:Nat)) ∧ ((2:Nat) = 2) ∧ ([AV.i .i64 (0:Int), AV.i .i64 (0:Int)].length = (2:Nat)) ∧ (∀ (r : List AV), r ∈ List.map c154 [{ lo := max (nrm a)[i_2.toNat]!.lo (nrm b)[j_3.toNat]!.lo, hi := min (nrm a)[i_2.toNat]!.hi (nrm b)[j_3.toNat]!.hi : Run }] → r.length = 2) ∧ ((List.map c154 o_4).length + (List.map c154 [{ lo := max (nrm a)[i_2.toNat]!.lo (nrm b)[j_3.toNat]!.lo, hi := min (nrm a)[i_2.toNat]!.hi (nrm b)[j_3.toNat]!.hi : Run }]).length ≤ maxLen) ∧ (((List.map c154 o_4).length + (List.map c154 [{ lo := max (nrm a)[i_2.toNat]!.lo (nrm b)[j_3.toNat]!.lo, hi := min (nrm a)[i_2.toNat]!.hi (nrm b)[j_3.toNat]!.hi : Run }]).length) * (16:Nat) ≤ (140737488355328:Nat)) ∧ (List.map c154 o_4 ++ List.map c154 [{ lo := max (nrm a)[i_2.toNat]!.lo (nrm b)[j_3.toNat]!.lo, hi := min (nrm a)[i_2.toNat]!.hi (nrm b)[j_3.toNat]!.hi : Run }] = List.map c154 (o_4 ++ [{ lo := max (nrm a)[i_2.toNat]!.lo (nrm b)[j_3.toNat]!.lo, hi := min (nrm a)[i_2.toNat]!.hi (nrm b)[j_3.toNat]!.hi : Run }]))) cx [(3, { rows := some (List.map c154 (o_4 ++ [{ lo := max (nrm a)[i_2.toNat]!.lo (nrm b)[j_3.toNat]!.lo, hi := min (nrm a)[i_2.toNat]!.hi (nrm b)[j_3.toNat]!.hi : Run }])) })] [5, 6, 7, 8, 9] [1007] ⟨(by kernel_rfl), (by kernel_rfl), (by kernel_rfl), (by (with_reducible refine len_map (fun _ => ?_) _; kernel_rfl)), (by (simp only [Go.maxLen, List.length_map, List.length_append, List.length_cons, List.length_nil]; omega)), ?g1, (by (with_reducible refine app_map ?_; kernel_rfl))⟩ ?_; rotate_left 1
 refine sn (sq ?_)
 refine ra (A := ((0:Int) ≤ i_2) ∧ ((List.map c154 (nrm a))[i_2.toNat]? = some (c154 (nrm a)[i_2.toNat]!)) ∧ ((c154 (nrm a)[i_2.toNat]!).length = (2:Nat)) ∧ ((0:Int) ≤ j_3) ∧ ((List.map c154 (nrm b))[j_3.toNat]? = some (c154 (nrm b)[j_3.toNat]!)) ∧ ((c154 (nrm b)[j_3.toNat]!).length = (2:Nat)) ∧ (AV.b (decide ((nrm a)[i_2.toNat]!.hi < (nrm b)[j_3.toNat]!.hi)) = AV.b (decide ((nrm a)[i_2.toNat]!.hi < (nrm b)[j_3.toNat]!.hi)))) cx [(2, { row := (c154 (nrm a)[i_2.toNat]!) }), (7, { row := (c154 (nrm b)[j_3.toNat]!) }), (10, { tell := some (.b (decide ((nrm a)[i_2.toNat]!.hi < (nrm b)[j_3.toNat]!.hi))) })] [5, 6, 7, 8, 9, 67] [1007] ⟨(by (with_reducible assumption)), (by (with_reducible refine get_map ?_; omega)), (by kernel_rfl), (by (with_reducible assumption)), (by (with_reducible refine get_map ?_; omega)), (by kernel_rfl), (by kernel_rfl)⟩ ?_
 refine sn ?_
 refine st_dec ((nrm a)[i_2.toNat]!.hi < (nrm b)[j_3.toNat]!.hi) (by kernel_rfl) (by kernel_rfl) (fun h_16 => ?_) (fun h_16 => ?_)
 refine rg (A := (AV.i .i64 (IntKind.i64.wrap (i_2 + (1:Int))) = AV.i .i64 (i_2 + (1:Int)))) cx [(1, { tell := some (.i .i64 (i_2 + (1:Int))) })] [5, 6, 7, 8, 9] [1007] (told_i64 (by omega) (by omega)) ?_
 refine q_blk_normal ?_
 refine sn ?_
 refine loop_next ((i_2 + (1:Int), j_3, o_4 ++ [{ lo := max (nrm a)[i_2.toNat]!.lo (nrm b)[j_3.toNat]!.lo, hi := min (nrm a)[i_2.toNat]!.hi (nrm b)[j_3.toNat]!.hi : Run }])) (by kernel_rfl) (show ((↑(nrm a).length:Int) - (i_2 + (1:Int)) + ((↑(nrm b).length:Int) - j_3)).toNat < ((↑(nrm a).length:Int) - i_2 + ((↑(nrm b).length:Int) - j_3)).toNat from (by omega)) (show invMe (nrm a) (nrm b) (i_2 + (1:Int)) j_3 (o_4 ++ [{ lo := max (nrm a)[i_2.toNat]!.lo (nrm b)[j_3.toNat]!.lo, hi := min (nrm a)[i_2.toNat]!.hi (nrm b)[j_3.toNat]!.hi : Run }]) from ?g2); rotate_left 1
 refine rg (A := (AV.i .i64 (IntKind.i64.wrap (j_3 + (1:Int))) = AV.i .i64 (j_3 + (1:Int)))) cx [(1, { tell := some (.i .i64 (j_3 + (1:Int))) })] [5, 6, 7, 8, 9] [1007] (told_i64 (by omega) (by omega)) ?_
 refine q_blk_normal ?_
 refine sn ?_
 refine loop_next ((i_2, j_3 + (1:Int), o_4 ++ [{ lo := max (nrm a)[i_2.toNat]!.lo (nrm b)[j_3.toNat]!.lo, hi := min (nrm a)[i_2.toNat]!.hi (nrm b)[j_3.toNat]!.hi : Run }])) (by kernel_rfl) (show ((↑(nrm a).length:Int) - i_2 + ((↑(nrm b).length:Int) - (j_3 + (1:Int)))).toNat < ((↑(nrm a).length:Int) - i_2 + ((↑(nrm b).length:Int) - j_3)).toNat from (by omega)) (show invMe (nrm a) (nrm b) i_2 (j_3 + (1:Int)) (o_4 ++ [{ lo := max (nrm a)[i_2.toNat]!.lo (nrm b)[j_3.toNat]!.lo, hi := min (nrm a)[i_2.toNat]!.hi (nrm b)[j_3.toNat]!.hi : Run }]) from ?g3); rotate_left 1
 refine st_skip (by kernel_rfl) ?_
 refine sn (sq ?_)
 refine ra (A := ((0:Int) ≤ i_2) ∧ ((List.map c154 (nrm a))[i_2.toNat]? = some (c154 (nrm a)[i_2.toNat]!)) ∧ ((c154 (nrm a)[i_2.toNat]!).length = (2:Nat)) ∧ ((0:Int) ≤ j_3) ∧ ((List.map c154 (nrm b))[j_3.toNat]? = some (c154 (nrm b)[j_3.toNat]!)) ∧ ((c154 (nrm b)[j_3.toNat]!).length = (2:Nat)) ∧ (AV.b (decide ((nrm a)[i_2.toNat]!.hi < (nrm b)[j_3.toNat]!.hi)) = AV.b (decide ((nrm a)[i_2.toNat]!.hi < (nrm b)[j_3.toNat]!.hi)))) cx [(2, { row := (c154 (nrm a)[i_2.toNat]!) }), (7, { row := (c154 (nrm b)[j_3.toNat]!) }), (10, { tell := some (.b (decide ((nrm a)[i_2.toNat]!.hi < (nrm b)[j_3.toNat]!.hi))) })] [5, 6, 7, 8, 9, 67] [1007] ⟨(by (with_reducible assumption)), (by (with_reducible refine get_map ?_; omega)), (by kernel_rfl), (by (with_reducible assumption)), (by (with_reducible refine get_map ?_; omega)), (by kernel_rfl), (by kernel_rfl)⟩ ?_
 refine sn ?_
 refine st_dec ((nrm a)[i_2.toNat]!.hi < (nrm b)[j_3.toNat]!.hi) (by kernel_rfl) (by kernel_rfl) (fun h_17 => ?_) (fun h_17 => ?_)
 refine rg (A := (AV.i .i64 (IntKind.i64.wrap (i_2 + (1:Int))) = AV.i .i64 (i_2 + (1:Int)))) cx [(1, { tell := some (.i .i64 (i_2 + (1:Int))) })] [5, 6, 7, 8, 9] [1007] (told_i64 (by omega) (by omega)) ?_
 refine q_blk_normal ?_
 refine sn ?_
 refine loop_next ((i_2 + (1:Int), j_3, o_4)) (by kernel_rfl) (show ((↑(nrm a).length:Int) - (i_2 + (1:Int)) + ((↑(nrm b).length:Int) - j_3)).toNat < ((↑(nrm a).length:Int) - i_2 + ((↑(nrm b).length:Int) - j_3)).toNat from (by omega)) (show invMe (nrm a) (nrm b) (i_2 + (1:Int)) j_3 o_4 from ?g4); rotate_left 1
 refine rg (A := (AV.i .i64 (IntKind.i64.wrap (j_3 + (1:Int))) = AV.i .i64 (j_3 + (1:Int)))) cx [(1, { tell := some (.i .i64 (j_3 + (1:Int))) })] [5, 6, 7, 8, 9] [1007] (told_i64 (by omega) (by omega)) ?_
 refine q_blk_normal ?_
 refine sn ?_
 refine loop_next ((i_2, j_3 + (1:Int), o_4)) (by kernel_rfl) (show ((↑(nrm a).length:Int) - i_2 + ((↑(nrm b).length:Int) - (j_3 + (1:Int)))).toNat < ((↑(nrm a).length:Int) - i_2 + ((↑(nrm b).length:Int) - j_3)).toNat from (by omega)) (show invMe (nrm a) (nrm b) i_2 (j_3 + (1:Int)) o_4 from ?g5); rotate_left 1
 refine st_exit 0 (by kernel_rfl) ?_
 refine q_seq_exit ?_
 refine q_seq_exit ?_
 refine q_blk_hit ?_
 refine sn (sq ?_)
 refine rg (A := True) cx [] [4] [1007] trivial ?_
 refine sn ?_
 refine st_ret (by kernel_rfl) ?_
 refine q_ret (r := .sl (List.map c154 o_4)) (obl := []) (by kernel_rfl) trivial (AVle.eq (show AV.sl (List.map c154 o_4) = AV.sl (List.map c154 (metR a b)) from ?g6)); rotate_left 1
 rotate_left
 revert i_2 j_3 o_4 h_6 h_7 h_8 h_9 h_10 h_11 h_14 h_15; rotate_left
 revert i_2 j_3 o_4 h_6 h_7 h_8 h_9 h_10 h_11 h_14 h_15 h_16; rotate_left
 revert i_2 j_3 o_4 h_6 h_7 h_8 h_9 h_10 h_11 h_14 h_15 h_16; rotate_left
 revert i_2 j_3 o_4 h_6 h_7 h_8 h_9 h_10 h_11 h_14 h_15 h_17; rotate_left
 revert i_2 j_3 o_4 h_6 h_7 h_8 h_9 h_10 h_11 h_14 h_15 h_17; rotate_left
 revert i_2 j_3 o_4 h_6 h_7 h_8 h_9 h_10 h_11 h_14; rotate_left
 case g0 => exact ⟨by omega, by omega, by omega, by omega, by simp, me_start _ _⟩
 case g1 => intro i j o k0 k1 k2 k3 k4 k5 k6 k7; simp only [List.length_map, List.length_cons, List.length_nil]; omega
 case g2 => intro i j o k0 k1 k2 k3 k4 k5 k6 k7 k8; exact ⟨by omega, by omega, by omega, by omega, by simp only [List.length_append, List.length_cons, List.length_nil]; omega, me_in1 k0 k6.1 k2 k6.2 k5 k7 k8⟩
 case g3 => intro i j o k0 k1 k2 k3 k4 k5 k6 k7 k8; exact ⟨by omega, by omega, by omega, by omega, by simp only [List.length_append, List.length_cons, List.length_nil]; omega, me_in2 k0 k6.1 k2 k6.2 k5 k7 k8⟩
 case g4 => intro i j o k0 k1 k2 k3 k4 k5 k6 k7 k8; exact ⟨by omega, by omega, by omega, by omega, by omega, me_out1 k0 k6.1 k2 k6.2 k5 k7 k8⟩
 case g5 => intro i j o k0 k1 k2 k3 k4 k5 k6 k7 k8; exact ⟨by omega, by omega, by omega, by omega, by omega, me_out2 k0 k6.1 k2 k6.2 k5 k7 k8⟩
 case g6 => intro i j o k0 k1 k2 k3 k4 k5 k6; rw [me_end k6 k5]; rfl
theorem con185 (n : List Run) (hn : sepR n) : Con Tryz.prog 185 [.sl (n.map c154)] (.sl ((othL 1 n).map c154)) :=
 by
 have h1 := sepR_len hn
 have hr : ∀ i : Int, 0 ≤ i → i < n.length → 1 ≤ n[i.toNat]!.lo ∧ n[i.toNat]!.lo ≤ n[i.toNat]!.hi ∧ n[i.toNat]!.hi ≤ 1000000000 := fun i h0 h1 => hn.2 _ (bang_in (by omega))
 refine con_lens 0 (c154) (n) (by kernel_rfl) Go.Proofs.Tryz.func185 (by kernel_rfl) fun hl_0 => ?_
 refine st_con tab_ok (by kernel_rfl) [.tmp 2] 37 Go.Proofs.Tryz.func185 (by kernel_rfl) (by kernel_rfl) ?_
 intro e0 cx
 refine sq ?_
 refine rg (A := True) cx [] [0] [] trivial ?_
 refine sn (sq ?_)
 refine rg (A := True) cx [] [0, 3] [] trivial ?_
 refine sn (sq ?_)
 refine rg (A := True) cx [] [0, 3, 4] [] trivial ?_
 refine sn (sq ?_)
 refine sq ?_
 refine rg (A := _) cx [(1, { tell := some (.i .i64 ((↑n.length:Int))) })] [3, 4, 7, 8, 9] [] (told_len c154 n) ?_
 refine sn ?_
 refine st_block 0 (by kernel_rfl) ?_
 refine awp_adopt 3 1003 154 2 (σ' := ⟨[(3, .own 1003 0), (4, .i .i64 ((1:Int))), (7, .sl (List.map c154 n)), (8, .i .i64 ((↑n.length:Int))), (9, .i .i64 ((0:Int)))], [(1003, ⟨0, 154, .row 2 (List.map c154 [])⟩)]⟩) (by kernel_rfl) ?_
 refine st_loop (X := Int × Int × List Run) (fun x => ⟨[(3, .own 1003 0), (4, .i .i64 (x.fst)), (7, .sl (List.map c154 n)), (8, .i .i64 ((↑n.length:Int))), (9, .i .i64 (x.snd.fst))], [(1003, ⟨0, 154, .row 2 (List.map c154 x.snd.snd)⟩)]⟩) (fun x ↦ decOt n x.fst x.snd.fst x.snd.snd) (fun x ↦ invOt n x.fst x.snd.fst x.snd.snd) [3, 4, 7, 8, 9] [1003] (((1:Int), (0:Int), [])) (by kernel_rfl) (by kernel_rfl) (show invOt n (1:Int) (0:Int) [] from ?g0) ?_; rotate_left 1
 rintro ⟨x_0, i_1, o_2⟩ h_3
 obtain ⟨h_4, h_5, h_6, h_7, h_8, h_9⟩ : (0:Int) ≤ i_1 ∧ i_1 ≤ (↑n.length:Int) ∧ (↑o_2.length:Int) ≤ i_1 ∧ (1:Int) ≤ x_0 ∧ x_0 ≤ (1000000001:Int) ∧ isOt n x_0 i_1 o_2 := h_3
 refine sq ?_
 refine rg (A := (AV.b (decide (i_1 < (↑n.length:Int))) = AV.b (decide (i_1 < (↑n.length:Int))))) cx [(0, { tell := some (.b (decide (i_1 < (↑n.length:Int)))) })] [3, 4, 7, 8, 9, 10] [1003] (by kernel_rfl) ?_
 refine sn (sq ?_)
 refine st_dec (i_1 < (↑n.length:Int)) (by kernel_rfl) (by kernel_rfl) (fun h_10 => ?_) (fun h_10 => ?_)
 refine st_skip (by kernel_rfl) ?_
 refine sn (sq ?_)
 refine st_block 1 (by kernel_rfl) ?_
 refine sq ?_
 refine rg (A := ((0:Int) ≤ i_1) ∧ ((List.map c154 n)[i_1.toNat]? = some (c154 n[i_1.toNat]!)) ∧ ((c154 n[i_1.toNat]!).length = (2:Nat)) ∧ ((2:Nat) ≤ [AV.i .i64 n[i_1.toNat]!.lo, AV.i .i64 n[i_1.toNat]!.hi].length)) cx [(0, { row := (c154 n[i_1.toNat]!) })] [3, 4, 7, 8, 9, 6] [1003, 6] ⟨(by (with_reducible assumption)), (by (with_reducible refine get_map ?_; omega)), (by kernel_rfl), (by (simp only [List.length_append, List.length_cons, List.length_nil]; omega))⟩ ?_
 refine sn (sq ?_)
 refine sq ?_
 refine rg (A := (AV.b (decide (x_0 < n[i_1.toNat]!.lo)) = AV.b (decide (x_0 < n[i_1.toNat]!.lo)))) cx [(3, { tell := some (.b (decide (x_0 < n[i_1.toNat]!.lo))) })] [3, 4, 7, 8, 9, 6, 16] [1003, 6] (by kernel_rfl) ?_
 refine sn ?_
 refine st_dec (x_0 < n[i_1.toNat]!.lo) (by kernel_rfl) (by kernel_rfl) (fun h_11 => ?_) (fun h_11 => ?_)
 refine rg (A := (AV.i .i64 (IntKind.i64.wrap (n[i_1.toNat]!.lo - (1:Int))) = AV.i .i64 (n[i_1.toNat]!.lo - (1:Int))) ∧ (154 = (154:Nat)) ∧ ((2:Nat) = 2) ∧ ([AV.i .i64 (0:Int), AV.i .i64 (0:Int)].length = (2:Nat)) ∧ (∀ (r : List AV), r ∈ List.map c154 [{ lo := x_0, hi := n[i_1.toNat]!.lo - (1:Int) : Run }] → r.length = 2) ∧ ((List.map c154 o_2).length + (List.map c154 [{ lo := x_0, hi := n[i_1.toNat]!.lo - (1:Int) : Run }]).length ≤ maxLen) ∧ (((List.map c154 o_2).length + (List.map c154 [{ lo := x_0, hi := n[i_1.toNat]!.lo - (1:Int) : Run }]).length) * (16:Nat) ≤ (140737488355328:Nat)) ∧ (List.map c154 o_2 ++ List.map c154 [{ lo := x_0, hi := n[i_1.toNat]!.lo - (1:Int) : Run }] = List.map c154 (o_2 ++ [{ lo := x_0, hi := n[i_1.toNat]!.lo - (1:Int) : Run }]))) cx [(4, { tell := some (.i .i64 (n[i_1.toNat]!.lo - (1:Int))) }), (7, { rows := some (List.map c154 (o_2 ++ [{ lo := x_0, hi := n[i_1.toNat]!.lo - (1:Int) : Run }])) })] [3, 7, 8, 9, 6] [1003, 6] ⟨(told_i64 (by omega) ?g1), (by kernel_rfl), (by kernel_rfl), (by kernel_rfl), (by (with_reducible refine len_map (fun _ => ?_) _; kernel_rfl)), (by (simp only [Go.maxLen, List.length_map, List.length_append, List.length_cons, List.length_nil]; omega)), ?g2, (by (with_reducible refine app_map ?_; kernel_rfl))⟩ ?_; rotate_left 2
 refine sn ?_
 refine rg (A := (AV.i .i64 (IntKind.i64.wrap (n[i_1.toNat]!.hi + (1:Int))) = AV.i .i64 (n[i_1.toNat]!.hi + (1:Int)))) cx [(2, { tell := some (.i .i64 (n[i_1.toNat]!.hi + (1:Int))) })] [3, 7, 8, 9, 4] [1003] (told_i64 ?g3 ?g4) ?_; rotate_left 2
 refine q_blk_normal ?_
 refine sn ?_
 refine rg (A := (AV.i .i64 (IntKind.i64.wrap (i_1 + (1:Int))) = AV.i .i64 (i_1 + (1:Int)))) cx [(0, { tell := some (.i .i64 (i_1 + (1:Int))) })] [3, 7, 8, 9, 4] [1003] (told_i64 (by omega) (by omega)) ?_
 refine sn ?_
 refine loop_next ((n[i_1.toNat]!.hi + (1:Int), i_1 + (1:Int), o_2 ++ [{ lo := x_0, hi := n[i_1.toNat]!.lo - (1:Int) : Run }])) (by kernel_rfl) (show ((↑n.length:Int) - (i_1 + (1:Int))).toNat < ((↑n.length:Int) - i_1).toNat from (by omega)) (show invOt n (n[i_1.toNat]!.hi + (1:Int)) (i_1 + (1:Int)) (o_2 ++ [{ lo := x_0, hi := n[i_1.toNat]!.lo - (1:Int) : Run }]) from ?g5); rotate_left 1
 refine st_skip (by kernel_rfl) ?_
 refine sn ?_
 refine rg (A := (AV.i .i64 (IntKind.i64.wrap (n[i_1.toNat]!.hi + (1:Int))) = AV.i .i64 (n[i_1.toNat]!.hi + (1:Int)))) cx [(2, { tell := some (.i .i64 (n[i_1.toNat]!.hi + (1:Int))) })] [3, 4, 7, 8, 9] [1003] (told_i64 ?g6 ?g7) ?_; rotate_left 2
 refine q_blk_normal ?_
 refine sn ?_
 refine rg (A := (AV.i .i64 (IntKind.i64.wrap (i_1 + (1:Int))) = AV.i .i64 (i_1 + (1:Int)))) cx [(0, { tell := some (.i .i64 (i_1 + (1:Int))) })] [3, 4, 7, 8, 9] [1003] (told_i64 (by omega) (by omega)) ?_
 refine sn ?_
 refine loop_next ((n[i_1.toNat]!.hi + (1:Int), i_1 + (1:Int), o_2)) (by kernel_rfl) (show ((↑n.length:Int) - (i_1 + (1:Int))).toNat < ((↑n.length:Int) - i_1).toNat from (by omega)) (show invOt n (n[i_1.toNat]!.hi + (1:Int)) (i_1 + (1:Int)) o_2 from ?g8); rotate_left 1
 refine st_exit 0 (by kernel_rfl) ?_
 refine q_seq_exit ?_
 refine q_seq_exit ?_
 refine q_blk_hit ?_
 refine sn (sq ?_)
 refine sq ?_
 refine rg (A := (AV.b (decide (x_0 ≤ (1000000000:Int))) = AV.b (decide (x_0 ≤ (1000000000:Int))))) cx [(1, { tell := some (.b (decide (x_0 ≤ (1000000000:Int)))) })] [3, 4, 30] [1003] (by kernel_rfl) ?_
 refine sn ?_
 refine st_dec (x_0 ≤ (1000000000:Int)) (by kernel_rfl) (by kernel_rfl) (fun h_12 => ?_) (fun h_12 => ?_)
 refine rg (A := (154 = (154:Nat)) ∧ ((2:Nat) = 2) ∧ ([AV.i .i64 (0:Int), AV.i .i64 (0:Int)].length = (2:Nat)) ∧ (∀ (r : List AV), r ∈ List.map c154 [{ lo := x_0, hi := (1000000000:Int) : Run }] → r.length = 2) ∧ ((List.map c154 o_2).length + (List.map c154 [{ lo := x_0, hi := (1000000000:Int) : Run }]).length ≤ maxLen) ∧ (((List.map c154 o_2).length + (List.map c154 [{ lo := x_0, hi := (1000000000:Int) : Run }]).length) * (16:Nat) ≤ (140737488355328:Nat)) ∧ (List.map c154 o_2 ++ List.map c154 [{ lo := x_0, hi := (1000000000:Int) : Run }] = List.map c154 (o_2 ++ [{ lo := x_0, hi := (1000000000:Int) : Run }]))) cx [(4, { rows := some (List.map c154 (o_2 ++ [{ lo := x_0, hi := (1000000000:Int) : Run }])) })] [3] [1003] ⟨(by kernel_rfl), (by kernel_rfl), (by kernel_rfl), (by (with_reducible refine len_map (fun _ => ?_) _; kernel_rfl)), ?g9, ?g10, (by (with_reducible refine app_map ?_; kernel_rfl))⟩ ?_; rotate_left 2
 refine sn (sq ?_)
 refine rg (A := True) cx [] [2] [1003] trivial ?_
 refine sn ?_
 refine st_ret (by kernel_rfl) ?_
 refine q_ret (r := .sl (List.map c154 (o_2 ++ [{ lo := x_0, hi := (1000000000:Int) : Run }]))) (obl := []) (by kernel_rfl) trivial (AVle.eq (show AV.sl (List.map c154 (o_2 ++ [{ lo := x_0, hi := (1000000000:Int) : Run }])) = AV.sl (List.map c154 (othL (1:Int) n)) from ?g11)); rotate_left 1
 refine st_skip (by kernel_rfl) ?_
 refine sn (sq ?_)
 refine rg (A := True) cx [] [2] [1003] trivial ?_
 refine sn ?_
 refine st_ret (by kernel_rfl) ?_
 refine q_ret (r := .sl (List.map c154 o_2)) (obl := []) (by kernel_rfl) trivial (AVle.eq (show AV.sl (List.map c154 o_2) = AV.sl (List.map c154 (othL (1:Int) n)) from ?g12)); rotate_left 1
 rotate_left
 revert x_0 i_1 o_2 h_4 h_5 h_6 h_7 h_8 h_9 h_10 h_11; rotate_left
 revert x_0 i_1 o_2 h_4 h_5 h_6 h_7 h_8 h_9 h_10 h_11; rotate_left
 revert x_0 i_1 o_2 h_4 h_5 h_6 h_7 h_8 h_9 h_10 h_11; rotate_left
 revert x_0 i_1 o_2 h_4 h_5 h_6 h_7 h_8 h_9 h_10 h_11; rotate_left
 revert x_0 i_1 o_2 h_4 h_5 h_6 h_7 h_8 h_9 h_10 h_11; rotate_left
 revert x_0 i_1 o_2 h_4 h_5 h_6 h_7 h_8 h_9 h_10 h_11; rotate_left
 revert x_0 i_1 o_2 h_4 h_5 h_6 h_7 h_8 h_9 h_10 h_11; rotate_left
 revert x_0 i_1 o_2 h_4 h_5 h_6 h_7 h_8 h_9 h_10 h_11; rotate_left
 revert x_0 i_1 o_2 h_4 h_5 h_6 h_7 h_8 h_9 h_10 h_12; rotate_left
 revert x_0 i_1 o_2 h_4 h_5 h_6 h_7 h_8 h_9 h_10 h_12; rotate_left
 revert x_0 i_1 o_2 h_4 h_5 h_6 h_7 h_8 h_9 h_10 h_12; rotate_left
 revert x_0 i_1 o_2 h_4 h_5 h_6 h_7 h_8 h_9 h_10 h_12; rotate_left
 case g0 => exact ⟨by omega, by omega, by simp, by omega, by omega, rfl⟩
 case g5 => intro x i o k0 k1 k2 k3 k4 k5 k6 k7; have := hr i k0 k6; exact ⟨by omega, by omega, by simp only [List.length_append, List.length_cons, List.length_nil]; omega, by omega, by omega, ot_in k0 k6 k5 k7⟩
 case g8 => intro x i o k0 k1 k2 k3 k4 k5 k6 k7; have := hr i k0 k6; exact ⟨by omega, by omega, by omega, by omega, by omega, ot_out k0 k6 k5 k7⟩
 case g2 => intro x i o k0 k1 k2 k3 k4 k5 k6 k7; simp only [List.length_map, List.length_cons, List.length_nil]; omega
 case g9 => intro x i o k0 k1 k2 k3 k4 k5 k6 k7; simp only [List.length_map, List.length_cons, List.length_nil, Go.maxLen]; omega
 case g10 => intro x i o k0 k1 k2 k3 k4 k5 k6 k7; simp only [List.length_map, List.length_cons, List.length_nil]; omega
 case g11 => intro x i o k0 k1 k2 k3 k4 k5 k6 k7; rw [ot_end1 k6 k5 k7]
 case g12 => intro x i o k0 k1 k2 k3 k4 k5 k6 k7; rw [ot_end2 k6 k5 k7]
 all_goals (intro x i o k0 k1 k2 k3 k4 k5 k6 k7; have := hr i k0 k6; omega)
theorem con150 (a b : List Run) (ha : a.length * 16 ≤ 140737488351232) (hb : b.length * 16 ≤ 140737488351232) : Con Tryz.prog 150 [.sl (a.map c154), .sl (b.map c154)] (.sl ((minR a b).map c154)) :=
 by
 have h2 := sepR_len (oth_sep b)
 refine con_lens 0 (c154) (a) (by kernel_rfl) Go.Proofs.Tryz.func150 (by kernel_rfl) fun hl_0 => ?_
 refine con_lens 1 (c154) (b) (by kernel_rfl) Go.Proofs.Tryz.func150 (by kernel_rfl) fun hl_1 => ?_
 refine st_con tab_ok (by kernel_rfl) [.tmp 4] 10 Go.Proofs.Tryz.func150 (by kernel_rfl) (by kernel_rfl) ?_
 intro e0 cx
 refine sq ?_
 refine rg (A := True) cx [] [0, 1] [] trivial ?_
 refine sn (sq ?_)
 have hl_0 := (rng_nrm b)
 refine rg (A := _ ∧ _ ∧ _) cx [(2, { val := some (.sl (List.map c154 (nrm b))) }), (3, { val := some (.sl (List.map c154 (othL (1:Int) (nrm b)))) }), (4, { val := some (.sl (List.map c154 (metR a (othL (1:Int) (nrm b))))) })] [4] [] ⟨(con182 (b) (by (with_reducible assumption))), (con185 (nrm b) ?g0), (con184 (a) (othL (1:Int) (nrm b)) (by (with_reducible assumption)) ?g1)⟩ ?_; rotate_left 2
 refine sn ?_
 refine st_ret (by kernel_rfl) ?_
 refine q_ret (r := .sl (List.map c154 (metR a (othL (1:Int) (nrm b))))) (obl := []) (by kernel_rfl) trivial (AVle.eq (show AV.sl (List.map c154 (metR a (othL (1:Int) (nrm b)))) = AV.sl (List.map c154 (minR a b)) from ?g2)); rotate_left 1
 case g0 => exact nrm_sep b
 case g1 => omega
 case g2 => rfl
theorem con149 (a b : Past) (ha : a.cloud.length * 16 ≤ 140737488350000) (hb : b.cloud.length * 16 ≤ 140737488350000) : Con Tryz.prog 149 [.agg (c26 a), .agg (c26 b), .fn (.func 150) [] []] (.agg (c26 (minusP a b))) :=
 by
 refine st_con tab_ok (by kernel_rfl) [.cell 6 26] 38 Go.Proofs.Tryz.func149 (by kernel_rfl) (by kernel_rfl) ?_
 intro e0 cx
 refine sq ?_
 refine rg (A := True) cx [] [2, 3, 4, 6] [3, 4, 6] trivial ?_
 refine sn (sq ?_)
 refine ra (A := _ ∧ _) cx [(2, { val := some (.ptr ((152:Nat)) (0) (0) (0)), row := (tabC c154 (16:Nat) (openT [a])) }), (5, { val := some (.ptr ((152:Nat)) (0) (0) (0)), row := (tabC c154 (16:Nat) (openT [b])) })] [2, 6, 7, 8] [6, 12, 15] ⟨(con102 ([a]) ?g0), (con102 ([b]) ?g1)⟩ ?_; rotate_left 2
 refine sn (sq ?_)
 refine sq ?_
 refine rg (A := True) cx [] [2, 6, 7, 8, 16] [6, 12, 15] trivial ?_
 refine sn ?_
 refine st_block 0 (by kernel_rfl) ?_
 refine st_loop (X := Int × (Nat → List Run) × (Nat → List Run)) (fun x => ⟨[(2, .fn (Fn.func (150 : FuncId)) [] []), (6, .ptr (6) (0) (0) (0)), (7, .ptr (12) (0) (0) (0)), (8, .ptr (15) (0) (0) (0)), (16, .i .i64 (x.fst))], [(6, ⟨0, 26, .var [.nl, .nl]⟩), (12, ⟨0, 152, .arr (tabC c154 (16:Nat) x.snd.fst)⟩), (15, ⟨0, 152, .arr (tabC c154 (16:Nat) x.snd.snd)⟩)]⟩) (fun x ↦ decEa x.fst x.snd.fst x.snd.snd) (fun x ↦ invEa (openT [a]) (openT [b]) x.fst x.snd.fst x.snd.snd) [2, 6, 7, 8, 16] [6, 12, 15] (((0:Int), openT [a], openT [b])) (by kernel_rfl) (by kernel_rfl) (show invEa (openT [a]) (openT [b]) (0:Int) (openT [a]) (openT [b]) from ?g2) ?_; rotate_left 1
 rintro ⟨r_0, T_1, U_2⟩ h_3
 obtain ⟨h_4, h_5, h_6, h_7⟩ : U_2 = openT [b] ∧ (0:Int) ≤ r_0 ∧ r_0 ≤ (16:Int) ∧ isEa (openT [a]) (openT [b]) r_0 T_1 := h_3
 refine sq ?_
 refine rg (A := (AV.b (decide (r_0 < (16:Int))) = AV.b (decide (r_0 < (16:Int))))) cx [(0, { tell := some (.b (decide (r_0 < (16:Int)))) })] [2, 6, 7, 8, 16, 17] [6, 12, 15] (by kernel_rfl) ?_
 refine sn (sq ?_)
 refine st_dec (r_0 < (16:Int)) (by kernel_rfl) (by kernel_rfl) (fun h_8 => ?_) (fun h_8 => ?_)
 refine st_skip (by kernel_rfl) ?_
 refine sn (sq ?_)
 refine st_block 1 (by kernel_rfl) ?_
 refine sq ?_
 refine rg (A := True) cx [] [2, 6, 7, 8, 16, 9] [6, 12, 15] trivial ?_
 refine sn ?_
 refine ra (A := ((0:Int) ≤ r_0) ∧ (r_0 < (↑(16:Nat):Int)) ∧ ((tabC c154 (16:Nat) T_1)[r_0.toNat * (1:Nat) + 0]? = some (AV.sl (List.map c154 (T_1 r_0.toNat)))) ∧ ((0:Int) ≤ r_0) ∧ (r_0 < (↑(16:Nat):Int)) ∧ ((tabC c154 (16:Nat) U_2)[r_0.toNat * (1:Nat) + 0]? = some (AV.sl (List.map c154 (U_2 r_0.toNat)))) ∧ _ ∧ ((0:Int) ≤ r_0) ∧ (r_0 < (↑(16:Nat):Int)) ∧ (r_0.toNat * (1:Nat) + 0 < (tabC c154 (16:Nat) T_1).length) ∧ (cellsA (AV.sl (List.map c154 (minR (T_1 r_0.toNat) (U_2 r_0.toNat)))) = [(cellsA (AV.sl (List.map c154 (minR (T_1 r_0.toNat) (U_2 r_0.toNat))))).headD AV.dead]) ∧ ((tabC c154 (16:Nat) T_1).set (r_0.toNat * (1:Nat) + 0) ((cellsA (AV.sl (List.map c154 (minR (T_1 r_0.toNat) (U_2 r_0.toNat))))).headD AV.dead) = tabC c154 (16:Nat) (updF T_1 r_0.toNat (minR (T_1 r_0.toNat) (U_2 r_0.toNat))))) cx [(7, { row := [.sl (List.map c154 (T_1 r_0.toNat))] }), (12, { row := [.sl (List.map c154 (U_2 r_0.toNat))] }), (13, { val := some (.sl (List.map c154 (minR (T_1 r_0.toNat) (U_2 r_0.toNat)))) }), (16, { rows := some [(tabC c154 (16:Nat) (updF T_1 r_0.toNat (minR (T_1 r_0.toNat) (U_2 r_0.toNat))))] })] [2, 6, 7, 8, 16] [6, 12, 15] ⟨(by (with_reducible assumption)), (by omega), (by (simp only [Nat.mul_one, Nat.add_zero, Nat.zero_add]; with_reducible refine get_tabC ?_; omega)), (by (with_reducible assumption)), (by omega), (by (simp only [Nat.mul_one, Nat.add_zero, Nat.zero_add]; with_reducible refine get_tabC ?_; omega)), (con150 (T_1 r_0.toNat) (U_2 r_0.toNat) ?g3 ?g4), (by (with_reducible assumption)), (by omega), ?g5, (by kernel_rfl), (by (simp only [Nat.mul_one, Nat.add_zero, Nat.zero_add]; (with_reducible refine set_tabC' ?_); exact Eq.refl _))⟩ ?_; rotate_left 3
 refine q_blk_normal ?_
 refine sn ?_
 refine rg (A := (AV.i .i64 (IntKind.i64.wrap (r_0 + (1:Int))) = AV.i .i64 (r_0 + (1:Int)))) cx [(0, { tell := some (.i .i64 (r_0 + (1:Int))) })] [2, 6, 7, 8, 16] [6, 12, 15] (told_i64 (by omega) (by omega)) ?_
 refine sn ?_
 refine loop_next ((r_0 + (1:Int), updF T_1 r_0.toNat (minR (T_1 r_0.toNat) (U_2 r_0.toNat)), U_2)) (by kernel_rfl) (show ((16:Int) - (r_0 + (1:Int))).toNat < ((16:Int) - r_0).toNat from (by omega)) (show invEa (openT [a]) (openT [b]) (r_0 + (1:Int)) (updF T_1 r_0.toNat (minR (T_1 r_0.toNat) (U_2 r_0.toNat))) U_2 from ?g6); rotate_left 1
 refine st_exit 0 (by kernel_rfl) ?_
 refine q_seq_exit ?_
 refine q_seq_exit ?_
 refine q_blk_hit ?_
 refine sn (sq ?_)
 refine rg (A := _) cx [(1, { val := some (.agg [.sl (List.map c3 (tabP T_1).vec), .sl (List.map c104 (tabP T_1).cloud)]) })] [6] [6] (con103 (T_1) ?g7) ?_; rotate_left 1
 refine sn ?_
 refine st_ret (by kernel_rfl) ?_
 refine q_ret (r := .agg [.sl (List.map c3 (tabP T_1).vec), .sl (List.map c104 (tabP T_1).cloud)]) (obl := []) (by kernel_rfl) trivial (AVle.eq (show AV.agg [AV.sl (List.map c3 (tabP T_1).vec), AV.sl (List.map c104 (tabP T_1).cloud)] = AV.agg (c26 (minusP a b)) from ?g8)); rotate_left 1
 rotate_left
 rotate_left
 rotate_left
 revert r_0 T_1 U_2 h_4 h_5 h_6 h_7 h_8; rotate_left
 revert r_0 T_1 U_2 h_4 h_5 h_6 h_7 h_8; rotate_left
 revert r_0 T_1 U_2 h_4 h_5 h_6 h_7 h_8; rotate_left
 revert r_0 T_1 U_2 h_4 h_5 h_6 h_7 h_8; rotate_left
 revert r_0 T_1 U_2 h_4 h_5 h_6 h_7 h_8; rotate_left
 revert r_0 T_1 U_2 h_4 h_5 h_6 h_7 h_8; rotate_left
 case g0 => exact tot_le ha
 case g1 => exact tot_le hb
 case g2 => exact ⟨rfl, by omega, by omega, ea_start _ _⟩
 case g3 => intro r T U k0 k1 k2 k3 k4; rw [ea_at k1 k4 k3]; exact open_le ha _
 case g4 => intro r T U k0 k1 k2 k3 k4; subst k0; exact open_le hb _
 case g5 => intro r T U k0 k1 k2 k3 k4; rw [tabC_len]; omega
 case g6 => intro r T U k0 k1 k2 k3 k4; subst k0; exact ⟨rfl, by omega, by omega, ea_next k1 k4 k3⟩
 case g7 => intro r T U k0 k1 k2 k3 k4 q hq; rw [k3 q hq, if_pos (by omega)]; have := minR_len (openT [a] q) (openT [b] q); omega
 case g8 => intro r T U k0 k1 k2 k3 k4; rw [ea_end k2 k4 k3]; rfl
theorem con104 (a b : Past) (ha : a.cloud.length * 16 ≤ 140737488350000) (hb : b.cloud.length * 16 ≤ 140737488350000) : Con Tryz.prog 104 [.agg (c26 a), .agg (c26 b)] (.agg (c26 (minusP a b))) :=
 by
 refine st_con tab_ok (by kernel_rfl) [.cell 4 26] 8 Go.Proofs.Tryz.func104 (by kernel_rfl) (by kernel_rfl) ?_
 intro e0 cx
 refine sq ?_
 refine rg (A := True) cx [] [2, 3, 4] [2, 3, 4] trivial ?_
 refine sn (sq ?_)
 refine rg (A := _) cx [(2, { val := some (.agg [.sl (List.map c3 (minusP a b).vec), .sl (List.map c104 (minusP a b).cloud)]) })] [4] [4] (con149 (a) (b) (by (with_reducible assumption)) (by (with_reducible assumption))) ?_
 refine sn ?_
 refine st_ret (by kernel_rfl) ?_
 refine q_ret (r := .agg [.sl (List.map c3 (minusP a b).vec), .sl (List.map c104 (minusP a b).cloud)]) (obl := []) (by kernel_rfl) trivial (AVle.eq (show AV.agg [AV.sl (List.map c3 (minusP a b).vec), AV.sl (List.map c104 (minusP a b).cloud)] = AV.agg (c26 (minusP a b)) from ?g0)); rotate_left 1
 case g0 => exact rfl
end Go.Proofs.YtaiepnaokhpmcaaGreat
namespace Go.Proofs.YtaiepnaokhpmcaaGreat
open Go.E
set_option maxRecDepth 100000
set_option maxHeartbeats 4000000
def minU (U V : Nat → List Run) (r:Nat) : List Run := minR (U r) (V r)
def sepU (U : Nat → List Run) : Prop := ∀ r : Nat, r < 16 → sepR (U r)
def invCb (a b : List Int) (f : Bool → Bool → Bool) (i j:Int) (w : Bool) (t : List Int) : Prop := 0 ≤ i ∧ i ≤ a.length ∧ 0 ≤ j ∧ j ≤ b.length ∧ (t.length:Int) ≤ i + j ∧ isComb f a b i j w t
def decCb (a b : List Int) (i j:Int) (w : Bool) (t : List Int) : Nat := (a.length - i + (b.length - j)).toNat
def isCo (U V : Nat → List Run) (r:Int) (S : Nat → List Int) : Prop := ∀ k : Nat, (k:Int) < r → S k = tnS (minU U V) k
def invCo (U V : Nat → List Run) (r:Int) (A B S : Nat → List Int) : Prop := A = tnS U ∧ B = tnS V ∧ 0 ≤ r ∧ r ≤ 16 ∧ isCo U V r S
def decCo (r:Int) (A B S : Nat → List Int) : Nat := (16 - r).toNat
theorem rule2 (x y : Bool) : ruleB 2 x y = (x && !y) := by unfold ruleB; simp
theorem min_turns {A B : List Run} (hA : sepR A) (hB : sepR B) : combL (ruleB 2) (turnsR A) (turnsR B) false false false = turnsR (minR A B) := by
 refine comb_turns _ rfl hA hB (minR_sep A B) fun n => ?_
 rw [minR_in, nrm_id hA, nrm_id hB, rule2, Bool.and_eq_true, Bool.not_eq_true', hasL_iff, ← Bool.not_eq_true, hasL_iff]
theorem tnS_len {U : Nat → List Run} (h : sepU U) {r : Nat} (hr : r < 16) : (tnS U r).length ≤ 1000000000 := by
 unfold tnS
 rw [turns_len]
 have := sepR_len (h r hr)
 omega
theorem isCo_next {U V : Nat → List Run} {r : Int} {S : Nat → List Int} (hU : sepU U) (hV : sepU V) (h0 : 0 ≤ r) (h1 : r < 16) (h : isCo U V r S) :
  isCo U V (r + 1) (updF S r.toNat (combL (ruleB 2) (tnS U r.toNat) (tnS V r.toNat) false false false)) := by
 intro k hk
 unfold updF
 by_cases e : k = r.toNat
 ·subst e
  rw [if_pos rfl]
  exact min_turns (hU _ (by omega)) (hV _ (by omega))
 ·rw [if_neg e]
  exact h k (by omega)
theorem minR_nrm (a b : List Run) : minR (nrm a) (nrm b) = minR a b := by unfold minR; rw [nrm_nrm, nrm_nrm]
theorem min_tab (a b : Past) : tabP (minU (nrmT (openT [a])) (nrmT (openT [b]))) = minusP a b := tabP_congr fun r _ => minR_nrm _ _
def invRs (U : Nat → List Run) (n r:Int) (S : Nat → List Int) : Prop := S = tnS U ∧ 0 ≤ r ∧ r ≤ 16 ∧ n = sizeT U r.toNat
def decRs (n r:Int) (S : Nat → List Int) : Nat := (16 - r).toNat
def invRt (U : Nat → List Run) (r n0 n k:Int) (S : Nat → List Int) : Prop := S = tnS U ∧ 0 ≤ k ∧ k ≤ 2 * (U r.toNat).length ∧ 2 * (k / 2) = k ∧ n = n0 + sizeR ((U r.toNat).take (k / 2).toNat)
def decRt (U : Nat → List Run) (r n k:Int) (S : Nat → List Int) : Nat := (2 * (U r.toNat).length - k).toNat
theorem nrmT_U {T : Nat → List Run} (r:Nat) : nrm (nrmT T r) = nrmT T r := nrm_nrm _
theorem sizeT_nrm (T : Nat → List Run) : ∀ n : Nat, sizeT (nrmT T) n = sizeT T n
 | 0 => rfl
 | n + 1 => by rw [sizeT, sizeT, sizeT_nrm T n, nrmT_U]; rfl
theorem ruleB_eq {rule i j : Int} (h0 : 0 ≤ i) (j0 : 0 ≤ j) : decide (rule = 1 ∧ i.tmod 2 = 1 ∧ j.tmod 2 = 1 ∨ ¬rule = 1 ∧ rule = 2 ∧ i.tmod 2 = 1 ∧ ¬j.tmod 2 = 1) = ruleB rule (oddI i) (oddI j) := by
 rw [Int.tmod_eq_emod_of_nonneg h0, Int.tmod_eq_emod_of_nonneg j0]
 unfold ruleB oddI
 by_cases a : rule = 1 <;> by_cases b : rule = 2 <;> by_cases c : i % 2 = 1 <;> by_cases d : j % 2 = 1 <;> simp [a, b, c, d] <;> omega
theorem sizeR_two {l : List Run} {k : Int} (h0 : 0 ≤ k) (he : 2 * (k / 2) = k) (h : k + 1 < 2 * l.length) : sizeR (l.take ((k + 2) / 2).toNat) = sizeR (l.take (k / 2).toNat) + (l[(k / 2).toNat]!.hi - l[(k / 2).toNat]!.lo + 1) := by
 rw [show (k + 2) / 2 = k / 2 + 1 by omega]
 exact sizeR_next (by omega) (by omega)
theorem con153 (a b : List Int) (rule:Int) (ha : a.length ≤ 1000000000) (hb : b.length ≤ 1000000000) : Con Tryz.prog 153 [.sl (a.map c3), .sl (b.map c3), .i .i64 rule] (.sl ((combL (ruleB rule) a b false false false).map c3)) :=
 by
 have st : ∀ {f : Bool → Bool → Bool} {i j i' j' u : Int} {w w' : Bool} {t t' : List Int}, 0 ≤ i → i ≤ a.length → 0 ≤ j → j ≤ b.length → (t.length:Int) ≤ i + j → isComb f a b i j w t → (i < a.length ∨ j < b.length) →
   (u = if ¬ j < b.length ∨ (i < a.length ∧ a[i.toNat]! < b[j.toNat]!) then a[i.toNat]! else b[j.toNat]!) →
   (i' = if i < a.length ∧ a[i.toNat]! = u then i + 1 else i) → (j' = if j < b.length ∧ b[j.toNat]! = u then j + 1 else j) → i + j + 1 ≤ i' + j' →
   w' = f (oddI i') (oddI j') → (t' = if w' = w then t else t ++ [u]) → invCb a b f i' j' w' t' := by
  intro f i j i' j' u w w' t t' h0 h1 h2 h3 h4 h5 ho hu hi hj hm hw ht
  refine ⟨?_, ?_, ?_, ?_, ?_, comb_step h0 h2 ho hu hi hj hw ht h5⟩
  ·rw [hi]; split <;> omega
  ·rw [hi]; split <;> omega
  ·rw [hj]; split <;> omega
  ·rw [hj]; split <;> omega
  ·rw [ht]
   split
   ·omega
   ·rw [List.length_append, List.length_singleton]; omega
 refine con_lens 0 (c3) (a) (by kernel_rfl) Go.Proofs.Tryz.func153 (by kernel_rfl) fun hl_0 => ?_
 refine con_lens 1 (c3) (b) (by kernel_rfl) Go.Proofs.Tryz.func153 (by kernel_rfl) fun hl_1 => ?_
 refine st_con tab_ok (by kernel_rfl) [.tmp 6] 116 Go.Proofs.Tryz.func153 (by kernel_rfl) (by kernel_rfl) ?_
 intro e0 cx
 refine sq ?_
 refine rg (A := True) cx [] [0, 1, 2] [] trivial ?_
 refine sn (sq ?_)
 refine rg (A := True) cx [] [0, 1, 2, 7] [] trivial ?_
 refine sn (sq ?_)
 refine rg (A := True) cx [] [0, 1, 2, 7, 8, 9] [] trivial ?_
 refine sn (sq ?_)
 refine rg (A := True) cx [] [0, 1, 2, 7, 8, 9, 10] [] trivial ?_
 refine sn (sq ?_)
 refine st_block 0 (by kernel_rfl) ?_
 refine awp_adopt 7 1007 3 1 (σ' := ⟨[(0, .sl (List.map c3 a)), (1, .sl (List.map c3 b)), (2, .i .i64 (rule)), (7, .own 1007 0), (8, .i .i64 ((0:Int))), (9, .i .i64 ((0:Int))), (10, .b (false))], [(1007, ⟨0, 3, .row 1 (List.map c3 [])⟩)]⟩) (by kernel_rfl) ?_
 refine st_loop (X := Int × Int × Bool × List Int) (fun x => ⟨[(0, .sl (List.map c3 a)), (1, .sl (List.map c3 b)), (2, .i .i64 (rule)), (7, .own 1007 0), (8, .i .i64 (x.fst)), (9, .i .i64 (x.snd.fst)), (10, .b (x.snd.snd.fst))], [(1007, ⟨0, 3, .row 1 (List.map c3 x.snd.snd.snd)⟩)]⟩) (fun x ↦ decCb a b x.fst x.snd.fst x.snd.snd.fst x.snd.snd.snd) (fun x ↦ invCb a b (ruleB rule) x.fst x.snd.fst x.snd.snd.fst x.snd.snd.snd) [0, 1, 2, 7, 8, 9, 10] [1007] (((0:Int), (0:Int), false, [])) (by kernel_rfl) (by kernel_rfl) (show invCb a b (ruleB rule) (0:Int) (0:Int) false [] from ?g0) ?_; rotate_left 1
 rintro ⟨i_0, j_1, w_2, t_3⟩ h_4
 obtain ⟨h_5, h_6, h_7, h_8, h_9, h_10⟩ : (0:Int) ≤ i_0 ∧ i_0 ≤ (↑a.length:Int) ∧ (0:Int) ≤ j_1 ∧ j_1 ≤ (↑b.length:Int) ∧ (↑t_3.length:Int) ≤ i_0 + j_1 ∧ isComb (ruleB rule) a b i_0 j_1 w_2 t_3 := h_4
 refine sq ?_
 refine sq ?_
 refine st_join (σ' := ⟨[(0, .sl (List.map c3 a)), (1, .sl (List.map c3 b)), (2, .i .i64 (rule)), (7, .own 1007 0), (8, .i .i64 (i_0)), (9, .i .i64 (j_1)), (10, .b (w_2)), (24, .b (decide (i_0 < (↑a.length:Int) ∨ j_1 < (↑b.length:Int))))], [(1007, ⟨0, 3, .row 1 (List.map c3 t_3)⟩)]⟩) ?_ ?_
 refine st_split (i_0 < (↑a.length:Int)) (fun h_12 => ?_) (fun h_12 => ?_)
 refine rg (A := _ ∧ _ ∧ (AV.b true = AV.b (decide (i_0 < (↑a.length:Int) ∨ j_1 < (↑b.length:Int))))) cx [(2, { tell := some (.i .i64 ((↑a.length:Int))) }), (3, { tell := some (.b (true)) }), (9, { tell := some (.b (decide (i_0 < (↑a.length:Int) ∨ j_1 < (↑b.length:Int)))) })] [0, 1, 2, 7, 8, 9, 10, 24] [1007] ⟨(told_len c3 a), (told_true h_12), (by simp only [eq_true h_12, told_simp1, told_simp2, and_true, true_and, and_false, false_and, or_true, true_or, or_false, false_or, not_true_eq_false, not_false_eq_true, decide_true, decide_false, Bool.decide_eq_true])⟩ ?_
 exact ⟨rfl, by kernel_rfl⟩
 refine rg (A := _ ∧ _ ∧ _ ∧ (AV.b (decide (j_1 < (↑b.length:Int))) = AV.b (decide (j_1 < (↑b.length:Int)))) ∧ (AV.b (decide (j_1 < (↑b.length:Int))) = AV.b (decide (i_0 < (↑a.length:Int) ∨ j_1 < (↑b.length:Int))))) cx [(2, { tell := some (.i .i64 ((↑a.length:Int))) }), (3, { tell := some (.b (false)) }), (7, { tell := some (.i .i64 ((↑b.length:Int))) }), (8, { tell := some (.b (decide (j_1 < (↑b.length:Int)))) }), (9, { tell := some (.b (decide (i_0 < (↑a.length:Int) ∨ j_1 < (↑b.length:Int)))) })] [0, 1, 2, 7, 8, 9, 10, 24] [1007] ⟨(told_len c3 a), (told_false h_12), (told_len c3 b), (by kernel_rfl), (by simp only [eq_false h_12, told_simp1, told_simp2, and_true, true_and, and_false, false_and, or_true, true_or, or_false, false_or, not_true_eq_false, not_false_eq_true, decide_true, decide_false, Bool.decide_eq_true])⟩ ?_
 exact ⟨rfl, by kernel_rfl⟩
 refine sn ?_
 refine st_dec (i_0 < (↑a.length:Int) ∨ j_1 < (↑b.length:Int)) (by kernel_rfl) (by kernel_rfl) (fun h_13 => ?_) (fun h_13 => ?_)
 refine st_skip (by kernel_rfl) ?_
 refine sn ?_
 refine st_block 1 (by kernel_rfl) ?_
 refine sq ?_
 refine rg (A := True) cx [] [0, 1, 2, 7, 8, 9, 10] [1007] trivial ?_
 refine sn (sq ?_)
 refine sq ?_
 refine st_join (σ' := ⟨[(0, .sl (List.map c3 a)), (1, .sl (List.map c3 b)), (2, .i .i64 (rule)), (7, .own 1007 0), (8, .i .i64 (i_0)), (9, .i .i64 (j_1)), (10, .b (w_2)), (45, .b (decide (j_1 = (↑b.length:Int) ∨ i_0 < (↑a.length:Int) ∧ a[i_0.toNat]! < b[j_1.toNat]!)))], [(1007, ⟨0, 3, .row 1 (List.map c3 t_3)⟩)]⟩) ?_ ?_
 refine st_split (j_1 = (↑b.length:Int)) (fun h_15 => ?_) (fun h_15 => ?_)
 refine ra (A := _ ∧ _ ∧ (AV.b true = AV.b (decide (j_1 = (↑b.length:Int) ∨ i_0 < (↑a.length:Int) ∧ a[i_0.toNat]! < b[j_1.toNat]!)))) cx [(2, { tell := some (.i .i64 ((↑b.length:Int))) }), (3, { tell := some (.b (true)) }), (20, { tell := some (.b (decide (j_1 = (↑b.length:Int) ∨ i_0 < (↑a.length:Int) ∧ a[i_0.toNat]! < b[j_1.toNat]!))) })] [0, 1, 2, 7, 8, 9, 10, 45] [1007] ⟨(told_len c3 b), (told_true h_15), (by simp only [eq_true h_15, told_simp1, told_simp2, and_true, true_and, and_false, false_and, or_true, true_or, or_false, false_or, not_true_eq_false, not_false_eq_true, decide_true, decide_false, Bool.decide_eq_true])⟩ ?_
 exact ⟨rfl, by kernel_rfl⟩
 refine st_split (i_0 < (↑a.length:Int)) (fun h_16 => ?_) (fun h_16 => ?_)
 refine ra (A := _ ∧ _ ∧ _ ∧ _ ∧ ((0:Int) ≤ i_0) ∧ ((List.map c3 a)[i_0.toNat]? = some (c3 a[i_0.toNat]!)) ∧ ((c3 a[i_0.toNat]!).length = (1:Nat)) ∧ ((0:Int) ≤ j_1) ∧ ((List.map c3 b)[j_1.toNat]? = some (c3 b[j_1.toNat]!)) ∧ ((c3 b[j_1.toNat]!).length = (1:Nat)) ∧ (AV.b (decide (a[i_0.toNat]! < b[j_1.toNat]!)) = AV.b (decide (a[i_0.toNat]! < b[j_1.toNat]!))) ∧ (AV.b (decide (a[i_0.toNat]! < b[j_1.toNat]!)) = AV.b (decide (j_1 = (↑b.length:Int) ∨ i_0 < (↑a.length:Int) ∧ a[i_0.toNat]! < b[j_1.toNat]!)))) cx [(2, { tell := some (.i .i64 ((↑b.length:Int))) }), (3, { tell := some (.b (false)) }), (7, { tell := some (.i .i64 ((↑a.length:Int))) }), (8, { tell := some (.b (true)) }), (12, { row := (c3 a[i_0.toNat]!) }), (16, { row := (c3 b[j_1.toNat]!) }), (18, { tell := some (.b (decide (a[i_0.toNat]! < b[j_1.toNat]!))) }), (20, { tell := some (.b (decide (j_1 = (↑b.length:Int) ∨ i_0 < (↑a.length:Int) ∧ a[i_0.toNat]! < b[j_1.toNat]!))) })] [0, 1, 2, 7, 8, 9, 10, 45] [1007] ⟨(told_len c3 b), (told_false h_15), (told_len c3 a), (told_true h_16), (by (with_reducible assumption)), (by (with_reducible refine get_map ?_; omega)), (by kernel_rfl), (by (with_reducible assumption)), (by (with_reducible refine get_map ?_; omega)), (by kernel_rfl), (by kernel_rfl), (by simp only [eq_false h_15, eq_true h_16, told_simp1, told_simp2, and_true, true_and, and_false, false_and, or_true, true_or, or_false, false_or, not_true_eq_false, not_false_eq_true, decide_true, decide_false, Bool.decide_eq_true])⟩ ?_
 exact ⟨rfl, by kernel_rfl⟩
 refine ra (A := _ ∧ _ ∧ _ ∧ _ ∧ (AV.b false = AV.b (decide (j_1 = (↑b.length:Int) ∨ i_0 < (↑a.length:Int) ∧ a[i_0.toNat]! < b[j_1.toNat]!)))) cx [(2, { tell := some (.i .i64 ((↑b.length:Int))) }), (3, { tell := some (.b (false)) }), (7, { tell := some (.i .i64 ((↑a.length:Int))) }), (8, { tell := some (.b (false)) }), (20, { tell := some (.b (decide (j_1 = (↑b.length:Int) ∨ i_0 < (↑a.length:Int) ∧ a[i_0.toNat]! < b[j_1.toNat]!))) })] [0, 1, 2, 7, 8, 9, 10, 45] [1007] ⟨(told_len c3 b), (told_false h_15), (told_len c3 a), (told_false h_16), (by simp only [eq_false h_15, eq_false h_16, told_simp1, told_simp2, and_true, true_and, and_false, false_and, or_true, true_or, or_false, false_or, not_true_eq_false, not_false_eq_true, decide_true, decide_false, Bool.decide_eq_true])⟩ ?_
 exact ⟨rfl, by kernel_rfl⟩
 refine sn ?_
 refine st_dec (j_1 = (↑b.length:Int) ∨ i_0 < (↑a.length:Int) ∧ a[i_0.toNat]! < b[j_1.toNat]!) (by kernel_rfl) (by kernel_rfl) (fun h_17 => ?_) (fun h_17 => ?_)
 refine rg (A := ((0:Int) ≤ i_0) ∧ ((List.map c3 a)[i_0.toNat]? = some (c3 a[i_0.toNat]!)) ∧ ((c3 a[i_0.toNat]!).length = (1:Nat))) cx [(2, { row := (c3 a[i_0.toNat]!) })] [0, 1, 2, 7, 8, 9, 10, 11] [1007] ⟨(by (with_reducible assumption)), (by (with_reducible refine get_map ?_; omega)), (by kernel_rfl)⟩ ?_
 refine sn (sq ?_)
 refine sq ?_
 refine st_split (i_0 < (↑a.length:Int)) (fun h_18 => ?_) (fun h_18 => absurd (by omega) h_18)
 refine rg (A := _ ∧ _ ∧ ((0:Int) ≤ i_0) ∧ ((List.map c3 a)[i_0.toNat]? = some (c3 a[i_0.toNat]!)) ∧ ((c3 a[i_0.toNat]!).length = (1:Nat)) ∧ (AV.b (a[i_0.toNat]! == a[i_0.toNat]!) = AV.b true)) cx [(2, { tell := some (.i .i64 ((↑a.length:Int))) }), (3, { tell := some (.b (true)) }), (7, { row := (c3 a[i_0.toNat]!) }), (10, { tell := some (.b (true)) })] [0, 1, 2, 7, 8, 9, 10, 11, 65] [1007] ⟨(told_len c3 a), (told_true h_18), (by (with_reducible assumption)), (by (with_reducible refine get_map ?_; omega)), (by kernel_rfl), (told_ies)⟩ ?_
 refine sn ?_
 refine st_true (by kernel_rfl) (by kernel_rfl) ?_
 refine rg (A := (AV.i .i64 (IntKind.i64.wrap (i_0 + (1:Int))) = AV.i .i64 (i_0 + (1:Int)))) cx [(1, { tell := some (.i .i64 (i_0 + (1:Int))) })] [0, 1, 2, 7, 8, 9, 10, 11] [1007] (told_i64 (by omega) (by omega)) ?_
 refine sn (sq ?_)
 refine sq ?_
 refine st_join (σ' := ⟨[(0, .sl (List.map c3 a)), (1, .sl (List.map c3 b)), (2, .i .i64 (rule)), (7, .own 1007 0), (8, .i .i64 (i_0 + (1:Int))), (9, .i .i64 (j_1)), (10, .b (w_2)), (11, .i .i64 (a[i_0.toNat]!)), (79, .b (decide (j_1 < (↑b.length:Int) ∧ b[j_1.toNat]! = a[i_0.toNat]!)))], [(1007, ⟨0, 3, .row 1 (List.map c3 t_3)⟩)]⟩) ?_ ?_
 refine st_split (j_1 < (↑b.length:Int)) (fun h_20 => ?_) (fun h_20 => ?_)
 refine rg (A := _ ∧ _ ∧ ((0:Int) ≤ j_1) ∧ ((List.map c3 b)[j_1.toNat]? = some (c3 b[j_1.toNat]!)) ∧ ((c3 b[j_1.toNat]!).length = (1:Nat)) ∧ (AV.b (b[j_1.toNat]! == a[i_0.toNat]!) = AV.b (decide (b[j_1.toNat]! = a[i_0.toNat]!))) ∧ (AV.b (decide (b[j_1.toNat]! = a[i_0.toNat]!)) = AV.b (decide (j_1 < (↑b.length:Int) ∧ b[j_1.toNat]! = a[i_0.toNat]!)))) cx [(2, { tell := some (.i .i64 ((↑b.length:Int))) }), (3, { tell := some (.b (true)) }), (7, { row := (c3 b[j_1.toNat]!) }), (10, { tell := some (.b (decide (b[j_1.toNat]! = a[i_0.toNat]!))) }), (11, { tell := some (.b (decide (j_1 < (↑b.length:Int) ∧ b[j_1.toNat]! = a[i_0.toNat]!))) })] [0, 1, 2, 7, 8, 9, 10, 11, 79] [1007] ⟨(told_len c3 b), (told_true h_20), (by (with_reducible assumption)), (by (with_reducible refine get_map ?_; omega)), (by kernel_rfl), (by kernel_rfl), (by simp only [eq_true h_20, told_simp1, told_simp2, and_true, true_and, and_false, false_and, or_true, true_or, or_false, false_or, not_true_eq_false, not_false_eq_true, decide_true, decide_false, Bool.decide_eq_true])⟩ ?_
 exact ⟨rfl, by kernel_rfl⟩
 refine rg (A := _ ∧ _ ∧ (AV.b false = AV.b (decide (j_1 < (↑b.length:Int) ∧ b[j_1.toNat]! = a[i_0.toNat]!)))) cx [(2, { tell := some (.i .i64 ((↑b.length:Int))) }), (3, { tell := some (.b (false)) }), (11, { tell := some (.b (decide (j_1 < (↑b.length:Int) ∧ b[j_1.toNat]! = a[i_0.toNat]!))) })] [0, 1, 2, 7, 8, 9, 10, 11, 79] [1007] ⟨(told_len c3 b), (told_false h_20), (by simp only [eq_false h_20, told_simp1, told_simp2, and_true, true_and, and_false, false_and, or_true, true_or, or_false, false_or, not_true_eq_false, not_false_eq_true, decide_true, decide_false, Bool.decide_eq_true])⟩ ?_
 exact ⟨rfl, by kernel_rfl⟩
 refine sn ?_
 refine st_dec (j_1 < (↑b.length:Int) ∧ b[j_1.toNat]! = a[i_0.toNat]!) (by kernel_rfl) (by kernel_rfl) (fun h_21 => ?_) (fun h_21 => ?_)
 refine rg (A := (AV.i .i64 (IntKind.i64.wrap (j_1 + (1:Int))) = AV.i .i64 (j_1 + (1:Int)))) cx [(1, { tell := some (.i .i64 (j_1 + (1:Int))) })] [0, 1, 2, 7, 8, 9, 10, 11] [1007] (told_i64 (by omega) (by omega)) ?_
 refine sn (sq ?_)
 refine rg (A := (AV.i .i64 ((i_0 + (1:Int)).tmod (2:Int)) = AV.i .i64 ((i_0 + (1:Int)).tmod (2:Int))) ∧ (AV.b ((i_0 + (1:Int)).tmod (2:Int) == (1:Int)) = AV.b (decide ((i_0 + (1:Int)).tmod (2:Int) = (1:Int)))) ∧ (AV.i .i64 ((j_1 + (1:Int)).tmod (2:Int)) = AV.i .i64 ((j_1 + (1:Int)).tmod (2:Int))) ∧ (AV.b ((j_1 + (1:Int)).tmod (2:Int) == (1:Int)) = AV.b (decide ((j_1 + (1:Int)).tmod (2:Int) = (1:Int))))) cx [(1, { tell := some (.i .i64 ((i_0 + (1:Int)).tmod (2:Int))) }), (2, { tell := some (.b (decide ((i_0 + (1:Int)).tmod (2:Int) = (1:Int)))) }), (4, { tell := some (.i .i64 ((j_1 + (1:Int)).tmod (2:Int))) }), (5, { tell := some (.b (decide ((j_1 + (1:Int)).tmod (2:Int) = (1:Int)))) })] [0, 1, 2, 7, 8, 9, 10, 11, 12, 13] [1007] ⟨(by kernel_rfl), (by kernel_rfl), (by kernel_rfl), (by kernel_rfl)⟩ ?_
 refine sn (sq ?_)
 refine st_split (rule = (1:Int)) (fun h_22 => ?_) (fun h_22 => absurd (by omega) h_22)
 refine st_split ((i_0 + (1:Int)).tmod (2:Int) = (1:Int)) (fun h_23 => ?_) (fun h_23 => absurd (by omega) h_23)
 refine st_split ((j_1 + (1:Int)).tmod (2:Int) = (1:Int)) (fun h_24 => ?_) (fun h_24 => absurd (by omega) h_24)
 refine rg (A := _ ∧ _ ∧ _) cx [(1, { tell := some (.b (true)) }), (3, { tell := some (.b (true)) }), (6, { tell := some (.b (true)) })] [0, 1, 2, 7, 8, 9, 10, 11, 14] [1007] ⟨(told_true h_22), (told_true h_23), (told_true h_24)⟩ ?_
 refine sn (sq ?_)
 refine rg (A := ((AV.b !true == w_2) = AV.b (decide ¬true = w_2))) cx [(2, { tell := some (.b (decide ¬true = w_2)) })] [0, 1, 2, 7, 8, 9, 10, 11, 14, 109] [1007] (told_bne) ?_
 refine sn ?_
 refine st_dec (¬true = w_2) (by kernel_rfl) (by kernel_rfl) (fun h_25 => ?_) (fun h_25 => ?_)
 refine sq ?_
 refine rg (A := (3 = (3:Nat)) ∧ ((1:Nat) = 1) ∧ ([AV.i .i64 (0:Int)].length = (1:Nat)) ∧ (∀ (r : List AV), r ∈ List.map c3 [a[i_0.toNat]!] → r.length = 1) ∧ ((List.map c3 t_3).length + (List.map c3 [a[i_0.toNat]!]).length ≤ maxLen) ∧ (((List.map c3 t_3).length + (List.map c3 [a[i_0.toNat]!]).length) * (8:Nat) ≤ (140737488355328:Nat)) ∧ (List.map c3 t_3 ++ List.map c3 [a[i_0.toNat]!] = List.map c3 (t_3 ++ [a[i_0.toNat]!]))) cx [(3, { rows := some (List.map c3 (t_3 ++ [a[i_0.toNat]!])) })] [0, 1, 2, 7, 8, 9, 14] [1007] ⟨(by kernel_rfl), (by kernel_rfl), (by kernel_rfl), (by (with_reducible refine len_map (fun _ => ?_) _; kernel_rfl)), (by omega), (by omega), (by (with_reducible refine app_map ?_; kernel_rfl))⟩ ?_
 refine sn ?_
 refine rg (A := True) cx [] [0, 1, 2, 7, 8, 9, 10] [1007] trivial ?_
 refine q_blk_normal ?_
 refine sn ?_
 refine loop_next ((i_0 + (1:Int), j_1 + (1:Int), true, t_3 ++ [a[i_0.toNat]!])) (by kernel_rfl) (show ((↑a.length:Int) - (i_0 + (1:Int)) + ((↑b.length:Int) - (j_1 + (1:Int)))).toNat < ((↑a.length:Int) - i_0 + ((↑b.length:Int) - j_1)).toNat from (by omega)) (show invCb a b (ruleB rule) (i_0 + (1:Int)) (j_1 + (1:Int)) true (t_3 ++ [a[i_0.toNat]!]) from ?g1); rotate_left 1
 refine st_skip (by kernel_rfl) ?_
 refine q_blk_normal ?_
 refine sn ?_
 refine loop_next ((i_0 + (1:Int), j_1 + (1:Int), w_2, t_3)) (by kernel_rfl) (show ((↑a.length:Int) - (i_0 + (1:Int)) + ((↑b.length:Int) - (j_1 + (1:Int)))).toNat < ((↑a.length:Int) - i_0 + ((↑b.length:Int) - j_1)).toNat from (by omega)) (show invCb a b (ruleB rule) (i_0 + (1:Int)) (j_1 + (1:Int)) w_2 t_3 from ?g2); rotate_left 1
 refine st_skip (by kernel_rfl) ?_
 refine sn (sq ?_)
 refine rg (A := (AV.i .i64 ((i_0 + (1:Int)).tmod (2:Int)) = AV.i .i64 ((i_0 + (1:Int)).tmod (2:Int))) ∧ (AV.b ((i_0 + (1:Int)).tmod (2:Int) == (1:Int)) = AV.b (decide ((i_0 + (1:Int)).tmod (2:Int) = (1:Int)))) ∧ (AV.i .i64 (j_1.tmod (2:Int)) = AV.i .i64 (j_1.tmod (2:Int))) ∧ (AV.b (j_1.tmod (2:Int) == (1:Int)) = AV.b (decide (j_1.tmod (2:Int) = (1:Int))))) cx [(1, { tell := some (.i .i64 ((i_0 + (1:Int)).tmod (2:Int))) }), (2, { tell := some (.b (decide ((i_0 + (1:Int)).tmod (2:Int) = (1:Int)))) }), (4, { tell := some (.i .i64 (j_1.tmod (2:Int))) }), (5, { tell := some (.b (decide (j_1.tmod (2:Int) = (1:Int)))) })] [0, 1, 2, 7, 8, 9, 10, 11, 12, 13] [1007] ⟨(by kernel_rfl), (by kernel_rfl), (by kernel_rfl), (by kernel_rfl)⟩ ?_
 refine sn (sq ?_)
 refine st_join (σ' := ⟨[(0, .sl (List.map c3 a)), (1, .sl (List.map c3 b)), (2, .i .i64 (rule)), (7, .own 1007 0), (8, .i .i64 (i_0 + (1:Int))), (9, .i .i64 (j_1)), (10, .b (w_2)), (11, .i .i64 (a[i_0.toNat]!)), (14, .b (decide (rule = (1:Int) ∧ (i_0 + (1:Int)).tmod (2:Int) = (1:Int) ∧ j_1.tmod (2:Int) = (1:Int) ∨ ¬rule = (1:Int) ∧ rule = (2:Int) ∧ (i_0 + (1:Int)).tmod (2:Int) = (1:Int) ∧ ¬j_1.tmod (2:Int) = (1:Int))))], [(1007, ⟨0, 3, .row 1 (List.map c3 t_3)⟩)]⟩) ?_ ?_
 refine st_split (rule = (1:Int)) (fun h_27 => ?_) (fun h_27 => ?_)
 refine st_split ((i_0 + (1:Int)).tmod (2:Int) = (1:Int)) (fun h_28 => ?_) (fun h_28 => ?_)
 refine st_split (j_1.tmod (2:Int) = (1:Int)) (fun h_29 => ?_) (fun h_29 => ?_)
 refine rg (A := _ ∧ _ ∧ _ ∧ (AV.b true = AV.b (decide (rule = (1:Int) ∧ (i_0 + (1:Int)).tmod (2:Int) = (1:Int) ∧ j_1.tmod (2:Int) = (1:Int) ∨ ¬rule = (1:Int) ∧ rule = (2:Int) ∧ (i_0 + (1:Int)).tmod (2:Int) = (1:Int) ∧ ¬j_1.tmod (2:Int) = (1:Int))))) cx [(1, { tell := some (.b (true)) }), (3, { tell := some (.b (true)) }), (6, { tell := some (.b (true)) }), (19, { tell := some (.b (decide (rule = (1:Int) ∧ (i_0 + (1:Int)).tmod (2:Int) = (1:Int) ∧ j_1.tmod (2:Int) = (1:Int) ∨ ¬rule = (1:Int) ∧ rule = (2:Int) ∧ (i_0 + (1:Int)).tmod (2:Int) = (1:Int) ∧ ¬j_1.tmod (2:Int) = (1:Int)))) })] [0, 1, 2, 7, 8, 9, 10, 11, 14] [1007] ⟨(told_true h_27), (told_true h_28), (told_true h_29), (by simp only [eq_true h_27, eq_true h_28, eq_true h_29, told_simp1, told_simp2, and_true, true_and, and_false, false_and, or_true, true_or, or_false, false_or, not_true_eq_false, not_false_eq_true, decide_true, decide_false, Bool.decide_eq_true])⟩ ?_
 exact ⟨rfl, by kernel_rfl⟩
 refine st_split (rule = (2:Int)) (fun h_30 => absurd h_30 (by omega)) (fun h_30 => ?_)
 refine rg (A := _ ∧ _ ∧ _ ∧ _ ∧ (AV.b false = AV.b (decide (rule = (1:Int) ∧ (i_0 + (1:Int)).tmod (2:Int) = (1:Int) ∧ j_1.tmod (2:Int) = (1:Int) ∨ ¬rule = (1:Int) ∧ rule = (2:Int) ∧ (i_0 + (1:Int)).tmod (2:Int) = (1:Int) ∧ ¬j_1.tmod (2:Int) = (1:Int))))) cx [(1, { tell := some (.b (true)) }), (3, { tell := some (.b (true)) }), (6, { tell := some (.b (false)) }), (10, { tell := some (.b (false)) }), (19, { tell := some (.b (decide (rule = (1:Int) ∧ (i_0 + (1:Int)).tmod (2:Int) = (1:Int) ∧ j_1.tmod (2:Int) = (1:Int) ∨ ¬rule = (1:Int) ∧ rule = (2:Int) ∧ (i_0 + (1:Int)).tmod (2:Int) = (1:Int) ∧ ¬j_1.tmod (2:Int) = (1:Int)))) })] [0, 1, 2, 7, 8, 9, 10, 11, 14] [1007] ⟨(told_true h_27), (told_true h_28), (told_false h_29), (told_false h_30), (by simp only [eq_true h_27, eq_true h_28, eq_false h_29, told_simp1, told_simp2, and_true, true_and, and_false, false_and, or_true, true_or, or_false, false_or, not_true_eq_false, not_false_eq_true, decide_true, decide_false, Bool.decide_eq_true])⟩ ?_
 exact ⟨rfl, by kernel_rfl⟩
 refine st_split (rule = (2:Int)) (fun h_31 => absurd h_31 (by omega)) (fun h_31 => ?_)
 refine rg (A := _ ∧ _ ∧ _ ∧ (AV.b false = AV.b (decide (rule = (1:Int) ∧ (i_0 + (1:Int)).tmod (2:Int) = (1:Int) ∧ j_1.tmod (2:Int) = (1:Int) ∨ ¬rule = (1:Int) ∧ rule = (2:Int) ∧ (i_0 + (1:Int)).tmod (2:Int) = (1:Int) ∧ ¬j_1.tmod (2:Int) = (1:Int))))) cx [(1, { tell := some (.b (true)) }), (3, { tell := some (.b (false)) }), (10, { tell := some (.b (false)) }), (19, { tell := some (.b (decide (rule = (1:Int) ∧ (i_0 + (1:Int)).tmod (2:Int) = (1:Int) ∧ j_1.tmod (2:Int) = (1:Int) ∨ ¬rule = (1:Int) ∧ rule = (2:Int) ∧ (i_0 + (1:Int)).tmod (2:Int) = (1:Int) ∧ ¬j_1.tmod (2:Int) = (1:Int)))) })] [0, 1, 2, 7, 8, 9, 10, 11, 14] [1007] ⟨(told_true h_27), (told_false h_28), (told_false h_31), (by simp only [eq_true h_27, eq_false h_28, told_simp1, told_simp2, and_true, true_and, and_false, false_and, or_true, true_or, or_false, false_or, not_true_eq_false, not_false_eq_true, decide_true, decide_false, Bool.decide_eq_true])⟩ ?_
 exact ⟨rfl, by kernel_rfl⟩
 refine st_split (rule = (2:Int)) (fun h_32 => ?_) (fun h_32 => ?_)
 refine st_split ((i_0 + (1:Int)).tmod (2:Int) = (1:Int)) (fun h_33 => ?_) (fun h_33 => ?_)
 refine rg (A := _ ∧ _ ∧ _ ∧ ((AV.b !decide (j_1.tmod (2:Int) = (1:Int))) = AV.b (decide ¬j_1.tmod (2:Int) = (1:Int))) ∧ (AV.b (decide ¬j_1.tmod (2:Int) = (1:Int)) = AV.b (decide (rule = (1:Int) ∧ (i_0 + (1:Int)).tmod (2:Int) = (1:Int) ∧ j_1.tmod (2:Int) = (1:Int) ∨ ¬rule = (1:Int) ∧ rule = (2:Int) ∧ (i_0 + (1:Int)).tmod (2:Int) = (1:Int) ∧ ¬j_1.tmod (2:Int) = (1:Int))))) cx [(1, { tell := some (.b (false)) }), (10, { tell := some (.b (true)) }), (12, { tell := some (.b (true)) }), (16, { tell := some (.b (decide ¬j_1.tmod (2:Int) = (1:Int))) }), (19, { tell := some (.b (decide (rule = (1:Int) ∧ (i_0 + (1:Int)).tmod (2:Int) = (1:Int) ∧ j_1.tmod (2:Int) = (1:Int) ∨ ¬rule = (1:Int) ∧ rule = (2:Int) ∧ (i_0 + (1:Int)).tmod (2:Int) = (1:Int) ∧ ¬j_1.tmod (2:Int) = (1:Int)))) })] [0, 1, 2, 7, 8, 9, 10, 11, 14] [1007] ⟨(told_false h_27), (told_true h_32), (told_true h_33), (told_notd), (by simp only [eq_false h_27, eq_true h_32, eq_true h_33, told_simp1, told_simp2, and_true, true_and, and_false, false_and, or_true, true_or, or_false, false_or, not_true_eq_false, not_false_eq_true, decide_true, decide_false, Bool.decide_eq_true])⟩ ?_
 exact ⟨rfl, by kernel_rfl⟩
 refine rg (A := _ ∧ _ ∧ _ ∧ (AV.b false = AV.b (decide (rule = (1:Int) ∧ (i_0 + (1:Int)).tmod (2:Int) = (1:Int) ∧ j_1.tmod (2:Int) = (1:Int) ∨ ¬rule = (1:Int) ∧ rule = (2:Int) ∧ (i_0 + (1:Int)).tmod (2:Int) = (1:Int) ∧ ¬j_1.tmod (2:Int) = (1:Int))))) cx [(1, { tell := some (.b (false)) }), (10, { tell := some (.b (true)) }), (12, { tell := some (.b (false)) }), (19, { tell := some (.b (decide (rule = (1:Int) ∧ (i_0 + (1:Int)).tmod (2:Int) = (1:Int) ∧ j_1.tmod (2:Int) = (1:Int) ∨ ¬rule = (1:Int) ∧ rule = (2:Int) ∧ (i_0 + (1:Int)).tmod (2:Int) = (1:Int) ∧ ¬j_1.tmod (2:Int) = (1:Int)))) })] [0, 1, 2, 7, 8, 9, 10, 11, 14] [1007] ⟨(told_false h_27), (told_true h_32), (told_false h_33), (by simp only [eq_false h_27, eq_true h_32, eq_false h_33, told_simp1, told_simp2, and_true, true_and, and_false, false_and, or_true, true_or, or_false, false_or, not_true_eq_false, not_false_eq_true, decide_true, decide_false, Bool.decide_eq_true])⟩ ?_
 exact ⟨rfl, by kernel_rfl⟩
 refine rg (A := _ ∧ _ ∧ (AV.b false = AV.b (decide (rule = (1:Int) ∧ (i_0 + (1:Int)).tmod (2:Int) = (1:Int) ∧ j_1.tmod (2:Int) = (1:Int) ∨ ¬rule = (1:Int) ∧ rule = (2:Int) ∧ (i_0 + (1:Int)).tmod (2:Int) = (1:Int) ∧ ¬j_1.tmod (2:Int) = (1:Int))))) cx [(1, { tell := some (.b (false)) }), (10, { tell := some (.b (false)) }), (19, { tell := some (.b (decide (rule = (1:Int) ∧ (i_0 + (1:Int)).tmod (2:Int) = (1:Int) ∧ j_1.tmod (2:Int) = (1:Int) ∨ ¬rule = (1:Int) ∧ rule = (2:Int) ∧ (i_0 + (1:Int)).tmod (2:Int) = (1:Int) ∧ ¬j_1.tmod (2:Int) = (1:Int)))) })] [0, 1, 2, 7, 8, 9, 10, 11, 14] [1007] ⟨(told_false h_27), (told_false h_32), (by simp only [eq_false h_27, eq_false h_32, told_simp1, told_simp2, and_true, true_and, and_false, false_and, or_true, true_or, or_false, false_or, not_true_eq_false, not_false_eq_true, decide_true, decide_false, Bool.decide_eq_true])⟩ ?_
 exact ⟨rfl, by kernel_rfl⟩
 refine sn (sq ?_)
 refine rg (A := ((AV.b !decide (rule = (1:Int) ∧ (i_0 + (1:Int)).tmod (2:Int) = (1:Int) ∧ j_1.tmod (2:Int) = (1:Int) ∨ ¬rule = (1:Int) ∧ rule = (2:Int) ∧ (i_0 + (1:Int)).tmod (2:Int) = (1:Int) ∧ ¬j_1.tmod (2:Int) = (1:Int)) == w_2) = AV.b (decide ¬decide (rule = (1:Int) ∧ (i_0 + (1:Int)).tmod (2:Int) = (1:Int) ∧ j_1.tmod (2:Int) = (1:Int) ∨ ¬rule = (1:Int) ∧ rule = (2:Int) ∧ (i_0 + (1:Int)).tmod (2:Int) = (1:Int) ∧ ¬j_1.tmod (2:Int) = (1:Int)) = w_2))) cx [(2, { tell := some (.b (decide ¬decide (rule = (1:Int) ∧ (i_0 + (1:Int)).tmod (2:Int) = (1:Int) ∧ j_1.tmod (2:Int) = (1:Int) ∨ ¬rule = (1:Int) ∧ rule = (2:Int) ∧ (i_0 + (1:Int)).tmod (2:Int) = (1:Int) ∧ ¬j_1.tmod (2:Int) = (1:Int)) = w_2)) })] [0, 1, 2, 7, 8, 9, 10, 11, 14, 109] [1007] (told_bne) ?_
 refine sn ?_
 refine st_dec (¬decide (rule = (1:Int) ∧ (i_0 + (1:Int)).tmod (2:Int) = (1:Int) ∧ j_1.tmod (2:Int) = (1:Int) ∨ ¬rule = (1:Int) ∧ rule = (2:Int) ∧ (i_0 + (1:Int)).tmod (2:Int) = (1:Int) ∧ ¬j_1.tmod (2:Int) = (1:Int)) = w_2) (by kernel_rfl) (by kernel_rfl) (fun h_34 => ?_) (fun h_34 => ?_)
 refine sq ?_
 refine rg (A := (3 = (3:Nat)) ∧ ((1:Nat) = 1) ∧ ([AV.i .i64 (0:Int)].length = (1:Nat)) ∧ (∀ (r : List AV), r ∈ List.map c3 [a[i_0.toNat]!] → r.length = 1) ∧ ((List.map c3 t_3).length + (List.map c3 [a[i_0.toNat]!]).length ≤ maxLen) ∧ (((List.map c3 t_3).length + (List.map c3 [a[i_0.toNat]!]).length) * (8:Nat) ≤ (140737488355328:Nat)) ∧ (List.map c3 t_3 ++ List.map c3 [a[i_0.toNat]!] = List.map c3 (t_3 ++ [a[i_0.toNat]!]))) cx [(3, { rows := some (List.map c3 (t_3 ++ [a[i_0.toNat]!])) })] [0, 1, 2, 7, 8, 9, 14] [1007] ⟨(by kernel_rfl), (by kernel_rfl), (by kernel_rfl), (by (with_reducible refine len_map (fun _ => ?_) _; kernel_rfl)), (by (simp only [Go.maxLen, List.length_map, List.length_append, List.length_cons, List.length_nil]; omega)), (by (simp only [Go.maxLen, List.length_map, List.length_append, List.length_cons, List.length_nil]; omega)), (by (with_reducible refine app_map ?_; kernel_rfl))⟩ ?_
 refine sn ?_
 refine rg (A := True) cx [] [0, 1, 2, 7, 8, 9, 10] [1007] trivial ?_
 refine q_blk_normal ?_
 refine sn ?_
 refine loop_next ((i_0 + (1:Int), j_1, decide (rule = (1:Int) ∧ (i_0 + (1:Int)).tmod (2:Int) = (1:Int) ∧ j_1.tmod (2:Int) = (1:Int) ∨ ¬rule = (1:Int) ∧ rule = (2:Int) ∧ (i_0 + (1:Int)).tmod (2:Int) = (1:Int) ∧ ¬j_1.tmod (2:Int) = (1:Int)), t_3 ++ [a[i_0.toNat]!])) (by kernel_rfl) (show ((↑a.length:Int) - (i_0 + (1:Int)) + ((↑b.length:Int) - j_1)).toNat < ((↑a.length:Int) - i_0 + ((↑b.length:Int) - j_1)).toNat from (by omega)) (show invCb a b (ruleB rule) (i_0 + (1:Int)) j_1 (decide (rule = (1:Int) ∧ (i_0 + (1:Int)).tmod (2:Int) = (1:Int) ∧ j_1.tmod (2:Int) = (1:Int) ∨ ¬rule = (1:Int) ∧ rule = (2:Int) ∧ (i_0 + (1:Int)).tmod (2:Int) = (1:Int) ∧ ¬j_1.tmod (2:Int) = (1:Int))) (t_3 ++ [a[i_0.toNat]!]) from ?g3); rotate_left 1
 refine st_skip (by kernel_rfl) ?_
 refine q_blk_normal ?_
 refine sn ?_
 refine loop_next ((i_0 + (1:Int), j_1, w_2, t_3)) (by kernel_rfl) (show ((↑a.length:Int) - (i_0 + (1:Int)) + ((↑b.length:Int) - j_1)).toNat < ((↑a.length:Int) - i_0 + ((↑b.length:Int) - j_1)).toNat from (by omega)) (show invCb a b (ruleB rule) (i_0 + (1:Int)) j_1 w_2 t_3 from ?g4); rotate_left 1
 refine rg (A := ((0:Int) ≤ j_1) ∧ ((List.map c3 b)[j_1.toNat]? = some (c3 b[j_1.toNat]!)) ∧ ((c3 b[j_1.toNat]!).length = (1:Nat))) cx [(2, { row := (c3 b[j_1.toNat]!) })] [0, 1, 2, 7, 8, 9, 10, 11] [1007] ⟨(by (with_reducible assumption)), (by (with_reducible refine get_map ?_; omega)), (by kernel_rfl)⟩ ?_
 refine sn (sq ?_)
 refine sq ?_
 refine st_join (σ' := ⟨[(0, .sl (List.map c3 a)), (1, .sl (List.map c3 b)), (2, .i .i64 (rule)), (7, .own 1007 0), (8, .i .i64 (i_0)), (9, .i .i64 (j_1)), (10, .b (w_2)), (11, .i .i64 (b[j_1.toNat]!)), (65, .b (decide (i_0 < (↑a.length:Int) ∧ a[i_0.toNat]! = b[j_1.toNat]!)))], [(1007, ⟨0, 3, .row 1 (List.map c3 t_3)⟩)]⟩) ?_ ?_
 refine st_split (i_0 < (↑a.length:Int)) (fun h_36 => ?_) (fun h_36 => ?_)
 refine rg (A := _ ∧ _ ∧ ((0:Int) ≤ i_0) ∧ ((List.map c3 a)[i_0.toNat]? = some (c3 a[i_0.toNat]!)) ∧ ((c3 a[i_0.toNat]!).length = (1:Nat)) ∧ (AV.b (a[i_0.toNat]! == b[j_1.toNat]!) = AV.b (decide (a[i_0.toNat]! = b[j_1.toNat]!))) ∧ (AV.b (decide (a[i_0.toNat]! = b[j_1.toNat]!)) = AV.b (decide (i_0 < (↑a.length:Int) ∧ a[i_0.toNat]! = b[j_1.toNat]!)))) cx [(2, { tell := some (.i .i64 ((↑a.length:Int))) }), (3, { tell := some (.b (true)) }), (7, { row := (c3 a[i_0.toNat]!) }), (10, { tell := some (.b (decide (a[i_0.toNat]! = b[j_1.toNat]!))) }), (11, { tell := some (.b (decide (i_0 < (↑a.length:Int) ∧ a[i_0.toNat]! = b[j_1.toNat]!))) })] [0, 1, 2, 7, 8, 9, 10, 11, 65] [1007] ⟨(told_len c3 a), (told_true h_36), (by (with_reducible assumption)), (by (with_reducible refine get_map ?_; omega)), (by kernel_rfl), (by kernel_rfl), (by simp only [eq_true h_36, told_simp1, told_simp2, and_true, true_and, and_false, false_and, or_true, true_or, or_false, false_or, not_true_eq_false, not_false_eq_true, decide_true, decide_false, Bool.decide_eq_true])⟩ ?_
 exact ⟨rfl, by kernel_rfl⟩
 refine rg (A := _ ∧ _ ∧ (AV.b false = AV.b (decide (i_0 < (↑a.length:Int) ∧ a[i_0.toNat]! = b[j_1.toNat]!)))) cx [(2, { tell := some (.i .i64 ((↑a.length:Int))) }), (3, { tell := some (.b (false)) }), (11, { tell := some (.b (decide (i_0 < (↑a.length:Int) ∧ a[i_0.toNat]! = b[j_1.toNat]!))) })] [0, 1, 2, 7, 8, 9, 10, 11, 65] [1007] ⟨(told_len c3 a), (told_false h_36), (by simp only [eq_false h_36, told_simp1, told_simp2, and_true, true_and, and_false, false_and, or_true, true_or, or_false, false_or, not_true_eq_false, not_false_eq_true, decide_true, decide_false, Bool.decide_eq_true])⟩ ?_
 exact ⟨rfl, by kernel_rfl⟩
 refine sn ?_
 refine st_dec (i_0 < (↑a.length:Int) ∧ a[i_0.toNat]! = b[j_1.toNat]!) (by kernel_rfl) (by kernel_rfl) (fun h_37 => ?_) (fun h_37 => ?_)
 refine rg (A := (AV.i .i64 (IntKind.i64.wrap (i_0 + (1:Int))) = AV.i .i64 (i_0 + (1:Int)))) cx [(1, { tell := some (.i .i64 (i_0 + (1:Int))) })] [0, 1, 2, 7, 8, 9, 10, 11] [1007] (told_i64 (by omega) (by omega)) ?_
 refine sn (sq ?_)
 refine sq ?_
 refine st_split (j_1 < (↑b.length:Int)) (fun h_38 => ?_) (fun h_38 => absurd (by omega) h_38)
 refine rg (A := _ ∧ _ ∧ ((0:Int) ≤ j_1) ∧ ((List.map c3 b)[j_1.toNat]? = some (c3 b[j_1.toNat]!)) ∧ ((c3 b[j_1.toNat]!).length = (1:Nat)) ∧ (AV.b (b[j_1.toNat]! == b[j_1.toNat]!) = AV.b true)) cx [(2, { tell := some (.i .i64 ((↑b.length:Int))) }), (3, { tell := some (.b (true)) }), (7, { row := (c3 b[j_1.toNat]!) }), (10, { tell := some (.b (true)) })] [0, 1, 2, 7, 8, 9, 10, 11, 79] [1007] ⟨(told_len c3 b), (told_true h_38), (by (with_reducible assumption)), (by (with_reducible refine get_map ?_; omega)), (by kernel_rfl), (told_ies)⟩ ?_
 refine sn ?_
 refine st_true (by kernel_rfl) (by kernel_rfl) ?_
 refine rg (A := (AV.i .i64 (IntKind.i64.wrap (j_1 + (1:Int))) = AV.i .i64 (j_1 + (1:Int)))) cx [(1, { tell := some (.i .i64 (j_1 + (1:Int))) })] [0, 1, 2, 7, 8, 9, 10, 11] [1007] (told_i64 (by omega) (by omega)) ?_
 refine sn (sq ?_)
 refine rg (A := (AV.i .i64 ((i_0 + (1:Int)).tmod (2:Int)) = AV.i .i64 ((i_0 + (1:Int)).tmod (2:Int))) ∧ (AV.b ((i_0 + (1:Int)).tmod (2:Int) == (1:Int)) = AV.b (decide ((i_0 + (1:Int)).tmod (2:Int) = (1:Int)))) ∧ (AV.i .i64 ((j_1 + (1:Int)).tmod (2:Int)) = AV.i .i64 ((j_1 + (1:Int)).tmod (2:Int))) ∧ (AV.b ((j_1 + (1:Int)).tmod (2:Int) == (1:Int)) = AV.b (decide ((j_1 + (1:Int)).tmod (2:Int) = (1:Int))))) cx [(1, { tell := some (.i .i64 ((i_0 + (1:Int)).tmod (2:Int))) }), (2, { tell := some (.b (decide ((i_0 + (1:Int)).tmod (2:Int) = (1:Int)))) }), (4, { tell := some (.i .i64 ((j_1 + (1:Int)).tmod (2:Int))) }), (5, { tell := some (.b (decide ((j_1 + (1:Int)).tmod (2:Int) = (1:Int)))) })] [0, 1, 2, 7, 8, 9, 10, 11, 12, 13] [1007] ⟨(by kernel_rfl), (by kernel_rfl), (by kernel_rfl), (by kernel_rfl)⟩ ?_
 refine sn (sq ?_)
 refine st_join (σ' := ⟨[(0, .sl (List.map c3 a)), (1, .sl (List.map c3 b)), (2, .i .i64 (rule)), (7, .own 1007 0), (8, .i .i64 (i_0 + (1:Int))), (9, .i .i64 (j_1 + (1:Int))), (10, .b (w_2)), (11, .i .i64 (b[j_1.toNat]!)), (14, .b (decide (rule = (1:Int) ∧ (i_0 + (1:Int)).tmod (2:Int) = (1:Int) ∧ (j_1 + (1:Int)).tmod (2:Int) = (1:Int) ∨ ¬rule = (1:Int) ∧ rule = (2:Int) ∧ (i_0 + (1:Int)).tmod (2:Int) = (1:Int) ∧ ¬(j_1 + (1:Int)).tmod (2:Int) = (1:Int))))], [(1007, ⟨0, 3, .row 1 (List.map c3 t_3)⟩)]⟩) ?_ ?_
 refine st_split (rule = (1:Int)) (fun h_40 => ?_) (fun h_40 => ?_)
 refine st_split ((i_0 + (1:Int)).tmod (2:Int) = (1:Int)) (fun h_41 => ?_) (fun h_41 => ?_)
 refine st_split ((j_1 + (1:Int)).tmod (2:Int) = (1:Int)) (fun h_42 => ?_) (fun h_42 => ?_)
 refine rg (A := _ ∧ _ ∧ _ ∧ (AV.b true = AV.b (decide (rule = (1:Int) ∧ (i_0 + (1:Int)).tmod (2:Int) = (1:Int) ∧ (j_1 + (1:Int)).tmod (2:Int) = (1:Int) ∨ ¬rule = (1:Int) ∧ rule = (2:Int) ∧ (i_0 + (1:Int)).tmod (2:Int) = (1:Int) ∧ ¬(j_1 + (1:Int)).tmod (2:Int) = (1:Int))))) cx [(1, { tell := some (.b (true)) }), (3, { tell := some (.b (true)) }), (6, { tell := some (.b (true)) }), (19, { tell := some (.b (decide (rule = (1:Int) ∧ (i_0 + (1:Int)).tmod (2:Int) = (1:Int) ∧ (j_1 + (1:Int)).tmod (2:Int) = (1:Int) ∨ ¬rule = (1:Int) ∧ rule = (2:Int) ∧ (i_0 + (1:Int)).tmod (2:Int) = (1:Int) ∧ ¬(j_1 + (1:Int)).tmod (2:Int) = (1:Int)))) })] [0, 1, 2, 7, 8, 9, 10, 11, 14] [1007] ⟨(told_true h_40), (told_true h_41), (told_true h_42), (by simp only [eq_true h_40, eq_true h_41, eq_true h_42, told_simp1, told_simp2, and_true, true_and, and_false, false_and, or_true, true_or, or_false, false_or, not_true_eq_false, not_false_eq_true, decide_true, decide_false, Bool.decide_eq_true])⟩ ?_
 exact ⟨rfl, by kernel_rfl⟩
 refine st_split (rule = (2:Int)) (fun h_43 => absurd h_43 (by omega)) (fun h_43 => ?_)
 refine rg (A := _ ∧ _ ∧ _ ∧ _ ∧ (AV.b false = AV.b (decide (rule = (1:Int) ∧ (i_0 + (1:Int)).tmod (2:Int) = (1:Int) ∧ (j_1 + (1:Int)).tmod (2:Int) = (1:Int) ∨ ¬rule = (1:Int) ∧ rule = (2:Int) ∧ (i_0 + (1:Int)).tmod (2:Int) = (1:Int) ∧ ¬(j_1 + (1:Int)).tmod (2:Int) = (1:Int))))) cx [(1, { tell := some (.b (true)) }), (3, { tell := some (.b (true)) }), (6, { tell := some (.b (false)) }), (10, { tell := some (.b (false)) }), (19, { tell := some (.b (decide (rule = (1:Int) ∧ (i_0 + (1:Int)).tmod (2:Int) = (1:Int) ∧ (j_1 + (1:Int)).tmod (2:Int) = (1:Int) ∨ ¬rule = (1:Int) ∧ rule = (2:Int) ∧ (i_0 + (1:Int)).tmod (2:Int) = (1:Int) ∧ ¬(j_1 + (1:Int)).tmod (2:Int) = (1:Int)))) })] [0, 1, 2, 7, 8, 9, 10, 11, 14] [1007] ⟨(told_true h_40), (told_true h_41), (told_false h_42), (told_false h_43), (by simp only [eq_true h_40, eq_true h_41, eq_false h_42, told_simp1, told_simp2, and_true, true_and, and_false, false_and, or_true, true_or, or_false, false_or, not_true_eq_false, not_false_eq_true, decide_true, decide_false, Bool.decide_eq_true])⟩ ?_
 exact ⟨rfl, by kernel_rfl⟩
 refine st_split (rule = (2:Int)) (fun h_44 => absurd h_44 (by omega)) (fun h_44 => ?_)
 refine rg (A := _ ∧ _ ∧ _ ∧ (AV.b false = AV.b (decide (rule = (1:Int) ∧ (i_0 + (1:Int)).tmod (2:Int) = (1:Int) ∧ (j_1 + (1:Int)).tmod (2:Int) = (1:Int) ∨ ¬rule = (1:Int) ∧ rule = (2:Int) ∧ (i_0 + (1:Int)).tmod (2:Int) = (1:Int) ∧ ¬(j_1 + (1:Int)).tmod (2:Int) = (1:Int))))) cx [(1, { tell := some (.b (true)) }), (3, { tell := some (.b (false)) }), (10, { tell := some (.b (false)) }), (19, { tell := some (.b (decide (rule = (1:Int) ∧ (i_0 + (1:Int)).tmod (2:Int) = (1:Int) ∧ (j_1 + (1:Int)).tmod (2:Int) = (1:Int) ∨ ¬rule = (1:Int) ∧ rule = (2:Int) ∧ (i_0 + (1:Int)).tmod (2:Int) = (1:Int) ∧ ¬(j_1 + (1:Int)).tmod (2:Int) = (1:Int)))) })] [0, 1, 2, 7, 8, 9, 10, 11, 14] [1007] ⟨(told_true h_40), (told_false h_41), (told_false h_44), (by simp only [eq_true h_40, eq_false h_41, told_simp1, told_simp2, and_true, true_and, and_false, false_and, or_true, true_or, or_false, false_or, not_true_eq_false, not_false_eq_true, decide_true, decide_false, Bool.decide_eq_true])⟩ ?_
 exact ⟨rfl, by kernel_rfl⟩
 refine st_split (rule = (2:Int)) (fun h_45 => ?_) (fun h_45 => ?_)
 refine st_split ((i_0 + (1:Int)).tmod (2:Int) = (1:Int)) (fun h_46 => ?_) (fun h_46 => ?_)
 refine rg (A := _ ∧ _ ∧ _ ∧ ((AV.b !decide ((j_1 + (1:Int)).tmod (2:Int) = (1:Int))) = AV.b (decide ¬(j_1 + (1:Int)).tmod (2:Int) = (1:Int))) ∧ (AV.b (decide ¬(j_1 + (1:Int)).tmod (2:Int) = (1:Int)) = AV.b (decide (rule = (1:Int) ∧ (i_0 + (1:Int)).tmod (2:Int) = (1:Int) ∧ (j_1 + (1:Int)).tmod (2:Int) = (1:Int) ∨ ¬rule = (1:Int) ∧ rule = (2:Int) ∧ (i_0 + (1:Int)).tmod (2:Int) = (1:Int) ∧ ¬(j_1 + (1:Int)).tmod (2:Int) = (1:Int))))) cx [(1, { tell := some (.b (false)) }), (10, { tell := some (.b (true)) }), (12, { tell := some (.b (true)) }), (16, { tell := some (.b (decide ¬(j_1 + (1:Int)).tmod (2:Int) = (1:Int))) }), (19, { tell := some (.b (decide (rule = (1:Int) ∧ (i_0 + (1:Int)).tmod (2:Int) = (1:Int) ∧ (j_1 + (1:Int)).tmod (2:Int) = (1:Int) ∨ ¬rule = (1:Int) ∧ rule = (2:Int) ∧ (i_0 + (1:Int)).tmod (2:Int) = (1:Int) ∧ ¬(j_1 + (1:Int)).tmod (2:Int) = (1:Int)))) })] [0, 1, 2, 7, 8, 9, 10, 11, 14] [1007] ⟨(told_false h_40), (told_true h_45), (told_true h_46), (told_notd), (by simp only [eq_false h_40, eq_true h_45, eq_true h_46, told_simp1, told_simp2, and_true, true_and, and_false, false_and, or_true, true_or, or_false, false_or, not_true_eq_false, not_false_eq_true, decide_true, decide_false, Bool.decide_eq_true])⟩ ?_
 exact ⟨rfl, by kernel_rfl⟩
 refine rg (A := _ ∧ _ ∧ _ ∧ (AV.b false = AV.b (decide (rule = (1:Int) ∧ (i_0 + (1:Int)).tmod (2:Int) = (1:Int) ∧ (j_1 + (1:Int)).tmod (2:Int) = (1:Int) ∨ ¬rule = (1:Int) ∧ rule = (2:Int) ∧ (i_0 + (1:Int)).tmod (2:Int) = (1:Int) ∧ ¬(j_1 + (1:Int)).tmod (2:Int) = (1:Int))))) cx [(1, { tell := some (.b (false)) }), (10, { tell := some (.b (true)) }), (12, { tell := some (.b (false)) }), (19, { tell := some (.b (decide (rule = (1:Int) ∧ (i_0 + (1:Int)).tmod (2:Int) = (1:Int) ∧ (j_1 + (1:Int)).tmod (2:Int) = (1:Int) ∨ ¬rule = (1:Int) ∧ rule = (2:Int) ∧ (i_0 + (1:Int)).tmod (2:Int) = (1:Int) ∧ ¬(j_1 + (1:Int)).tmod (2:Int) = (1:Int)))) })] [0, 1, 2, 7, 8, 9, 10, 11, 14] [1007] ⟨(told_false h_40), (told_true h_45), (told_false h_46), (by simp only [eq_false h_40, eq_true h_45, eq_false h_46, told_simp1, told_simp2, and_true, true_and, and_false, false_and, or_true, true_or, or_false, false_or, not_true_eq_false, not_false_eq_true, decide_true, decide_false, Bool.decide_eq_true])⟩ ?_
 exact ⟨rfl, by kernel_rfl⟩
 refine rg (A := _ ∧ _ ∧ (AV.b false = AV.b (decide (rule = (1:Int) ∧ (i_0 + (1:Int)).tmod (2:Int) = (1:Int) ∧ (j_1 + (1:Int)).tmod (2:Int) = (1:Int) ∨ ¬rule = (1:Int) ∧ rule = (2:Int) ∧ (i_0 + (1:Int)).tmod (2:Int) = (1:Int) ∧ ¬(j_1 + (1:Int)).tmod (2:Int) = (1:Int))))) cx [(1, { tell := some (.b (false)) }), (10, { tell := some (.b (false)) }), (19, { tell := some (.b (decide (rule = (1:Int) ∧ (i_0 + (1:Int)).tmod (2:Int) = (1:Int) ∧ (j_1 + (1:Int)).tmod (2:Int) = (1:Int) ∨ ¬rule = (1:Int) ∧ rule = (2:Int) ∧ (i_0 + (1:Int)).tmod (2:Int) = (1:Int) ∧ ¬(j_1 + (1:Int)).tmod (2:Int) = (1:Int)))) })] [0, 1, 2, 7, 8, 9, 10, 11, 14] [1007] ⟨(told_false h_40), (told_false h_45), (by simp only [eq_false h_40, eq_false h_45, told_simp1, told_simp2, and_true, true_and, and_false, false_and, or_true, true_or, or_false, false_or, not_true_eq_false, not_false_eq_true, decide_true, decide_false, Bool.decide_eq_true])⟩ ?_
 exact ⟨rfl, by kernel_rfl⟩
 refine sn (sq ?_)
 refine rg (A := ((AV.b !decide (rule = (1:Int) ∧ (i_0 + (1:Int)).tmod (2:Int) = (1:Int) ∧ (j_1 + (1:Int)).tmod (2:Int) = (1:Int) ∨ ¬rule = (1:Int) ∧ rule = (2:Int) ∧ (i_0 + (1:Int)).tmod (2:Int) = (1:Int) ∧ ¬(j_1 + (1:Int)).tmod (2:Int) = (1:Int)) == w_2) = AV.b (decide ¬decide (rule = (1:Int) ∧ (i_0 + (1:Int)).tmod (2:Int) = (1:Int) ∧ (j_1 + (1:Int)).tmod (2:Int) = (1:Int) ∨ ¬rule = (1:Int) ∧ rule = (2:Int) ∧ (i_0 + (1:Int)).tmod (2:Int) = (1:Int) ∧ ¬(j_1 + (1:Int)).tmod (2:Int) = (1:Int)) = w_2))) cx [(2, { tell := some (.b (decide ¬decide (rule = (1:Int) ∧ (i_0 + (1:Int)).tmod (2:Int) = (1:Int) ∧ (j_1 + (1:Int)).tmod (2:Int) = (1:Int) ∨ ¬rule = (1:Int) ∧ rule = (2:Int) ∧ (i_0 + (1:Int)).tmod (2:Int) = (1:Int) ∧ ¬(j_1 + (1:Int)).tmod (2:Int) = (1:Int)) = w_2)) })] [0, 1, 2, 7, 8, 9, 10, 11, 14, 109] [1007] (told_bne) ?_
 refine sn ?_
 refine st_dec (¬decide (rule = (1:Int) ∧ (i_0 + (1:Int)).tmod (2:Int) = (1:Int) ∧ (j_1 + (1:Int)).tmod (2:Int) = (1:Int) ∨ ¬rule = (1:Int) ∧ rule = (2:Int) ∧ (i_0 + (1:Int)).tmod (2:Int) = (1:Int) ∧ ¬(j_1 + (1:Int)).tmod (2:Int) = (1:Int)) = w_2) (by kernel_rfl) (by kernel_rfl) (fun h_47 => ?_) (fun h_47 => ?_)
 refine sq ?_
 refine rg (A := (3 = (3:Nat)) ∧ ((1:Nat) = 1) ∧ ([AV.i .i64 (0:Int)].length = (1:Nat)) ∧ (∀ (r : List AV), r ∈ List.map c3 [b[j_1.toNat]!] → r.length = 1) ∧ ((List.map c3 t_3).length + (List.map c3 [b[j_1.toNat]!]).length ≤ maxLen) ∧ (((List.map c3 t_3).length + (List.map c3 [b[j_1.toNat]!]).length) * (8:Nat) ≤ (140737488355328:Nat)) ∧ (List.map c3 t_3 ++ List.map c3 [b[j_1.toNat]!] = List.map c3 (t_3 ++ [b[j_1.toNat]!]))) cx [(3, { rows := some (List.map c3 (t_3 ++ [b[j_1.toNat]!])) })] [0, 1, 2, 7, 8, 9, 14] [1007] ⟨(by kernel_rfl), (by kernel_rfl), (by kernel_rfl), (by (with_reducible refine len_map (fun _ => ?_) _; kernel_rfl)), (by (simp only [Go.maxLen, List.length_map, List.length_append, List.length_cons, List.length_nil]; omega)), (by (simp only [Go.maxLen, List.length_map, List.length_append, List.length_cons, List.length_nil]; omega)), (by (with_reducible refine app_map ?_; kernel_rfl))⟩ ?_
 refine sn ?_
 refine rg (A := True) cx [] [0, 1, 2, 7, 8, 9, 10] [1007] trivial ?_
 refine q_blk_normal ?_
 refine sn ?_
 refine loop_next ((i_0 + (1:Int), j_1 + (1:Int), decide (rule = (1:Int) ∧ (i_0 + (1:Int)).tmod (2:Int) = (1:Int) ∧ (j_1 + (1:Int)).tmod (2:Int) = (1:Int) ∨ ¬rule = (1:Int) ∧ rule = (2:Int) ∧ (i_0 + (1:Int)).tmod (2:Int) = (1:Int) ∧ ¬(j_1 + (1:Int)).tmod (2:Int) = (1:Int)), t_3 ++ [b[j_1.toNat]!])) (by kernel_rfl) (show ((↑a.length:Int) - (i_0 + (1:Int)) + ((↑b.length:Int) - (j_1 + (1:Int)))).toNat < ((↑a.length:Int) - i_0 + ((↑b.length:Int) - j_1)).toNat from (by omega)) (show invCb a b (ruleB rule) (i_0 + (1:Int)) (j_1 + (1:Int)) (decide (rule = (1:Int) ∧ (i_0 + (1:Int)).tmod (2:Int) = (1:Int) ∧ (j_1 + (1:Int)).tmod (2:Int) = (1:Int) ∨ ¬rule = (1:Int) ∧ rule = (2:Int) ∧ (i_0 + (1:Int)).tmod (2:Int) = (1:Int) ∧ ¬(j_1 + (1:Int)).tmod (2:Int) = (1:Int))) (t_3 ++ [b[j_1.toNat]!]) from ?g5); rotate_left 1
 refine st_skip (by kernel_rfl) ?_
 refine q_blk_normal ?_
 refine sn ?_
 refine loop_next ((i_0 + (1:Int), j_1 + (1:Int), w_2, t_3)) (by kernel_rfl) (show ((↑a.length:Int) - (i_0 + (1:Int)) + ((↑b.length:Int) - (j_1 + (1:Int)))).toNat < ((↑a.length:Int) - i_0 + ((↑b.length:Int) - j_1)).toNat from (by omega)) (show invCb a b (ruleB rule) (i_0 + (1:Int)) (j_1 + (1:Int)) w_2 t_3 from ?g6); rotate_left 1
 refine st_skip (by kernel_rfl) ?_
 refine sn (sq ?_)
 refine sq ?_
 refine st_split (j_1 < (↑b.length:Int)) (fun h_48 => ?_) (fun h_48 => absurd (by omega) h_48)
 refine rg (A := _ ∧ _ ∧ ((0:Int) ≤ j_1) ∧ ((List.map c3 b)[j_1.toNat]? = some (c3 b[j_1.toNat]!)) ∧ ((c3 b[j_1.toNat]!).length = (1:Nat)) ∧ (AV.b (b[j_1.toNat]! == b[j_1.toNat]!) = AV.b true)) cx [(2, { tell := some (.i .i64 ((↑b.length:Int))) }), (3, { tell := some (.b (true)) }), (7, { row := (c3 b[j_1.toNat]!) }), (10, { tell := some (.b (true)) })] [0, 1, 2, 7, 8, 9, 10, 11, 79] [1007] ⟨(told_len c3 b), (told_true h_48), (by (with_reducible assumption)), (by (with_reducible refine get_map ?_; omega)), (by kernel_rfl), (told_ies)⟩ ?_
 refine sn ?_
 refine st_true (by kernel_rfl) (by kernel_rfl) ?_
 refine rg (A := (AV.i .i64 (IntKind.i64.wrap (j_1 + (1:Int))) = AV.i .i64 (j_1 + (1:Int)))) cx [(1, { tell := some (.i .i64 (j_1 + (1:Int))) })] [0, 1, 2, 7, 8, 9, 10, 11] [1007] (told_i64 (by omega) (by omega)) ?_
 refine sn (sq ?_)
 refine rg (A := (AV.i .i64 (i_0.tmod (2:Int)) = AV.i .i64 (i_0.tmod (2:Int))) ∧ (AV.b (i_0.tmod (2:Int) == (1:Int)) = AV.b (decide (i_0.tmod (2:Int) = (1:Int)))) ∧ (AV.i .i64 ((j_1 + (1:Int)).tmod (2:Int)) = AV.i .i64 ((j_1 + (1:Int)).tmod (2:Int))) ∧ (AV.b ((j_1 + (1:Int)).tmod (2:Int) == (1:Int)) = AV.b (decide ((j_1 + (1:Int)).tmod (2:Int) = (1:Int))))) cx [(1, { tell := some (.i .i64 (i_0.tmod (2:Int))) }), (2, { tell := some (.b (decide (i_0.tmod (2:Int) = (1:Int)))) }), (4, { tell := some (.i .i64 ((j_1 + (1:Int)).tmod (2:Int))) }), (5, { tell := some (.b (decide ((j_1 + (1:Int)).tmod (2:Int) = (1:Int)))) })] [0, 1, 2, 7, 8, 9, 10, 11, 12, 13] [1007] ⟨(by kernel_rfl), (by kernel_rfl), (by kernel_rfl), (by kernel_rfl)⟩ ?_
 refine sn (sq ?_)
 refine st_join (σ' := ⟨[(0, .sl (List.map c3 a)), (1, .sl (List.map c3 b)), (2, .i .i64 (rule)), (7, .own 1007 0), (8, .i .i64 (i_0)), (9, .i .i64 (j_1 + (1:Int))), (10, .b (w_2)), (11, .i .i64 (b[j_1.toNat]!)), (14, .b (decide (rule = (1:Int) ∧ i_0.tmod (2:Int) = (1:Int) ∧ (j_1 + (1:Int)).tmod (2:Int) = (1:Int) ∨ ¬rule = (1:Int) ∧ rule = (2:Int) ∧ i_0.tmod (2:Int) = (1:Int) ∧ ¬(j_1 + (1:Int)).tmod (2:Int) = (1:Int))))], [(1007, ⟨0, 3, .row 1 (List.map c3 t_3)⟩)]⟩) ?_ ?_
 refine st_split (rule = (1:Int)) (fun h_50 => ?_) (fun h_50 => ?_)
 refine st_split (i_0.tmod (2:Int) = (1:Int)) (fun h_51 => ?_) (fun h_51 => ?_)
 refine st_split ((j_1 + (1:Int)).tmod (2:Int) = (1:Int)) (fun h_52 => ?_) (fun h_52 => ?_)
 refine rg (A := _ ∧ _ ∧ _ ∧ (AV.b true = AV.b (decide (rule = (1:Int) ∧ i_0.tmod (2:Int) = (1:Int) ∧ (j_1 + (1:Int)).tmod (2:Int) = (1:Int) ∨ ¬rule = (1:Int) ∧ rule = (2:Int) ∧ i_0.tmod (2:Int) = (1:Int) ∧ ¬(j_1 + (1:Int)).tmod (2:Int) = (1:Int))))) cx [(1, { tell := some (.b (true)) }), (3, { tell := some (.b (true)) }), (6, { tell := some (.b (true)) }), (19, { tell := some (.b (decide (rule = (1:Int) ∧ i_0.tmod (2:Int) = (1:Int) ∧ (j_1 + (1:Int)).tmod (2:Int) = (1:Int) ∨ ¬rule = (1:Int) ∧ rule = (2:Int) ∧ i_0.tmod (2:Int) = (1:Int) ∧ ¬(j_1 + (1:Int)).tmod (2:Int) = (1:Int)))) })] [0, 1, 2, 7, 8, 9, 10, 11, 14] [1007] ⟨(told_true h_50), (told_true h_51), (told_true h_52), (by simp only [eq_true h_50, eq_true h_51, eq_true h_52, told_simp1, told_simp2, and_true, true_and, and_false, false_and, or_true, true_or, or_false, false_or, not_true_eq_false, not_false_eq_true, decide_true, decide_false, Bool.decide_eq_true])⟩ ?_
 exact ⟨rfl, by kernel_rfl⟩
 refine st_split (rule = (2:Int)) (fun h_53 => absurd h_53 (by omega)) (fun h_53 => ?_)
 refine rg (A := _ ∧ _ ∧ _ ∧ _ ∧ (AV.b false = AV.b (decide (rule = (1:Int) ∧ i_0.tmod (2:Int) = (1:Int) ∧ (j_1 + (1:Int)).tmod (2:Int) = (1:Int) ∨ ¬rule = (1:Int) ∧ rule = (2:Int) ∧ i_0.tmod (2:Int) = (1:Int) ∧ ¬(j_1 + (1:Int)).tmod (2:Int) = (1:Int))))) cx [(1, { tell := some (.b (true)) }), (3, { tell := some (.b (true)) }), (6, { tell := some (.b (false)) }), (10, { tell := some (.b (false)) }), (19, { tell := some (.b (decide (rule = (1:Int) ∧ i_0.tmod (2:Int) = (1:Int) ∧ (j_1 + (1:Int)).tmod (2:Int) = (1:Int) ∨ ¬rule = (1:Int) ∧ rule = (2:Int) ∧ i_0.tmod (2:Int) = (1:Int) ∧ ¬(j_1 + (1:Int)).tmod (2:Int) = (1:Int)))) })] [0, 1, 2, 7, 8, 9, 10, 11, 14] [1007] ⟨(told_true h_50), (told_true h_51), (told_false h_52), (told_false h_53), (by simp only [eq_true h_50, eq_true h_51, eq_false h_52, told_simp1, told_simp2, and_true, true_and, and_false, false_and, or_true, true_or, or_false, false_or, not_true_eq_false, not_false_eq_true, decide_true, decide_false, Bool.decide_eq_true])⟩ ?_
 exact ⟨rfl, by kernel_rfl⟩
 refine st_split (rule = (2:Int)) (fun h_54 => absurd h_54 (by omega)) (fun h_54 => ?_)
 refine rg (A := _ ∧ _ ∧ _ ∧ (AV.b false = AV.b (decide (rule = (1:Int) ∧ i_0.tmod (2:Int) = (1:Int) ∧ (j_1 + (1:Int)).tmod (2:Int) = (1:Int) ∨ ¬rule = (1:Int) ∧ rule = (2:Int) ∧ i_0.tmod (2:Int) = (1:Int) ∧ ¬(j_1 + (1:Int)).tmod (2:Int) = (1:Int))))) cx [(1, { tell := some (.b (true)) }), (3, { tell := some (.b (false)) }), (10, { tell := some (.b (false)) }), (19, { tell := some (.b (decide (rule = (1:Int) ∧ i_0.tmod (2:Int) = (1:Int) ∧ (j_1 + (1:Int)).tmod (2:Int) = (1:Int) ∨ ¬rule = (1:Int) ∧ rule = (2:Int) ∧ i_0.tmod (2:Int) = (1:Int) ∧ ¬(j_1 + (1:Int)).tmod (2:Int) = (1:Int)))) })] [0, 1, 2, 7, 8, 9, 10, 11, 14] [1007] ⟨(told_true h_50), (told_false h_51), (told_false h_54), (by simp only [eq_true h_50, eq_false h_51, told_simp1, told_simp2, and_true, true_and, and_false, false_and, or_true, true_or, or_false, false_or, not_true_eq_false, not_false_eq_true, decide_true, decide_false, Bool.decide_eq_true])⟩ ?_
 exact ⟨rfl, by kernel_rfl⟩
 refine st_split (rule = (2:Int)) (fun h_55 => ?_) (fun h_55 => ?_)
 refine st_split (i_0.tmod (2:Int) = (1:Int)) (fun h_56 => ?_) (fun h_56 => ?_)
 refine rg (A := _ ∧ _ ∧ _ ∧ ((AV.b !decide ((j_1 + (1:Int)).tmod (2:Int) = (1:Int))) = AV.b (decide ¬(j_1 + (1:Int)).tmod (2:Int) = (1:Int))) ∧ (AV.b (decide ¬(j_1 + (1:Int)).tmod (2:Int) = (1:Int)) = AV.b (decide (rule = (1:Int) ∧ i_0.tmod (2:Int) = (1:Int) ∧ (j_1 + (1:Int)).tmod (2:Int) = (1:Int) ∨ ¬rule = (1:Int) ∧ rule = (2:Int) ∧ i_0.tmod (2:Int) = (1:Int) ∧ ¬(j_1 + (1:Int)).tmod (2:Int) = (1:Int))))) cx [(1, { tell := some (.b (false)) }), (10, { tell := some (.b (true)) }), (12, { tell := some (.b (true)) }), (16, { tell := some (.b (decide ¬(j_1 + (1:Int)).tmod (2:Int) = (1:Int))) }), (19, { tell := some (.b (decide (rule = (1:Int) ∧ i_0.tmod (2:Int) = (1:Int) ∧ (j_1 + (1:Int)).tmod (2:Int) = (1:Int) ∨ ¬rule = (1:Int) ∧ rule = (2:Int) ∧ i_0.tmod (2:Int) = (1:Int) ∧ ¬(j_1 + (1:Int)).tmod (2:Int) = (1:Int)))) })] [0, 1, 2, 7, 8, 9, 10, 11, 14] [1007] ⟨(told_false h_50), (told_true h_55), (told_true h_56), (told_notd), (by simp only [eq_false h_50, eq_true h_55, eq_true h_56, told_simp1, told_simp2, and_true, true_and, and_false, false_and, or_true, true_or, or_false, false_or, not_true_eq_false, not_false_eq_true, decide_true, decide_false, Bool.decide_eq_true])⟩ ?_
 exact ⟨rfl, by kernel_rfl⟩
 refine rg (A := _ ∧ _ ∧ _ ∧ (AV.b false = AV.b (decide (rule = (1:Int) ∧ i_0.tmod (2:Int) = (1:Int) ∧ (j_1 + (1:Int)).tmod (2:Int) = (1:Int) ∨ ¬rule = (1:Int) ∧ rule = (2:Int) ∧ i_0.tmod (2:Int) = (1:Int) ∧ ¬(j_1 + (1:Int)).tmod (2:Int) = (1:Int))))) cx [(1, { tell := some (.b (false)) }), (10, { tell := some (.b (true)) }), (12, { tell := some (.b (false)) }), (19, { tell := some (.b (decide (rule = (1:Int) ∧ i_0.tmod (2:Int) = (1:Int) ∧ (j_1 + (1:Int)).tmod (2:Int) = (1:Int) ∨ ¬rule = (1:Int) ∧ rule = (2:Int) ∧ i_0.tmod (2:Int) = (1:Int) ∧ ¬(j_1 + (1:Int)).tmod (2:Int) = (1:Int)))) })] [0, 1, 2, 7, 8, 9, 10, 11, 14] [1007] ⟨(told_false h_50), (told_true h_55), (told_false h_56), (by simp only [eq_false h_50, eq_true h_55, eq_false h_56, told_simp1, told_simp2, and_true, true_and, and_false, false_and, or_true, true_or, or_false, false_or, not_true_eq_false, not_false_eq_true, decide_true, decide_false, Bool.decide_eq_true])⟩ ?_
 exact ⟨rfl, by kernel_rfl⟩
 refine rg (A := _ ∧ _ ∧ (AV.b false = AV.b (decide (rule = (1:Int) ∧ i_0.tmod (2:Int) = (1:Int) ∧ (j_1 + (1:Int)).tmod (2:Int) = (1:Int) ∨ ¬rule = (1:Int) ∧ rule = (2:Int) ∧ i_0.tmod (2:Int) = (1:Int) ∧ ¬(j_1 + (1:Int)).tmod (2:Int) = (1:Int))))) cx [(1, { tell := some (.b (false)) }), (10, { tell := some (.b (false)) }), (19, { tell := some (.b (decide (rule = (1:Int) ∧ i_0.tmod (2:Int) = (1:Int) ∧ (j_1 + (1:Int)).tmod (2:Int) = (1:Int) ∨ ¬rule = (1:Int) ∧ rule = (2:Int) ∧ i_0.tmod (2:Int) = (1:Int) ∧ ¬(j_1 + (1:Int)).tmod (2:Int) = (1:Int)))) })] [0, 1, 2, 7, 8, 9, 10, 11, 14] [1007] ⟨(told_false h_50), (told_false h_55), (by simp only [eq_false h_50, eq_false h_55, told_simp1, told_simp2, and_true, true_and, and_false, false_and, or_true, true_or, or_false, false_or, not_true_eq_false, not_false_eq_true, decide_true, decide_false, Bool.decide_eq_true])⟩ ?_
 exact ⟨rfl, by kernel_rfl⟩
 refine sn (sq ?_)
 refine rg (A := ((AV.b !decide (rule = (1:Int) ∧ i_0.tmod (2:Int) = (1:Int) ∧ (j_1 + (1:Int)).tmod (2:Int) = (1:Int) ∨ ¬rule = (1:Int) ∧ rule = (2:Int) ∧ i_0.tmod (2:Int) = (1:Int) ∧ ¬(j_1 + (1:Int)).tmod (2:Int) = (1:Int)) == w_2) = AV.b (decide ¬decide (rule = (1:Int) ∧ i_0.tmod (2:Int) = (1:Int) ∧ (j_1 + (1:Int)).tmod (2:Int) = (1:Int) ∨ ¬rule = (1:Int) ∧ rule = (2:Int) ∧ i_0.tmod (2:Int) = (1:Int) ∧ ¬(j_1 + (1:Int)).tmod (2:Int) = (1:Int)) = w_2))) cx [(2, { tell := some (.b (decide ¬decide (rule = (1:Int) ∧ i_0.tmod (2:Int) = (1:Int) ∧ (j_1 + (1:Int)).tmod (2:Int) = (1:Int) ∨ ¬rule = (1:Int) ∧ rule = (2:Int) ∧ i_0.tmod (2:Int) = (1:Int) ∧ ¬(j_1 + (1:Int)).tmod (2:Int) = (1:Int)) = w_2)) })] [0, 1, 2, 7, 8, 9, 10, 11, 14, 109] [1007] (told_bne) ?_
 refine sn ?_
 refine st_dec (¬decide (rule = (1:Int) ∧ i_0.tmod (2:Int) = (1:Int) ∧ (j_1 + (1:Int)).tmod (2:Int) = (1:Int) ∨ ¬rule = (1:Int) ∧ rule = (2:Int) ∧ i_0.tmod (2:Int) = (1:Int) ∧ ¬(j_1 + (1:Int)).tmod (2:Int) = (1:Int)) = w_2) (by kernel_rfl) (by kernel_rfl) (fun h_57 => ?_) (fun h_57 => ?_)
 refine sq ?_
 refine rg (A := (3 = (3:Nat)) ∧ ((1:Nat) = 1) ∧ ([AV.i .i64 (0:Int)].length = (1:Nat)) ∧ (∀ (r : List AV), r ∈ List.map c3 [b[j_1.toNat]!] → r.length = 1) ∧ ((List.map c3 t_3).length + (List.map c3 [b[j_1.toNat]!]).length ≤ maxLen) ∧ (((List.map c3 t_3).length + (List.map c3 [b[j_1.toNat]!]).length) * (8:Nat) ≤ (140737488355328:Nat)) ∧ (List.map c3 t_3 ++ List.map c3 [b[j_1.toNat]!] = List.map c3 (t_3 ++ [b[j_1.toNat]!]))) cx [(3, { rows := some (List.map c3 (t_3 ++ [b[j_1.toNat]!])) })] [0, 1, 2, 7, 8, 9, 14] [1007] ⟨(by kernel_rfl), (by kernel_rfl), (by kernel_rfl), (by (with_reducible refine len_map (fun _ => ?_) _; kernel_rfl)), (by (simp only [Go.maxLen, List.length_map, List.length_append, List.length_cons, List.length_nil]; omega)), (by (simp only [Go.maxLen, List.length_map, List.length_append, List.length_cons, List.length_nil]; omega)), (by (with_reducible refine app_map ?_; kernel_rfl))⟩ ?_
 refine sn ?_
 refine rg (A := True) cx [] [0, 1, 2, 7, 8, 9, 10] [1007] trivial ?_
 refine q_blk_normal ?_
 refine sn ?_
 refine loop_next ((i_0, j_1 + (1:Int), decide (rule = (1:Int) ∧ i_0.tmod (2:Int) = (1:Int) ∧ (j_1 + (1:Int)).tmod (2:Int) = (1:Int) ∨ ¬rule = (1:Int) ∧ rule = (2:Int) ∧ i_0.tmod (2:Int) = (1:Int) ∧ ¬(j_1 + (1:Int)).tmod (2:Int) = (1:Int)), t_3 ++ [b[j_1.toNat]!])) (by kernel_rfl) (show ((↑a.length:Int) - i_0 + ((↑b.length:Int) - (j_1 + (1:Int)))).toNat < ((↑a.length:Int) - i_0 + ((↑b.length:Int) - j_1)).toNat from (by omega)) (show invCb a b (ruleB rule) i_0 (j_1 + (1:Int)) (decide (rule = (1:Int) ∧ i_0.tmod (2:Int) = (1:Int) ∧ (j_1 + (1:Int)).tmod (2:Int) = (1:Int) ∨ ¬rule = (1:Int) ∧ rule = (2:Int) ∧ i_0.tmod (2:Int) = (1:Int) ∧ ¬(j_1 + (1:Int)).tmod (2:Int) = (1:Int))) (t_3 ++ [b[j_1.toNat]!]) from ?g7); rotate_left 1
 refine st_skip (by kernel_rfl) ?_
 refine q_blk_normal ?_
 refine sn ?_
 refine loop_next ((i_0, j_1 + (1:Int), w_2, t_3)) (by kernel_rfl) (show ((↑a.length:Int) - i_0 + ((↑b.length:Int) - (j_1 + (1:Int)))).toNat < ((↑a.length:Int) - i_0 + ((↑b.length:Int) - j_1)).toNat from (by omega)) (show invCb a b (ruleB rule) i_0 (j_1 + (1:Int)) w_2 t_3 from ?g8); rotate_left 1
 refine st_exit 0 (by kernel_rfl) ?_
 refine q_seq_exit ?_
 refine q_seq_exit ?_
 refine q_blk_hit ?_
 refine sn (sq ?_)
 refine rg (A := True) cx [] [6] [1007] trivial ?_
 refine sn ?_
 refine st_ret (by kernel_rfl) ?_
 refine q_ret (r := .sl (List.map c3 t_3)) (obl := []) (by kernel_rfl) trivial (AVle.eq (show AV.sl (List.map c3 t_3) = AV.sl (List.map c3 (combL (ruleB rule) a b false false false)) from ?g9)); rotate_left 1
 rotate_left
 revert i_0 j_1 w_2 t_3 h_5 h_6 h_7 h_8 h_9 h_10 h_13 h_17 h_18 h_21 h_22 h_23 h_24 h_25; rotate_left
 revert i_0 j_1 w_2 t_3 h_5 h_6 h_7 h_8 h_9 h_10 h_13 h_17 h_18 h_21 h_22 h_23 h_24 h_25; rotate_left
 revert i_0 j_1 w_2 t_3 h_5 h_6 h_7 h_8 h_9 h_10 h_13 h_17 h_18 h_21 h_34; rotate_left
 revert i_0 j_1 w_2 t_3 h_5 h_6 h_7 h_8 h_9 h_10 h_13 h_17 h_18 h_21 h_34; rotate_left
 revert i_0 j_1 w_2 t_3 h_5 h_6 h_7 h_8 h_9 h_10 h_13 h_17 h_37 h_38 h_47; rotate_left
 revert i_0 j_1 w_2 t_3 h_5 h_6 h_7 h_8 h_9 h_10 h_13 h_17 h_37 h_38 h_47; rotate_left
 revert i_0 j_1 w_2 t_3 h_5 h_6 h_7 h_8 h_9 h_10 h_13 h_17 h_37 h_48 h_57; rotate_left
 revert i_0 j_1 w_2 t_3 h_5 h_6 h_7 h_8 h_9 h_10 h_13 h_17 h_37 h_48 h_57; rotate_left
 revert i_0 j_1 w_2 t_3 h_5 h_6 h_7 h_8 h_9 h_10 h_13; rotate_left
 case g0 => exact ⟨by omega, by omega, by omega, by omega, by simp, rfl⟩
 case g1 => intro i j w t h0 h1 h2 h3 h4 h5 h6 h7 h8 h9; exfalso; omega
 case g2 => intro i j w t h0 h1 h2 h3 h4 h5 h6 h7 h8 h9; exfalso; omega
 case g3 =>
  intro i j w t h0 h1 h2 h3 h4 h5 h6 h7 h8 h9 h10
  exact st h0 h1 h2 h3 h4 h5 h6 (u := a[i.toNat]!) (by rw [if_pos (by omega)]) (by rw [if_pos ⟨h8, rfl⟩]) (by rw [if_neg h9]) (by omega) (ruleB_eq (by omega) h2) (by rw [if_neg h10])
 case g4 =>
  intro i j w t h0 h1 h2 h3 h4 h5 h6 h7 h8 h9 h10
  exact st h0 h1 h2 h3 h4 h5 h6 (u := a[i.toNat]!) (by rw [if_pos (by omega)]) (by rw [if_pos ⟨h8, rfl⟩]) (by rw [if_neg h9]) (by omega) (by rw [← ruleB_eq (by omega) h2]; exact (Classical.not_not.1 h10).symm) (by rw [if_pos rfl])
 case g5 =>
  intro i j w t h0 h1 h2 h3 h4 h5 h6 h7 h8 h9 h10
  exact st h0 h1 h2 h3 h4 h5 h6 (u := b[j.toNat]!) (by rw [if_neg (by omega)]) (by rw [if_pos h8]) (by rw [if_pos ⟨h9, rfl⟩]) (by omega) (ruleB_eq (by omega) (by omega)) (by rw [if_neg h10])
 case g6 =>
  intro i j w t h0 h1 h2 h3 h4 h5 h6 h7 h8 h9 h10
  exact st h0 h1 h2 h3 h4 h5 h6 (u := b[j.toNat]!) (by rw [if_neg (by omega)]) (by rw [if_pos h8]) (by rw [if_pos ⟨h9, rfl⟩]) (by omega) (by rw [← ruleB_eq (by omega) (by omega)]; exact (Classical.not_not.1 h10).symm) (by rw [if_pos rfl])
 case g7 =>
  intro i j w t h0 h1 h2 h3 h4 h5 h6 h7 h8 h9 h10
  exact st h0 h1 h2 h3 h4 h5 h6 (u := b[j.toNat]!) (by rw [if_neg (by omega)]) (by rw [if_neg h8]) (by rw [if_pos ⟨h9, rfl⟩]) (by omega) (ruleB_eq h0 (by omega)) (by rw [if_neg h10])
 case g8 =>
  intro i j w t h0 h1 h2 h3 h4 h5 h6 h7 h8 h9 h10
  exact st h0 h1 h2 h3 h4 h5 h6 (u := b[j.toNat]!) (by rw [if_neg (by omega)]) (by rw [if_neg h8]) (by rw [if_pos ⟨h9, rfl⟩]) (by omega) (by rw [← ruleB_eq h0 (by omega)]; exact (Classical.not_not.1 h10).symm) (by rw [if_pos rfl])
 case g9 => intro i j w t h0 h1 h2 h3 h4 h5 h6; rw [comb_end (by omega) (by omega) h5]
theorem con110_1 (U V : Nat → List Run) (hU : sepU U) (hV : sepU V) : Con Tryz.prog 110 [.agg (c122 (tnS U)), .agg (c122 (tnS V)), .i .i64 2] (.agg (c122 (tnS (minU U V)))) :=
  by
  refine st_con tab_ok (by kernel_rfl) [.cell 6 122] 27 Go.Proofs.Tryz.func110 (by kernel_rfl) (by kernel_rfl) ?_
  intro e0 cx
  refine sq ?_
  refine rg (A := True) cx [] [2, 3, 4, 6] [3, 4, 6] trivial ?_
  refine sn (sq ?_)
  refine rg (A := True) cx [] [2, 3, 4, 6, 7] [3, 4, 6, 7] trivial ?_
  refine sn (sq ?_)
  refine sq ?_
  refine rg (A := True) cx [] [2, 3, 4, 6, 7, 8] [3, 4, 6, 7] trivial ?_
  refine sn ?_
  refine st_block 0 (by kernel_rfl) ?_
  refine awp_varArr 3 ⟨0, 122, .var [.sl (List.map c3 (tnS U (0))), .sl (List.map c3 (tnS U (1))), .sl (List.map c3 (tnS U (2))), .sl (List.map c3 (tnS U (3))), .sl (List.map c3 (tnS U (4))), .sl (List.map c3 (tnS U (5))), .sl (List.map c3 (tnS U (6))), .sl (List.map c3 (tnS U (7))), .sl (List.map c3 (tnS U (8))), .sl (List.map c3 (tnS U (9))), .sl (List.map c3 (tnS U (10))), .sl (List.map c3 (tnS U (11))), .sl (List.map c3 (tnS U (12))), .sl (List.map c3 (tnS U (13))), .sl (List.map c3 (tnS U (14))), .sl (List.map c3 (tnS U (15)))]⟩ [.sl (List.map c3 (tnS U (0))), .sl (List.map c3 (tnS U (1))), .sl (List.map c3 (tnS U (2))), .sl (List.map c3 (tnS U (3))), .sl (List.map c3 (tnS U (4))), .sl (List.map c3 (tnS U (5))), .sl (List.map c3 (tnS U (6))), .sl (List.map c3 (tnS U (7))), .sl (List.map c3 (tnS U (8))), .sl (List.map c3 (tnS U (9))), .sl (List.map c3 (tnS U (10))), .sl (List.map c3 (tnS U (11))), .sl (List.map c3 (tnS U (12))), .sl (List.map c3 (tnS U (13))), .sl (List.map c3 (tnS U (14))), .sl (List.map c3 (tnS U (15)))] (tabC c3 (16:Nat) (tnS U)) (σ' := ⟨[(2, .i .i64 ((2:Int))), (3, .ptr (3) (0) (0) (0)), (4, .ptr (4) (0) (0) (0)), (6, .ptr (6) (0) (0) (0)), (7, .ptr (7) (0) (0) (0)), (8, .i .i64 ((0:Int)))], [(3, ⟨0, 122, .arr (tabC c3 (16:Nat) (tnS U))⟩), (4, ⟨0, 122, .var [.sl (List.map c3 (tnS V (0))), .sl (List.map c3 (tnS V (1))), .sl (List.map c3 (tnS V (2))), .sl (List.map c3 (tnS V (3))), .sl (List.map c3 (tnS V (4))), .sl (List.map c3 (tnS V (5))), .sl (List.map c3 (tnS V (6))), .sl (List.map c3 (tnS V (7))), .sl (List.map c3 (tnS V (8))), .sl (List.map c3 (tnS V (9))), .sl (List.map c3 (tnS V (10))), .sl (List.map c3 (tnS V (11))), .sl (List.map c3 (tnS V (12))), .sl (List.map c3 (tnS V (13))), .sl (List.map c3 (tnS V (14))), .sl (List.map c3 (tnS V (15)))]⟩), (6, ⟨0, 122, .var [.nl, .nl, .nl, .nl, .nl, .nl, .nl, .nl, .nl, .nl, .nl, .nl, .nl, .nl, .nl, .nl]⟩), (7, ⟨0, 122, .var [.nl, .nl, .nl, .nl, .nl, .nl, .nl, .nl, .nl, .nl, .nl, .nl, .nl, .nl, .nl, .nl]⟩)]⟩) (by kernel_rfl) (by kernel_rfl) (by kernel_rfl) (by kernel_rfl) (ZLe.of_eq (by kernel_rfl)) (by kernel_rfl) ?_
  refine awp_varArr 4 ⟨0, 122, .var [.sl (List.map c3 (tnS V (0))), .sl (List.map c3 (tnS V (1))), .sl (List.map c3 (tnS V (2))), .sl (List.map c3 (tnS V (3))), .sl (List.map c3 (tnS V (4))), .sl (List.map c3 (tnS V (5))), .sl (List.map c3 (tnS V (6))), .sl (List.map c3 (tnS V (7))), .sl (List.map c3 (tnS V (8))), .sl (List.map c3 (tnS V (9))), .sl (List.map c3 (tnS V (10))), .sl (List.map c3 (tnS V (11))), .sl (List.map c3 (tnS V (12))), .sl (List.map c3 (tnS V (13))), .sl (List.map c3 (tnS V (14))), .sl (List.map c3 (tnS V (15)))]⟩ [.sl (List.map c3 (tnS V (0))), .sl (List.map c3 (tnS V (1))), .sl (List.map c3 (tnS V (2))), .sl (List.map c3 (tnS V (3))), .sl (List.map c3 (tnS V (4))), .sl (List.map c3 (tnS V (5))), .sl (List.map c3 (tnS V (6))), .sl (List.map c3 (tnS V (7))), .sl (List.map c3 (tnS V (8))), .sl (List.map c3 (tnS V (9))), .sl (List.map c3 (tnS V (10))), .sl (List.map c3 (tnS V (11))), .sl (List.map c3 (tnS V (12))), .sl (List.map c3 (tnS V (13))), .sl (List.map c3 (tnS V (14))), .sl (List.map c3 (tnS V (15)))] (tabC c3 (16:Nat) (tnS V)) (σ' := ⟨[(2, .i .i64 ((2:Int))), (3, .ptr (3) (0) (0) (0)), (4, .ptr (4) (0) (0) (0)), (6, .ptr (6) (0) (0) (0)), (7, .ptr (7) (0) (0) (0)), (8, .i .i64 ((0:Int)))], [(3, ⟨0, 122, .arr (tabC c3 (16:Nat) (tnS U))⟩), (4, ⟨0, 122, .arr (tabC c3 (16:Nat) (tnS V))⟩), (6, ⟨0, 122, .var [.nl, .nl, .nl, .nl, .nl, .nl, .nl, .nl, .nl, .nl, .nl, .nl, .nl, .nl, .nl, .nl]⟩), (7, ⟨0, 122, .var [.nl, .nl, .nl, .nl, .nl, .nl, .nl, .nl, .nl, .nl, .nl, .nl, .nl, .nl, .nl, .nl]⟩)]⟩) (by kernel_rfl) (by kernel_rfl) (by kernel_rfl) (by kernel_rfl) (ZLe.of_eq (by kernel_rfl)) (by kernel_rfl) ?_
  refine awp_varArr 7 ⟨0, 122, .var [.nl, .nl, .nl, .nl, .nl, .nl, .nl, .nl, .nl, .nl, .nl, .nl, .nl, .nl, .nl, .nl]⟩ [.nl, .nl, .nl, .nl, .nl, .nl, .nl, .nl, .nl, .nl, .nl, .nl, .nl, .nl, .nl, .nl] (tabC c3 (16:Nat) fun x ↦ []) (σ' := ⟨[(2, .i .i64 ((2:Int))), (3, .ptr (3) (0) (0) (0)), (4, .ptr (4) (0) (0) (0)), (6, .ptr (6) (0) (0) (0)), (7, .ptr (7) (0) (0) (0)), (8, .i .i64 ((0:Int)))], [(3, ⟨0, 122, .arr (tabC c3 (16:Nat) (tnS U))⟩), (4, ⟨0, 122, .arr (tabC c3 (16:Nat) (tnS V))⟩), (6, ⟨0, 122, .var [.nl, .nl, .nl, .nl, .nl, .nl, .nl, .nl, .nl, .nl, .nl, .nl, .nl, .nl, .nl, .nl]⟩), (7, ⟨0, 122, .arr (tabC c3 (16:Nat) fun x ↦ [])⟩)]⟩) (by kernel_rfl) (by kernel_rfl) (by kernel_rfl) (by kernel_rfl) (zle_nls c3 16) (by kernel_rfl) ?_
  refine st_loop (X := Int × (Nat → List Int) × (Nat → List Int) × (Nat → List Int)) (fun x => ⟨[(2, .i .i64 ((2:Int))), (3, .ptr (3) (0) (0) (0)), (4, .ptr (4) (0) (0) (0)), (6, .ptr (6) (0) (0) (0)), (7, .ptr (7) (0) (0) (0)), (8, .i .i64 (x.fst))], [(3, ⟨0, 122, .arr (tabC c3 (16:Nat) x.snd.fst)⟩), (4, ⟨0, 122, .arr (tabC c3 (16:Nat) x.snd.snd.fst)⟩), (6, ⟨0, 122, .var [.nl, .nl, .nl, .nl, .nl, .nl, .nl, .nl, .nl, .nl, .nl, .nl, .nl, .nl, .nl, .nl]⟩), (7, ⟨0, 122, .arr (tabC c3 (16:Nat) x.snd.snd.snd)⟩)]⟩) (fun x ↦ decCo x.fst x.snd.fst x.snd.snd.fst x.snd.snd.snd) (fun x ↦ invCo U V x.fst x.snd.fst x.snd.snd.fst x.snd.snd.snd) [2, 3, 4, 6, 7, 8] [3, 4, 6, 7] (((0:Int), tnS U, tnS V, fun x ↦ [])) (by kernel_rfl) (by kernel_rfl) (show invCo U V (0:Int) (tnS U) (tnS V) fun x ↦ [] from ?g0) ?_; rotate_left 1
  rintro ⟨r_0, A_1, B_2, S_3⟩ h_4
  obtain ⟨h_5, h_6, h_7, h_8, h_9⟩ : A_1 = tnS U ∧ B_2 = tnS V ∧ (0:Int) ≤ r_0 ∧ r_0 ≤ (16:Int) ∧ isCo U V r_0 S_3 := h_4
  refine sq ?_
  refine sq ?_
  refine rg (A := (AV.b (decide (r_0 < (16:Int))) = AV.b (decide (r_0 < (16:Int))))) cx [(1, { tell := some (.b (decide (r_0 < (16:Int)))) })] [2, 3, 4, 6, 7, 8, 10] [3, 4, 6, 7] (by kernel_rfl) ?_
  refine sn ?_
  refine st_dec (r_0 < (16:Int)) (by kernel_rfl) (by kernel_rfl) (fun h_10 => ?_) (fun h_10 => ?_)
  refine st_skip (by kernel_rfl) ?_
  refine sn (sq ?_)
  refine st_block 1 (by kernel_rfl) ?_
  refine ra (A := ((0:Int) ≤ r_0) ∧ (r_0 < (↑(16:Nat):Int)) ∧ ((tabC c3 (16:Nat) A_1)[r_0.toNat * (1:Nat) + 0]? = some (AV.sl (List.map c3 (A_1 r_0.toNat)))) ∧ ((0:Int) ≤ r_0) ∧ (r_0 < (↑(16:Nat):Int)) ∧ ((tabC c3 (16:Nat) B_2)[r_0.toNat * (1:Nat) + 0]? = some (AV.sl (List.map c3 (B_2 r_0.toNat)))) ∧ _ ∧ ((0:Int) ≤ r_0) ∧ (r_0 < (↑(16:Nat):Int)) ∧ (r_0.toNat * (1:Nat) + 0 < (tabC c3 (16:Nat) S_3).length) ∧ (cellsA (AV.sl (List.map c3 (combL (ruleB (2:Int)) (A_1 r_0.toNat) (B_2 r_0.toNat) false false false))) = [(cellsA (AV.sl (List.map c3 (combL (ruleB (2:Int)) (A_1 r_0.toNat) (B_2 r_0.toNat) false false false)))).headD AV.dead]) ∧ ((tabC c3 (16:Nat) S_3).set (r_0.toNat * (1:Nat) + 0) ((cellsA (AV.sl (List.map c3 (combL (ruleB (2:Int)) (A_1 r_0.toNat) (B_2 r_0.toNat) false false false)))).headD AV.dead) = tabC c3 (16:Nat) (updF S_3 r_0.toNat (combL (ruleB (2:Int)) (A_1 r_0.toNat) (B_2 r_0.toNat) false false false)))) cx [(4, { row := [.sl (List.map c3 (A_1 r_0.toNat))] }), (8, { row := [.sl (List.map c3 (B_2 r_0.toNat))] }), (10, { val := some (.sl (List.map c3 (combL (ruleB (2:Int)) (A_1 r_0.toNat) (B_2 r_0.toNat) false false false))) }), (13, { rows := some [(tabC c3 (16:Nat) (updF S_3 r_0.toNat (combL (ruleB (2:Int)) (A_1 r_0.toNat) (B_2 r_0.toNat) false false false)))] })] [2, 3, 4, 6, 7, 8] [3, 4, 6, 7] ⟨(by (with_reducible assumption)), (by omega), (by (simp only [Nat.mul_one, Nat.add_zero, Nat.zero_add]; with_reducible refine get_tabC ?_; omega)), (by (with_reducible assumption)), (by omega), (by (simp only [Nat.mul_one, Nat.add_zero, Nat.zero_add]; with_reducible refine get_tabC ?_; omega)), (con153 (A_1 r_0.toNat) (B_2 r_0.toNat) ((2:Int)) ?g1 ?g2), (by (with_reducible assumption)), (by omega), ?g3, (by kernel_rfl), (by (simp only [Nat.mul_one, Nat.add_zero, Nat.zero_add]; (with_reducible refine set_tabC' ?_); exact Eq.refl _))⟩ ?_; rotate_left 3
  refine q_blk_normal ?_
  refine sn ?_
  refine rg (A := (AV.i .i64 (IntKind.i64.wrap (r_0 + (1:Int))) = AV.i .i64 (r_0 + (1:Int)))) cx [(1, { tell := some (.i .i64 (r_0 + (1:Int))) })] [2, 3, 4, 6, 7, 8] [3, 4, 6, 7] (told_i64 (by omega) (by omega)) ?_
  refine sn ?_
  refine loop_next ((r_0 + (1:Int), A_1, B_2, updF S_3 r_0.toNat (combL (ruleB (2:Int)) (A_1 r_0.toNat) (B_2 r_0.toNat) false false false))) (by kernel_rfl) (show ((16:Int) - (r_0 + (1:Int))).toNat < ((16:Int) - r_0).toNat from (by omega)) (show invCo U V (r_0 + (1:Int)) A_1 B_2 (updF S_3 r_0.toNat (combL (ruleB (2:Int)) (A_1 r_0.toNat) (B_2 r_0.toNat) false false false)) from ?g4); rotate_left 1
  refine st_exit 0 (by kernel_rfl) ?_
  refine q_seq_exit ?_
  refine q_seq_exit ?_
  refine q_blk_hit ?_
  refine sn (sq ?_)
  refine rg (A := ((tabC c3 (16:Nat) S_3).length = (16:Nat))) cx [] [6] [6] (by kernel_rfl) ?_
  refine sn ?_
  refine st_ret (by kernel_rfl) ?_
  refine q_ret (r := .agg [.sl (List.map c3 (S_3 (0))), .sl (List.map c3 (S_3 (1))), .sl (List.map c3 (S_3 (2))), .sl (List.map c3 (S_3 (3))), .sl (List.map c3 (S_3 (4))), .sl (List.map c3 (S_3 (5))), .sl (List.map c3 (S_3 (6))), .sl (List.map c3 (S_3 (7))), .sl (List.map c3 (S_3 (8))), .sl (List.map c3 (S_3 (9))), .sl (List.map c3 (S_3 (10))), .sl (List.map c3 (S_3 (11))), .sl (List.map c3 (S_3 (12))), .sl (List.map c3 (S_3 (13))), .sl (List.map c3 (S_3 (14))), .sl (List.map c3 (S_3 (15)))]) (obl := []) (by kernel_rfl) trivial (AVle.eq (show AV.agg [AV.sl (List.map c3 (S_3 (0))), AV.sl (List.map c3 (S_3 (1))), AV.sl (List.map c3 (S_3 (2))), AV.sl (List.map c3 (S_3 (3))), AV.sl (List.map c3 (S_3 (4))), AV.sl (List.map c3 (S_3 (5))), AV.sl (List.map c3 (S_3 (6))), AV.sl (List.map c3 (S_3 (7))), AV.sl (List.map c3 (S_3 (8))), AV.sl (List.map c3 (S_3 (9))), AV.sl (List.map c3 (S_3 (10))), AV.sl (List.map c3 (S_3 (11))), AV.sl (List.map c3 (S_3 (12))), AV.sl (List.map c3 (S_3 (13))), AV.sl (List.map c3 (S_3 (14))), AV.sl (List.map c3 (S_3 (15)))] = AV.agg (c122 (tnS (minU U V))) from ?g5)); rotate_left 1
  rotate_left
  revert r_0 A_1 B_2 S_3 h_5 h_6 h_7 h_8 h_9 h_10; rotate_left
  revert r_0 A_1 B_2 S_3 h_5 h_6 h_7 h_8 h_9 h_10; rotate_left
  revert r_0 A_1 B_2 S_3 h_5 h_6 h_7 h_8 h_9 h_10; rotate_left
  revert r_0 A_1 B_2 S_3 h_5 h_6 h_7 h_8 h_9 h_10; rotate_left
  revert r_0 A_1 B_2 S_3 h_5 h_6 h_7 h_8 h_9 h_10; rotate_left
  case g0 => exact ⟨rfl, rfl, by omega, by omega, fun k hk => by omega⟩
  case g1 => intro r A B S h0 h1 h2 h3 h4 h5; subst h0; exact tnS_len hU (by omega)
  case g2 => intro r A B S h0 h1 h2 h3 h4 h5; subst h1; exact tnS_len hV (by omega)
  case g3 => intro r A B S h0 h1 h2 h3 h4 h5; rw [tabC_len]; omega
  case g4 => intro r A B S h0 h1 h2 h3 h4 h5; subst h0 h1; exact ⟨rfl, rfl, by omega, by omega, isCo_next hU hV h2 h5 h4⟩
  case g5 =>
    intro r A B S h0 h1 h2 h3 h4 h5
    refine congrArg AV.agg ?_
    show tabC c3 16 S = tabC c3 16 (tnS (minU U V))
    unfold tabC
    refine List.map_congr_left fun k hk => ?_
    rw [h4 k (by have : k < 16 := by simpa using hk
                 omega)]
theorem con60 (a b : Past) (ha : a.cloud.length * 16 ≤ 140737488350000) (hb : b.cloud.length * 16 ≤ 140737488350000) : Con Tryz.prog 60 [.agg (c26 a), .agg (c26 b)] (.agg (c26 (minusP a b))) :=
 by
 refine st_con tab_ok (by kernel_rfl) [.cell 4 26] 11 Go.Proofs.Tryz.func60 (by kernel_rfl) (by kernel_rfl) ?_
 intro e0 cx
 refine sq ?_
 refine rg (A := True) cx [] [2, 3, 4] [2, 3, 4] trivial ?_
 refine sn (sq ?_)
 refine ra (A := _ ∧ _ ∧ _ ∧ _) cx [(1, { val := some (.agg (tabC c3 (16:Nat) (tnS (nrmT (openT [a]))))) }), (3, { val := some (.agg (tabC c3 (16:Nat) (tnS (nrmT (openT [b]))))) }), (4, { val := some (.agg (tabC c3 (16:Nat) (tnS (minU (nrmT (openT [a])) (nrmT (openT [b])))))) }), (5, { val := some (.agg [.sl (List.map c3 (tabP (minU (nrmT (openT [a])) (nrmT (openT [b])))).vec), .sl (List.map c104 (tabP (minU (nrmT (openT [a])) (nrmT (openT [b])))).cloud)]) })] [4] [4] ⟨(con100 (a) (by (with_reducible assumption))), (con100 (b) (by (with_reducible assumption))), (con110_1 (nrmT (openT [a])) (nrmT (openT [b])) ?g0 ?g1), (con109 (minU (nrmT (openT [a])) (nrmT (openT [b]))) ?g2)⟩ ?_; rotate_left 3
 refine sn ?_
 refine st_ret (by kernel_rfl) ?_
 refine q_ret (r := .agg [.sl (List.map c3 (tabP (minU (nrmT (openT [a])) (nrmT (openT [b])))).vec), .sl (List.map c104 (tabP (minU (nrmT (openT [a])) (nrmT (openT [b])))).cloud)]) (obl := []) (by kernel_rfl) trivial (AVle.eq (show AV.agg [AV.sl (List.map c3 (tabP (minU (nrmT (openT [a])) (nrmT (openT [b])))).vec), AV.sl (List.map c104 (tabP (minU (nrmT (openT [a])) (nrmT (openT [b])))).cloud)] = AV.agg (c26 (minusP a b)) from ?g3)); rotate_left 1
 case g0 => exact nrmT_sep _
 case g1 => exact nrmT_sep _
 case g2 => intro r hr; exact minR_sep _ _
 case g3 => rw [min_tab]; rfl
theorem con108 (p : Past) (hb : p.cloud.length * 16 ≤ 140737488350000) : Con Tryz.prog 108 [.agg (c26 p)] (.i .i64 (sizeP p)) :=
 by
 have hl : ∀ r, (nrmT (openT [p]) r).length ≤ 500000000 := fun r => sepR_len (nrm_sep _)
 have hz : ∀ n, 0 ≤ sizeT (nrmT (openT [p])) n ∧ sizeT (nrmT (openT [p])) n ≤ n * 1000000000 := sizeT_rng _
 have hk : ∀ r n, 0 ≤ sizeR ((nrmT (openT [p]) r).take n) ∧ sizeR ((nrmT (openT [p]) r).take n) ≤ 1000000000 := fun r n => sizeR_rng (sepR_take (nrm_sep _) n)
 have hr : ∀ (r:Nat) (k:Int), 0 ≤ k → k + 1 < 2 * (nrmT (openT [p]) r).length → 1 ≤ (nrmT (openT [p]) r)[(k / 2).toNat]!.lo ∧ (nrmT (openT [p]) r)[(k / 2).toNat]!.lo ≤ (nrmT (openT [p]) r)[(k / 2).toNat]!.hi ∧ (nrmT (openT [p]) r)[(k / 2).toNat]!.hi ≤ 1000000000 :=
  fun r k h0 h1 => (nrm_sep _).2 _ (bang_in (by have h2 : k + 1 < 2 * (nrm (openT [p] r)).length := h1; omega))
 have ht : ∀ r, (tnS (nrmT (openT [p])) r).length = 2 * (nrmT (openT [p]) r).length := fun r => turns_len _
 have hs := sizeT_nrm (openT [p])
 have hU : ∀ r, nrm (nrmT (openT [p]) r) = nrmT (openT [p]) r := nrmT_U
 have hP : sizeP p = sizeT (nrmT (openT [p])) 16 := (sizeP_eq p).trans (hs 16).symm
 clear hs
 refine st_con tab_ok (by kernel_rfl) [.tmp 2] 42 Go.Proofs.Tryz.func108 (by kernel_rfl) (by kernel_rfl) ?_
 intro e0 cx
 refine sq ?_
 refine rg (A := True) cx [] [1] [1] trivial ?_
 refine sn (sq ?_)
 refine rg (A := _) cx [(1, { val := some (.agg (tabC c3 (16:Nat) (tnS (nrmT (openT [p]))))) })] [3] [3] (con100 (p) (by (with_reducible assumption))) ?_
 refine sn (sq ?_)
 refine rg (A := True) cx [] [3, 4] [3] trivial ?_
 refine sn (sq ?_)
 refine sq ?_
 refine rg (A := True) cx [] [3, 4, 5] [3] trivial ?_
 refine sn ?_
 refine st_block 0 (by kernel_rfl) ?_
 refine awp_varArr 3 ⟨0, 122, .var [.sl (List.map c3 (tnS (nrmT (openT [p])) (0))), .sl (List.map c3 (tnS (nrmT (openT [p])) (1))), .sl (List.map c3 (tnS (nrmT (openT [p])) (2))), .sl (List.map c3 (tnS (nrmT (openT [p])) (3))), .sl (List.map c3 (tnS (nrmT (openT [p])) (4))), .sl (List.map c3 (tnS (nrmT (openT [p])) (5))), .sl (List.map c3 (tnS (nrmT (openT [p])) (6))), .sl (List.map c3 (tnS (nrmT (openT [p])) (7))), .sl (List.map c3 (tnS (nrmT (openT [p])) (8))), .sl (List.map c3 (tnS (nrmT (openT [p])) (9))), .sl (List.map c3 (tnS (nrmT (openT [p])) (10))), .sl (List.map c3 (tnS (nrmT (openT [p])) (11))), .sl (List.map c3 (tnS (nrmT (openT [p])) (12))), .sl (List.map c3 (tnS (nrmT (openT [p])) (13))), .sl (List.map c3 (tnS (nrmT (openT [p])) (14))), .sl (List.map c3 (tnS (nrmT (openT [p])) (15)))]⟩ [.sl (List.map c3 (tnS (nrmT (openT [p])) (0))), .sl (List.map c3 (tnS (nrmT (openT [p])) (1))), .sl (List.map c3 (tnS (nrmT (openT [p])) (2))), .sl (List.map c3 (tnS (nrmT (openT [p])) (3))), .sl (List.map c3 (tnS (nrmT (openT [p])) (4))), .sl (List.map c3 (tnS (nrmT (openT [p])) (5))), .sl (List.map c3 (tnS (nrmT (openT [p])) (6))), .sl (List.map c3 (tnS (nrmT (openT [p])) (7))), .sl (List.map c3 (tnS (nrmT (openT [p])) (8))), .sl (List.map c3 (tnS (nrmT (openT [p])) (9))), .sl (List.map c3 (tnS (nrmT (openT [p])) (10))), .sl (List.map c3 (tnS (nrmT (openT [p])) (11))), .sl (List.map c3 (tnS (nrmT (openT [p])) (12))), .sl (List.map c3 (tnS (nrmT (openT [p])) (13))), .sl (List.map c3 (tnS (nrmT (openT [p])) (14))), .sl (List.map c3 (tnS (nrmT (openT [p])) (15)))] (tabC c3 (16:Nat) (tnS (nrmT (openT [p])))) (σ' := ⟨[(3, .ptr (3) (0) (0) (0)), (4, .i .i64 ((0:Int))), (5, .i .i64 ((0:Int)))], [(3, ⟨0, 122, .arr (tabC c3 (16:Nat) (tnS (nrmT (openT [p]))))⟩)]⟩) (by kernel_rfl) (by kernel_rfl) (by kernel_rfl) (by kernel_rfl) (ZLe.of_eq (by kernel_rfl)) (by kernel_rfl) ?_
 refine st_loop (X := Int × Int × (Nat → List Int)) (fun x => ⟨[(3, .ptr (3) (0) (0) (0)), (4, .i .i64 (x.fst)), (5, .i .i64 (x.snd.fst))], [(3, ⟨0, 122, .arr (tabC c3 (16:Nat) x.snd.snd)⟩)]⟩) (fun x ↦ decRs x.fst x.snd.fst x.snd.snd) (fun x ↦ invRs (nrmT (openT [p])) x.fst x.snd.fst x.snd.snd) [3, 4, 5] [3] (((0:Int), (0:Int), tnS (nrmT (openT [p])))) (by kernel_rfl) (by kernel_rfl) (show invRs (nrmT (openT [p])) (0:Int) (0:Int) (tnS (nrmT (openT [p]))) from ?g0) ?_; rotate_left 1
 rintro ⟨n_0, r_1, S_2⟩ h_3
 obtain ⟨h_4, h_5, h_6, h_7⟩ : S_2 = tnS (nrmT (openT [p])) ∧ (0:Int) ≤ r_1 ∧ r_1 ≤ (16:Int) ∧ n_0 = sizeT (nrmT (openT [p])) r_1.toNat := h_3
 refine sq ?_
 refine sq ?_
 refine rg (A := (AV.b (decide (r_1 < (16:Int))) = AV.b (decide (r_1 < (16:Int))))) cx [(1, { tell := some (.b (decide (r_1 < (16:Int)))) })] [3, 4, 5, 10] [3] (by kernel_rfl) ?_
 refine sn ?_
 refine st_dec (r_1 < (16:Int)) (by kernel_rfl) (by kernel_rfl) (fun h_8 => ?_) (fun h_8 => ?_)
 refine st_skip (by kernel_rfl) ?_
 refine sn (sq ?_)
 refine st_block 1 (by kernel_rfl) ?_
 refine sq ?_
 refine rg (A := True) cx [] [3, 4, 5, 6] [3] trivial ?_
 refine sn ?_
 refine st_block 2 (by kernel_rfl) ?_
 refine st_loop (X := Int × Int × (Nat → List Int)) (fun x => ⟨[(3, .ptr (3) (0) (0) (0)), (4, .i .i64 (x.fst)), (5, .i .i64 (r_1)), (6, .i .i64 (x.snd.fst))], [(3, ⟨0, 122, .arr (tabC c3 (16:Nat) x.snd.snd)⟩)]⟩) (fun x ↦ decRt (nrmT (openT [p])) r_1 x.fst x.snd.fst x.snd.snd) (fun x ↦ invRt (nrmT (openT [p])) r_1 n_0 x.fst x.snd.fst x.snd.snd) [3, 4, 5, 6] [3] ((n_0, (0:Int), S_2)) (by kernel_rfl) (by kernel_rfl) (show invRt (nrmT (openT [p])) r_1 n_0 n_0 (0:Int) S_2 from ?g1) ?_; rotate_left 1
 rintro ⟨n_9, k_10, S_11⟩ h_12
 obtain ⟨h_13, h_14, h_15, h_16, h_17⟩ : S_11 = tnS (nrmT (openT [p])) ∧ (0:Int) ≤ k_10 ∧ k_10 ≤ (2:Int) * (↑(nrmT (openT [p]) r_1.toNat).length:Int) ∧ (2:Int) * (k_10 / (2:Int)) = k_10 ∧ n_9 = n_0 + sizeR (List.take (k_10 / (2:Int)).toNat (nrmT (openT [p]) r_1.toNat)) := h_12
 refine sq ?_
 refine sq ?_
 refine rg (A := (AV.i .i64 (IntKind.i64.wrap (k_10 + (1:Int))) = AV.i .i64 (k_10 + (1:Int))) ∧ ((0:Int) ≤ r_1) ∧ (r_1 < (↑(16:Nat):Int)) ∧ ((tabC c3 (16:Nat) S_11)[r_1.toNat * (1:Nat) + 0]? = some (AV.sl (List.map c3 (S_11 r_1.toNat)))) ∧ _ ∧ (AV.b (decide (k_10 + (1:Int) < (↑(S_11 r_1.toNat).length:Int))) = AV.b (decide (k_10 + (1:Int) < (↑(S_11 r_1.toNat).length:Int))))) cx [(1, { tell := some (.i .i64 (k_10 + (1:Int))) }), (5, { row := [.sl (List.map c3 (S_11 r_1.toNat))] }), (6, { tell := some (.i .i64 ((↑(S_11 r_1.toNat).length:Int))) }), (7, { tell := some (.b (decide (k_10 + (1:Int) < (↑(S_11 r_1.toNat).length:Int)))) })] [3, 4, 5, 6, 20] [3] ⟨(told_i64 (by omega) ?g2), (by (with_reducible assumption)), (by omega), (by (simp only [Nat.mul_one, Nat.add_zero, Nat.zero_add]; with_reducible refine get_tabC ?_; omega)), (told_len c3 (S_11 r_1.toNat)), (by kernel_rfl)⟩ ?_; rotate_left 1
 refine sn ?_
 refine st_dec (k_10 + (1:Int) < (↑(S_11 r_1.toNat).length:Int)) (by kernel_rfl) (by kernel_rfl) (fun h_18 => ?_) (fun h_18 => ?_)
 refine st_skip (by kernel_rfl) ?_
 refine sn (sq ?_)
 refine st_block 3 (by kernel_rfl) ?_
 refine ra (A := ((0:Int) ≤ r_1) ∧ (r_1 < (↑(16:Nat):Int)) ∧ ((tabC c3 (16:Nat) S_11)[r_1.toNat * (1:Nat) + 0]? = some (AV.sl (List.map c3 (S_11 r_1.toNat)))) ∧ (AV.i .i64 (IntKind.i64.wrap (k_10 + (1:Int))) = AV.i .i64 (k_10 + (1:Int))) ∧ ((0:Int) ≤ k_10 + (1:Int)) ∧ ((List.map c3 (S_11 r_1.toNat))[(k_10 + (1:Int)).toNat]? = some (c3 (S_11 r_1.toNat)[(k_10 + (1:Int)).toNat]!)) ∧ ((c3 (S_11 r_1.toNat)[(k_10 + (1:Int)).toNat]!).length = (1:Nat)) ∧ ((0:Int) ≤ r_1) ∧ (r_1 < (↑(16:Nat):Int)) ∧ ((tabC c3 (16:Nat) S_11)[r_1.toNat * (1:Nat) + 0]? = some (AV.sl (List.map c3 (S_11 r_1.toNat)))) ∧ ((0:Int) ≤ k_10) ∧ ((List.map c3 (S_11 r_1.toNat))[k_10.toNat]? = some (c3 (S_11 r_1.toNat)[k_10.toNat]!)) ∧ ((c3 (S_11 r_1.toNat)[k_10.toNat]!).length = (1:Nat)) ∧ (AV.i .i64 (IntKind.i64.wrap ((S_11 r_1.toNat)[(k_10 + (1:Int)).toNat]! - (S_11 r_1.toNat)[k_10.toNat]!)) = AV.i .i64 ((S_11 r_1.toNat)[(k_10 + (1:Int)).toNat]! - (S_11 r_1.toNat)[k_10.toNat]!)) ∧ (AV.i .i64 (IntKind.i64.wrap (n_9 + ((S_11 r_1.toNat)[(k_10 + (1:Int)).toNat]! - (S_11 r_1.toNat)[k_10.toNat]!))) = AV.i .i64 (n_9 + ((S_11 r_1.toNat)[(k_10 + (1:Int)).toNat]! - (S_11 r_1.toNat)[k_10.toNat]!)))) cx [(4, { row := [.sl (List.map c3 (S_11 r_1.toNat))] }), (6, { tell := some (.i .i64 (k_10 + (1:Int))) }), (7, { row := (c3 (S_11 r_1.toNat)[(k_10 + (1:Int)).toNat]!) }), (12, { row := [.sl (List.map c3 (S_11 r_1.toNat))] }), (14, { row := (c3 (S_11 r_1.toNat)[k_10.toNat]!) }), (16, { tell := some (.i .i64 ((S_11 r_1.toNat)[(k_10 + (1:Int)).toNat]! - (S_11 r_1.toNat)[k_10.toNat]!)) }), (17, { tell := some (.i .i64 (n_9 + ((S_11 r_1.toNat)[(k_10 + (1:Int)).toNat]! - (S_11 r_1.toNat)[k_10.toNat]!))) })] [3, 4, 5, 6] [3] ⟨(by (with_reducible assumption)), (by omega), (by (simp only [Nat.mul_one, Nat.add_zero, Nat.zero_add]; with_reducible refine get_tabC ?_; omega)), (told_i64 (by omega) ?g3), (by omega), (by (with_reducible refine get_map ?_; omega)), (by kernel_rfl), (by (with_reducible assumption)), (by omega), (by (simp only [Nat.mul_one, Nat.add_zero, Nat.zero_add]; with_reducible refine get_tabC ?_; omega)), (by (with_reducible assumption)), (by (with_reducible refine get_map ?_; omega)), (by kernel_rfl), (told_i64 ?g4 ?g5), (told_i64 ?g6 ?g7)⟩ ?_; rotate_left 5
 refine q_blk_normal ?_
 refine sn ?_
 refine rg (A := (AV.i .i64 (IntKind.i64.wrap (k_10 + (2:Int))) = AV.i .i64 (k_10 + (2:Int)))) cx [(1, { tell := some (.i .i64 (k_10 + (2:Int))) })] [3, 4, 5, 6] [3] (told_i64 (by omega) ?g8) ?_; rotate_left 1
 refine sn ?_
 refine loop_next ((n_9 + ((S_11 r_1.toNat)[(k_10 + (1:Int)).toNat]! - (S_11 r_1.toNat)[k_10.toNat]!), k_10 + (2:Int), S_11)) (by kernel_rfl) (show ((2:Int) * (↑(nrmT (openT [p]) r_1.toNat).length:Int) - (k_10 + (2:Int))).toNat < ((2:Int) * (↑(nrmT (openT [p]) r_1.toNat).length:Int) - k_10).toNat from ?g9) (show invRt (nrmT (openT [p])) r_1 n_0 (n_9 + ((S_11 r_1.toNat)[(k_10 + (1:Int)).toNat]! - (S_11 r_1.toNat)[k_10.toNat]!)) (k_10 + (2:Int)) S_11 from ?g10); rotate_left 2
 refine st_exit 2 (by kernel_rfl) ?_
 refine q_seq_exit ?_
 refine q_seq_exit ?_
 refine q_blk_hit ?_
 refine q_blk_normal ?_
 refine sn ?_
 refine rg (A := (AV.i .i64 (IntKind.i64.wrap (r_1 + (1:Int))) = AV.i .i64 (r_1 + (1:Int)))) cx [(1, { tell := some (.i .i64 (r_1 + (1:Int))) })] [3, 4, 5] [3] (told_i64 (by omega) (by omega)) ?_
 refine sn ?_
 refine loop_next ((n_9, r_1 + (1:Int), S_11)) (by kernel_rfl) (show ((16:Int) - (r_1 + (1:Int))).toNat < ((16:Int) - r_1).toNat from (by omega)) (show invRs (nrmT (openT [p])) n_9 (r_1 + (1:Int)) S_11 from ?g11); rotate_left 1
 refine st_exit 0 (by kernel_rfl) ?_
 refine q_seq_exit ?_
 refine q_seq_exit ?_
 refine q_blk_hit ?_
 refine sn (sq ?_)
 refine rg (A := True) cx [] [2] [] trivial ?_
 refine sn ?_
 refine st_ret (by kernel_rfl) ?_
 refine q_ret (r := .i .i64 (n_0)) (obl := []) (by kernel_rfl) trivial (AVle.eq (show AV.i .i64 n_0 = AV.i .i64 (sizeP p) from ?g12)); rotate_left 1
 rotate_left
 revert n_0 r_1 S_2 h_4 h_5 h_6 h_7 h_8; rotate_left
 revert n_0 r_1 S_2 h_4 h_5 h_6 h_7 h_8 n_9 k_10 S_11 h_13 h_14 h_15 h_16 h_17; rotate_left
 revert n_0 r_1 S_2 h_4 h_5 h_6 h_7 h_8 n_9 k_10 S_11 h_13 h_14 h_15 h_16 h_17 h_18; rotate_left
 revert n_0 r_1 S_2 h_4 h_5 h_6 h_7 h_8 n_9 k_10 S_11 h_13 h_14 h_15 h_16 h_17 h_18; rotate_left
 revert n_0 r_1 S_2 h_4 h_5 h_6 h_7 h_8 n_9 k_10 S_11 h_13 h_14 h_15 h_16 h_17 h_18; rotate_left
 revert n_0 r_1 S_2 h_4 h_5 h_6 h_7 h_8 n_9 k_10 S_11 h_13 h_14 h_15 h_16 h_17 h_18; rotate_left
 revert n_0 r_1 S_2 h_4 h_5 h_6 h_7 h_8 n_9 k_10 S_11 h_13 h_14 h_15 h_16 h_17 h_18; rotate_left
 revert n_0 r_1 S_2 h_4 h_5 h_6 h_7 h_8 n_9 k_10 S_11 h_13 h_14 h_15 h_16 h_17 h_18; rotate_left
 revert n_0 r_1 S_2 h_4 h_5 h_6 h_7 h_8 n_9 k_10 S_11 h_13 h_14 h_15 h_16 h_17 h_18; rotate_left
 revert n_0 r_1 S_2 h_4 h_5 h_6 h_7 h_8 n_9 k_10 S_11 h_13 h_14 h_15 h_16 h_17 h_18; rotate_left
 revert n_0 r_1 S_2 h_4 h_5 h_6 h_7 h_8 n_9 k_10 S_11 h_13 h_14 h_15 h_16 h_17 h_18; rotate_left
 revert n_0 r_1 S_2 h_4 h_5 h_6 h_7 h_8; rotate_left
 all_goals generalize nrmT (openT [p]) = U at *
 case g0 => exact ⟨rfl, by omega, by omega, rfl⟩
 case g1 => intro n r S h0 h1 h2 h3 h4; exact ⟨h0, by omega, by omega, by omega, by simp [sizeR]⟩
 case g2 => intro n r S h0 h1 h2 h3 h4 m k R k0 k1 k2 k3 k4; have := hl r.toNat; omega
 case g3 => intro n r S h0 h1 h2 h3 h4 m k R k0 k1 k2 k3 k4 k5; have := hl r.toNat; omega
 case g4 =>
  intro n r S h0 h1 h2 h3 h4 m k R k0 k1 k2 k3 k4 k5
  subst k0; rw [ht] at k5
  have := tn_at (U := U) (r := r) k1 k3 (by omega); have := hr r.toNat k k1 (by omega); omega
 case g5 =>
  intro n r S h0 h1 h2 h3 h4 m k R k0 k1 k2 k3 k4 k5
  subst k0; rw [ht] at k5
  have := tn_at (U := U) (r := r) k1 k3 (by omega); have := hr r.toNat k k1 (by omega); omega
 case g6 =>
  intro n r S h0 h1 h2 h3 h4 m k R k0 k1 k2 k3 k4 k5
  subst k0; rw [ht] at k5
  have := tn_at (U := U) (r := r) k1 k3 (by omega); have := hr r.toNat k k1 (by omega)
  have := hz r.toNat; have := hk r.toNat (k / 2).toNat; omega
 case g7 =>
  intro n r S h0 h1 h2 h3 h4 m k R k0 k1 k2 k3 k4 k5
  subst k0; rw [ht] at k5
  have := tn_at (U := U) (r := r) k1 k3 (by omega); have := hr r.toNat k k1 (by omega)
  have := hz r.toNat; have := hk r.toNat (k / 2).toNat; omega
 case g8 => intro n r S h0 h1 h2 h3 h4 m k R k0 k1 k2 k3 k4 k5; have := hl r.toNat; omega
 case g9 => intro n r S h0 h1 h2 h3 h4 m k R k0 k1 k2 k3 k4 k5; subst k0; rw [ht] at k5; omega
 case g10 =>
  intro n r S h0 h1 h2 h3 h4 m k R k0 k1 k2 k3 k4 k5
  subst k0; rw [ht] at k5
  have h6 := tn_at (U := U) (r := r) k1 k3 (by omega)
  refine ⟨rfl, by omega, by omega, by omega, ?_⟩
  rw [sizeR_two k1 k3 (by omega)]
  omega
 case g11 =>
  intro n r S h0 h1 h2 h3 h4 m k R k0 k1 k2 k3 k4 k5
  subst k0; rw [ht] at k5
  refine ⟨rfl, by omega, by omega, ?_⟩
  rw [show (r + 1).toNat = r.toNat + 1 by omega, sizeT, hU, k4, h3, List.take_of_length_le (by omega)]
 case g12 => intro n r S h0 h1 h2 h3 h4; rw [h3, hP, show r.toNat = 16 by omega]
theorem con59 (p : Past) (hb : p.cloud.length * 16 ≤ 140737488350000) : Con Tryz.prog 59 [.agg (c26 p)] (.b (decide (sizeP p = 0))) :=
 by
 refine st_con tab_ok (by kernel_rfl) [.tmp 2] 6 Go.Proofs.Tryz.func59 (by kernel_rfl) (by kernel_rfl) ?_
 intro e0 cx
 refine sq ?_
 refine rg (A := True) cx [] [1] [1] trivial ?_
 refine sn (sq ?_)
 refine rg (A := _ ∧ (AV.b (sizeP p == (0:Int)) = AV.b (decide (sizeP p = (0:Int))))) cx [(1, { val := some (.i .i64 (sizeP p)) }), (2, { tell := some (.b (decide (sizeP p = (0:Int)))) })] [2] [] ⟨(con108 (p) (by (with_reducible assumption))), (by kernel_rfl)⟩ ?_
 refine sn ?_
 refine st_ret (by kernel_rfl) ?_
 exact q_ret (r := .b (decide (sizeP p = (0:Int)))) (obl := []) (by kernel_rfl) trivial (AVle.refl _)
end Go.Proofs.YtaiepnaokhpmcaaGreat
namespace Go.Proofs.YtaiepnaokhpmcaaGreat
open Go.E
set_option maxRecDepth 100000
set_option maxHeartbeats 4000000
def invRc (x y : Past) (r:Int) (u : List Int) (c : List Span) (v : List Int) (d : List Span) : Prop := u = x.vec ∧ c = x.cloud ∧ v = y.vec ∧ d = y.cloud ∧ 0 ≤ r ∧ r ≤ 16 ∧ isCF x.vec y.vec r
def decRc (r:Int) (u : List Int) (c : List Span) (v : List Int) (d : List Span) : Nat := (16 - r).toNat
def invRd (x y : Past) (i:Int) (u : List Int) (c : List Span) (v : List Int) (d : List Span) : Prop := c = x.cloud ∧ d = y.cloud ∧ 0 ≤ i ∧ i ≤ x.cloud.length ∧ i ≤ y.cloud.length ∧ cmpC x.cloud y.cloud = cmpC (x.cloud.drop i.toNat) (y.cloud.drop i.toNat)
def decRd2 (x : Past) (i:Int) (u : List Int) (c : List Span) (v : List Int) (d : List Span) : Nat := (x.cloud.length - i).toNat
theorem con196 (a b:Int) : Con Tryz.prog 196 [.i .i64 a, .i .i64 b] (.i .i64 (cmpI a b)) :=
 by
 refine st_con tab_ok (by kernel_rfl) [.tmp 4] 11 Go.Proofs.Tryz.func196 (by kernel_rfl) (by kernel_rfl) ?_
 intro e0 cx
 refine sq ?_
 refine rg (A := True) cx [] [0, 1] [] trivial ?_
 refine sn (sq ?_)
 refine sq ?_
 refine rg (A := (AV.b (decide (a < b)) = AV.b (decide (a < b)))) cx [(2, { tell := some (.b (decide (a < b))) })] [0, 1, 7] [] (by kernel_rfl) ?_
 refine sn ?_
 refine st_dec (a < b) (by kernel_rfl) (by kernel_rfl) (fun h_0 => ?_) (fun h_0 => ?_)
 refine sq ?_
 refine rg (A := True) cx [] [4] [] trivial ?_
 refine sn ?_
 refine st_ret (by kernel_rfl) ?_
 refine q_seq_ret ?_
 refine q_ret (r := .i .i64 ((-1:Int))) (obl := []) (by kernel_rfl) trivial (AVle.eq (show AV.i .i64 (-1:Int) = AV.i .i64 (cmpI a b) from ?g0)); rotate_left 1
 refine st_skip (by kernel_rfl) ?_
 refine sn (sq ?_)
 refine sq ?_
 refine rg (A := (AV.b (decide (a > b)) = AV.b (decide (b < a)))) cx [(2, { tell := some (.b (decide (b < a))) })] [10] [] (by kernel_rfl) ?_
 refine sn ?_
 refine st_dec (b < a) (by kernel_rfl) (by kernel_rfl) (fun h_1 => ?_) (fun h_1 => ?_)
 refine sq ?_
 refine rg (A := True) cx [] [4] [] trivial ?_
 refine sn ?_
 refine st_ret (by kernel_rfl) ?_
 refine q_seq_ret ?_
 refine q_ret (r := .i .i64 ((1:Int))) (obl := []) (by kernel_rfl) trivial (AVle.eq (show AV.i .i64 (1:Int) = AV.i .i64 (cmpI a b) from ?g1)); rotate_left 1
 refine st_skip (by kernel_rfl) ?_
 refine sn (sq ?_)
 refine rg (A := True) cx [] [4] [] trivial ?_
 refine sn ?_
 refine st_ret (by kernel_rfl) ?_
 refine q_ret (r := .i .i64 ((0:Int))) (obl := []) (by kernel_rfl) trivial (AVle.eq (show AV.i .i64 (0:Int) = AV.i .i64 (cmpI a b) from ?g2)); rotate_left 1
 revert h_0; rotate_left
 revert h_0 h_1; rotate_left
 revert h_0 h_1; rotate_left
 case g0 => intro h; unfold cmpI; rw [if_pos h]
 case g1 => intro h k; unfold cmpI; rw [if_neg h, if_pos k]
 case g2 => intro h k; unfold cmpI; rw [if_neg h, if_neg k]
theorem con164 (p q : Past) (hb : p.cloud.length * 16 ≤ 140737488350000) (hq : q.cloud.length * 16 ≤ 140737488350000) : Con Tryz.prog 164 [.agg (c26 p), .agg (c26 q)] (.i .i64 (cmpP p q)) :=
 by
 have D : ∀ {r : Int} {u v : List Int}, u = (normP p).vec → v = (normP q).vec → 0 ≤ r → r < 16 → ∀ {a b : Int}, u[r.toNat]! = a → v[r.toNat]! = b → ¬ a = b → isCF (normP p).vec (normP q).vec r → cmpI a b = cmpP p q := by
  intro r u v e1 e3 h0 h1 a b ha hb hn h
  rw [e1] at ha
  rw [e3] at hb
  have e := cf_diff h0 h1 (by rw [ha, hb]; exact hn) h
  rw [ha, hb] at e
  exact (cp_vec e (cmpI_ne hn)).symm
 have N : ∀ {r : Int} {u v : List Int} {c d : List Span}, u = (normP p).vec → c = (normP p).cloud → v = (normP q).vec → d = (normP q).cloud → 0 ≤ r → r < 16 → ∀ {a b : Int}, u[r.toNat]! = a → v[r.toNat]! = b → ¬ ¬ a = b → isCF (normP p).vec (normP q).vec r → invRc (normP p) (normP q) (r + 1) u c v d := by
  intro r u v c d e1 e2 e3 e4 h0 h1 a b ha hb hn h
  have e := cf_next h0 h1 (by rw [← e1, ← e3, ha, hb]; exact Classical.not_not.1 hn) h
  exact ⟨e1, e2, e3, e4, e.1, e.2.1, e.2.2⟩
 have S1 : ∀ {s t : Span}, ¬ s.rep = t.rep → cmpI s.rep t.rep = cmpS s t := fun {s t} h => by unfold cmpS; rw [if_pos (cmpI_ne h)]
 have S2 : ∀ {s t : Span}, s.rep = t.rep → ¬ s.lo = t.lo → cmpI s.lo t.lo = cmpS s t := fun {s t} h0 h => by unfold cmpS; rw [if_neg (fun k => k (cmpI_zero.2 h0)), if_pos (cmpI_ne h)]
 have S3 : ∀ {s t : Span}, s.rep = t.rep → s.lo = t.lo → cmpI s.hi t.hi = cmpS s t := fun {s t} h0 h => by unfold cmpS; rw [if_neg (fun k => k (cmpI_zero.2 h0)), if_neg (fun k => k (cmpI_zero.2 h))]
 have E : ∀ {i z : Int} {c d : List Span}, c = (normP p).cloud → d = (normP q).cloud → 0 ≤ i → (i < c.length ∧ i < d.length) → cmpC (normP p).cloud (normP q).cloud = cmpC ((normP p).cloud.drop i.toNat) ((normP q).cloud.drop i.toNat) → cmpF (normP p).vec (normP q).vec 0 16 = 0 → ¬ z = 0 → z = cmpS c[i.toNat]! d[i.toNat]! → z = cmpP p q := by
  intro i z c d e1 e2 h0 hl h hf hz e
  rw [e1, e2] at hl e
  rw [cp_cloud hf, cc_diff h0 hl.1 hl.2 (by rw [← e]; exact hz) h]
  exact e
 refine st_con tab_ok (by kernel_rfl) [.tmp 4] 106 Go.Proofs.Tryz.func164 (by kernel_rfl) (by kernel_rfl) ?_
 intro e0 cx
 refine sq ?_
 refine rg (A := True) cx [] [2, 3] [2, 3] trivial ?_
 refine sn (sq ?_)
 refine rg (A := _) cx [(1, { val := some (.agg [.sl (List.map c3 (normP p).vec), .sl (List.map c104 (normP p).cloud)]) })] [2, 3] [2, 3] (con95 (p) (by (with_reducible assumption))) ?_
 refine sn (sq ?_)
 refine rg (A := _) cx [(1, { val := some (.agg [.sl (List.map c3 (normP q).vec), .sl (List.map c104 (normP q).cloud)]) })] [2, 3] [2, 3] (con95 (q) (by (with_reducible assumption))) ?_
 refine sn (sq ?_)
 refine sq ?_
 refine rg (A := True) cx [] [2, 3, 5] [2, 3] trivial ?_
 refine sn ?_
 refine st_block 0 (by kernel_rfl) ?_
 refine st_loop (X := Int × List Int × List Span × List Int × List Span) (fun x => ⟨[(2, .ptr (2) (0) (0) (0)), (3, .ptr (3) (0) (0) (0)), (5, .i .i64 (x.fst))], [(2, ⟨0, 26, .var [.sl (List.map c3 x.snd.fst), .sl (List.map c104 x.snd.snd.fst)]⟩), (3, ⟨0, 26, .var [.sl (List.map c3 x.snd.snd.snd.fst), .sl (List.map c104 x.snd.snd.snd.snd)]⟩)]⟩) (fun x ↦ decRc x.fst x.snd.fst x.snd.snd.fst x.snd.snd.snd.fst x.snd.snd.snd.snd) (fun x ↦ invRc (normP p) (normP q) x.fst x.snd.fst x.snd.snd.fst x.snd.snd.snd.fst x.snd.snd.snd.snd) [2, 3, 5] [2, 3] (((0:Int), (normP p).vec, (normP p).cloud, (normP q).vec, (normP q).cloud)) (by kernel_rfl) (by kernel_rfl) (show invRc (normP p) (normP q) (0:Int) (normP p).vec (normP p).cloud (normP q).vec (normP q).cloud from ?g0) ?_; rotate_left 1
 rintro ⟨r_0, u_1, c_2, v_3, d_4⟩ h_5
 obtain ⟨h_6, h_7, h_8, h_9, h_10, h_11, h_12⟩ : u_1 = (normP p).vec ∧ c_2 = (normP p).cloud ∧ v_3 = (normP q).vec ∧ d_4 = (normP q).cloud ∧ (0:Int) ≤ r_0 ∧ r_0 ≤ (16:Int) ∧ isCF (normP p).vec (normP q).vec r_0 := h_5
 refine sq ?_
 refine sq ?_
 refine rg (A := (AV.b (decide (r_0 < (16:Int))) = AV.b (decide (r_0 < (16:Int))))) cx [(1, { tell := some (.b (decide (r_0 < (16:Int)))) })] [2, 3, 5, 16] [2, 3] (by kernel_rfl) ?_
 refine sn ?_
 refine st_dec (r_0 < (16:Int)) (by kernel_rfl) (by kernel_rfl) (fun h_13 => ?_) (fun h_13 => ?_)
 refine st_skip (by kernel_rfl) ?_
 refine sn (sq ?_)
 refine st_block 1 (by kernel_rfl) ?_
 refine sq ?_
 refine rg (A := True) cx [] [2, 3, 5, 6, 7] [2, 3] trivial ?_
 refine sn (sq ?_)
 refine sq ?_
 refine rg (A := _ ∧ (AV.b (decide (r_0 < (↑u_1.length:Int))) = AV.b (decide (r_0 < (↑u_1.length:Int))))) cx [(3, { tell := some (.i .i64 ((↑u_1.length:Int))) }), (4, { tell := some (.b (decide (r_0 < (↑u_1.length:Int)))) })] [2, 3, 5, 6, 7, 23] [2, 3] ⟨(told_len c3 u_1), (by kernel_rfl)⟩ ?_
 refine sn ?_
 refine st_dec (r_0 < (↑u_1.length:Int)) (by kernel_rfl) (by kernel_rfl) (fun h_14 => ?_) (fun h_14 => ?_)
 refine rg (A := ((0:Int) ≤ r_0) ∧ ((List.map c3 u_1)[r_0.toNat]? = some (c3 u_1[r_0.toNat]!)) ∧ ((c3 u_1[r_0.toNat]!).length = (1:Nat))) cx [(3, { row := (c3 u_1[r_0.toNat]!) })] [2, 3, 5, 6, 7] [2, 3] ⟨(by (with_reducible assumption)), (by (with_reducible refine get_map ?_; omega)), (by kernel_rfl)⟩ ?_
 refine sn (sq ?_)
 refine sq ?_
 refine rg (A := _ ∧ (AV.b (decide (r_0 < (↑v_3.length:Int))) = AV.b (decide (r_0 < (↑v_3.length:Int))))) cx [(3, { tell := some (.i .i64 ((↑v_3.length:Int))) }), (4, { tell := some (.b (decide (r_0 < (↑v_3.length:Int)))) })] [2, 3, 5, 6, 7, 33] [2, 3] ⟨(told_len c3 v_3), (by kernel_rfl)⟩ ?_
 refine sn ?_
 refine st_dec (r_0 < (↑v_3.length:Int)) (by kernel_rfl) (by kernel_rfl) (fun h_15 => ?_) (fun h_15 => ?_)
 refine rg (A := ((0:Int) ≤ r_0) ∧ ((List.map c3 v_3)[r_0.toNat]? = some (c3 v_3[r_0.toNat]!)) ∧ ((c3 v_3[r_0.toNat]!).length = (1:Nat))) cx [(3, { row := (c3 v_3[r_0.toNat]!) })] [2, 3, 5, 6, 7] [2, 3] ⟨(by (with_reducible assumption)), (by (with_reducible refine get_map ?_; omega)), (by kernel_rfl)⟩ ?_
 refine sn (sq ?_)
 refine rg (A := (AV.b (u_1[r_0.toNat]! != v_3[r_0.toNat]!) = AV.b (decide ¬u_1[r_0.toNat]! = v_3[r_0.toNat]!))) cx [(2, { tell := some (.b (decide ¬u_1[r_0.toNat]! = v_3[r_0.toNat]!)) })] [2, 3, 5, 6, 7, 41] [2, 3] (told_neq) ?_
 refine sn ?_
 refine st_dec (¬u_1[r_0.toNat]! = v_3[r_0.toNat]!) (by kernel_rfl) (by kernel_rfl) (fun h_16 => ?_) (fun h_16 => ?_)
 refine sq ?_
 refine rg (A := _) cx [(2, { val := some (.i .i64 (cmpI u_1[r_0.toNat]! v_3[r_0.toNat]!)) })] [4] [] (con196 (u_1[r_0.toNat]!) (v_3[r_0.toNat]!)) ?_
 refine sn ?_
 refine st_ret (by kernel_rfl) ?_
 refine q_blk_ret ?_
 refine q_seq_ret ?_
 refine q_seq_ret ?_
 refine q_blk_ret ?_
 refine q_seq_ret ?_
 refine q_ret (r := .i .i64 (cmpI u_1[r_0.toNat]! v_3[r_0.toNat]!)) (obl := []) (by kernel_rfl) trivial (AVle.eq (show AV.i .i64 (cmpI u_1[r_0.toNat]! v_3[r_0.toNat]!) = AV.i .i64 (cmpP p q) from ?g1)); rotate_left 1
 refine st_skip (by kernel_rfl) ?_
 refine q_blk_normal ?_
 refine sn ?_
 refine rg (A := (AV.i .i64 (IntKind.i64.wrap (r_0 + (1:Int))) = AV.i .i64 (r_0 + (1:Int)))) cx [(1, { tell := some (.i .i64 (r_0 + (1:Int))) })] [2, 3, 5] [2, 3] (told_i64 (by omega) (by omega)) ?_
 refine sn ?_
 refine loop_next ((r_0 + (1:Int), u_1, c_2, v_3, d_4)) (by kernel_rfl) (show ((16:Int) - (r_0 + (1:Int))).toNat < ((16:Int) - r_0).toNat from (by omega)) (show invRc (normP p) (normP q) (r_0 + (1:Int)) u_1 c_2 v_3 d_4 from ?g2); rotate_left 1
 refine st_skip (by kernel_rfl) ?_
 refine sn (sq ?_)
 refine rg (A := (AV.b (u_1[r_0.toNat]! != (0:Int)) = AV.b (decide ¬u_1[r_0.toNat]! = (0:Int)))) cx [(2, { tell := some (.b (decide ¬u_1[r_0.toNat]! = (0:Int))) })] [2, 3, 5, 6, 7, 41] [2, 3] (told_neq) ?_
 refine sn ?_
 refine st_dec (¬u_1[r_0.toNat]! = (0:Int)) (by kernel_rfl) (by kernel_rfl) (fun h_17 => ?_) (fun h_17 => ?_)
 refine sq ?_
 refine rg (A := _) cx [(2, { val := some (.i .i64 (cmpI u_1[r_0.toNat]! (0:Int))) })] [4] [] (con196 (u_1[r_0.toNat]!) ((0:Int))) ?_
 refine sn ?_
 refine st_ret (by kernel_rfl) ?_
 refine q_blk_ret ?_
 refine q_seq_ret ?_
 refine q_seq_ret ?_
 refine q_blk_ret ?_
 refine q_seq_ret ?_
 refine q_ret (r := .i .i64 (cmpI u_1[r_0.toNat]! (0:Int))) (obl := []) (by kernel_rfl) trivial (AVle.eq (show AV.i .i64 (cmpI u_1[r_0.toNat]! (0:Int)) = AV.i .i64 (cmpP p q) from ?g3)); rotate_left 1
 refine st_skip (by kernel_rfl) ?_
 refine q_blk_normal ?_
 refine sn ?_
 refine rg (A := (AV.i .i64 (IntKind.i64.wrap (r_0 + (1:Int))) = AV.i .i64 (r_0 + (1:Int)))) cx [(1, { tell := some (.i .i64 (r_0 + (1:Int))) })] [2, 3, 5] [2, 3] (told_i64 (by omega) (by omega)) ?_
 refine sn ?_
 refine loop_next ((r_0 + (1:Int), u_1, c_2, v_3, d_4)) (by kernel_rfl) (show ((16:Int) - (r_0 + (1:Int))).toNat < ((16:Int) - r_0).toNat from (by omega)) (show invRc (normP p) (normP q) (r_0 + (1:Int)) u_1 c_2 v_3 d_4 from ?g4); rotate_left 1
 refine st_skip (by kernel_rfl) ?_
 refine sn (sq ?_)
 refine sq ?_
 refine rg (A := _ ∧ (AV.b (decide (r_0 < (↑v_3.length:Int))) = AV.b (decide (r_0 < (↑v_3.length:Int))))) cx [(3, { tell := some (.i .i64 ((↑v_3.length:Int))) }), (4, { tell := some (.b (decide (r_0 < (↑v_3.length:Int)))) })] [2, 3, 5, 6, 7, 33] [2, 3] ⟨(told_len c3 v_3), (by kernel_rfl)⟩ ?_
 refine sn ?_
 refine st_dec (r_0 < (↑v_3.length:Int)) (by kernel_rfl) (by kernel_rfl) (fun h_18 => ?_) (fun h_18 => ?_)
 refine rg (A := ((0:Int) ≤ r_0) ∧ ((List.map c3 v_3)[r_0.toNat]? = some (c3 v_3[r_0.toNat]!)) ∧ ((c3 v_3[r_0.toNat]!).length = (1:Nat))) cx [(3, { row := (c3 v_3[r_0.toNat]!) })] [2, 3, 5, 6, 7] [2, 3] ⟨(by (with_reducible assumption)), (by (with_reducible refine get_map ?_; omega)), (by kernel_rfl)⟩ ?_
 refine sn (sq ?_)
 refine rg (A := (AV.b ((0:Int) != v_3[r_0.toNat]!) = AV.b (decide ¬(0:Int) = v_3[r_0.toNat]!))) cx [(2, { tell := some (.b (decide ¬(0:Int) = v_3[r_0.toNat]!)) })] [2, 3, 5, 6, 7, 41] [2, 3] (told_neq) ?_
 refine sn ?_
 refine st_dec (¬(0:Int) = v_3[r_0.toNat]!) (by kernel_rfl) (by kernel_rfl) (fun h_19 => ?_) (fun h_19 => ?_)
 refine sq ?_
 refine rg (A := _) cx [(2, { val := some (.i .i64 (cmpI (0:Int) v_3[r_0.toNat]!)) })] [4] [] (con196 ((0:Int)) (v_3[r_0.toNat]!)) ?_
 refine sn ?_
 refine st_ret (by kernel_rfl) ?_
 refine q_blk_ret ?_
 refine q_seq_ret ?_
 refine q_seq_ret ?_
 refine q_blk_ret ?_
 refine q_seq_ret ?_
 refine q_ret (r := .i .i64 (cmpI (0:Int) v_3[r_0.toNat]!)) (obl := []) (by kernel_rfl) trivial (AVle.eq (show AV.i .i64 (cmpI (0:Int) v_3[r_0.toNat]!) = AV.i .i64 (cmpP p q) from ?g5)); rotate_left 1
 refine st_skip (by kernel_rfl) ?_
 refine q_blk_normal ?_
 refine sn ?_
 refine rg (A := (AV.i .i64 (IntKind.i64.wrap (r_0 + (1:Int))) = AV.i .i64 (r_0 + (1:Int)))) cx [(1, { tell := some (.i .i64 (r_0 + (1:Int))) })] [2, 3, 5] [2, 3] (told_i64 (by omega) (by omega)) ?_
 refine sn ?_
 refine loop_next ((r_0 + (1:Int), u_1, c_2, v_3, d_4)) (by kernel_rfl) (show ((16:Int) - (r_0 + (1:Int))).toNat < ((16:Int) - r_0).toNat from (by omega)) (show invRc (normP p) (normP q) (r_0 + (1:Int)) u_1 c_2 v_3 d_4 from ?g6); rotate_left 1
 refine st_skip (by kernel_rfl) ?_
 refine sn (sq ?_)
 refine rg (A := True) cx [] [2, 3, 5, 6, 7, 41] [2, 3] trivial ?_
 refine sn ?_
 refine st_false (by kernel_rfl) (by kernel_rfl) ?_
 refine st_skip (by kernel_rfl) ?_
 refine q_blk_normal ?_
 refine sn ?_
 refine rg (A := (AV.i .i64 (IntKind.i64.wrap (r_0 + (1:Int))) = AV.i .i64 (r_0 + (1:Int)))) cx [(1, { tell := some (.i .i64 (r_0 + (1:Int))) })] [2, 3, 5] [2, 3] (told_i64 (by omega) (by omega)) ?_
 refine sn ?_
 refine loop_next ((r_0 + (1:Int), u_1, c_2, v_3, d_4)) (by kernel_rfl) (show ((16:Int) - (r_0 + (1:Int))).toNat < ((16:Int) - r_0).toNat from (by omega)) (show invRc (normP p) (normP q) (r_0 + (1:Int)) u_1 c_2 v_3 d_4 from ?g7); rotate_left 1
 refine st_exit 0 (by kernel_rfl) ?_
 refine q_seq_exit ?_
 refine q_seq_exit ?_
 refine q_blk_hit ?_
 refine sn (sq ?_)
 refine sq ?_
 refine rg (A := True) cx [] [2, 3, 8] [2, 3] trivial ?_
 refine sn ?_
 refine st_block 2 (by kernel_rfl) ?_
 refine st_loop (X := Int × List Int × List Span × List Int × List Span) (fun x => ⟨[(2, .ptr (2) (0) (0) (0)), (3, .ptr (3) (0) (0) (0)), (8, .i .i64 (x.fst))], [(2, ⟨0, 26, .var [.sl (List.map c3 x.snd.fst), .sl (List.map c104 x.snd.snd.fst)]⟩), (3, ⟨0, 26, .var [.sl (List.map c3 x.snd.snd.snd.fst), .sl (List.map c104 x.snd.snd.snd.snd)]⟩)]⟩) (fun x ↦ decRd2 (normP p) x.fst x.snd.fst x.snd.snd.fst x.snd.snd.snd.fst x.snd.snd.snd.snd) (fun x ↦ invRd (normP p) (normP q) x.fst x.snd.fst x.snd.snd.fst x.snd.snd.snd.fst x.snd.snd.snd.snd) [2, 3, 8] [2, 3] (((0:Int), u_1, c_2, v_3, d_4)) (by kernel_rfl) (by kernel_rfl) (show invRd (normP p) (normP q) (0:Int) u_1 c_2 v_3 d_4 from ?g8) ?_; rotate_left 1
 rintro ⟨i_20, u_21, c_22, v_23, d_24⟩ h_25
 obtain ⟨h_26, h_27, h_28, h_29, h_30, h_31⟩ : c_22 = (normP p).cloud ∧ d_24 = (normP q).cloud ∧ (0:Int) ≤ i_20 ∧ i_20 ≤ (↑(normP p).cloud.length:Int) ∧ i_20 ≤ (↑(normP q).cloud.length:Int) ∧ cmpC (normP p).cloud (normP q).cloud = cmpC (List.drop i_20.toNat (normP p).cloud) (List.drop i_20.toNat (normP q).cloud) := h_25
 refine sq ?_
 refine sq ?_
 refine st_join (σ' := ⟨[(2, .ptr (2) (0) (0) (0)), (3, .ptr (3) (0) (0) (0)), (8, .i .i64 (i_20)), (56, .b (decide (i_20 < (↑c_22.length:Int) ∧ i_20 < (↑d_24.length:Int))))], [(2, ⟨0, 26, .var [.sl (List.map c3 u_21), .sl (List.map c104 c_22)]⟩), (3, ⟨0, 26, .var [.sl (List.map c3 v_23), .sl (List.map c104 d_24)]⟩)]⟩) ?_ ?_
 refine st_split (i_20 < (↑c_22.length:Int)) (fun h_33 => ?_) (fun h_33 => ?_)
 refine rg (A := _ ∧ _ ∧ _ ∧ (AV.b (decide (i_20 < (↑d_24.length:Int))) = AV.b (decide (i_20 < (↑d_24.length:Int)))) ∧ (AV.b (decide (i_20 < (↑d_24.length:Int))) = AV.b (decide (i_20 < (↑c_22.length:Int) ∧ i_20 < (↑d_24.length:Int))))) cx [(3, { tell := some (.i .i64 ((↑c_22.length:Int))) }), (4, { tell := some (.b (true)) }), (9, { tell := some (.i .i64 ((↑d_24.length:Int))) }), (10, { tell := some (.b (decide (i_20 < (↑d_24.length:Int)))) }), (11, { tell := some (.b (decide (i_20 < (↑c_22.length:Int) ∧ i_20 < (↑d_24.length:Int)))) })] [2, 3, 8, 56] [2, 3] ⟨(told_len c104 c_22), (told_true h_33), (told_len c104 d_24), (by kernel_rfl), (by simp only [eq_true h_33, told_simp1, told_simp2, and_true, true_and, and_false, false_and, or_true, true_or, or_false, false_or, not_true_eq_false, not_false_eq_true, decide_true, decide_false, Bool.decide_eq_true])⟩ ?_
 exact ⟨rfl, by kernel_rfl⟩
 refine rg (A := _ ∧ _ ∧ (AV.b false = AV.b (decide (i_20 < (↑c_22.length:Int) ∧ i_20 < (↑d_24.length:Int))))) cx [(3, { tell := some (.i .i64 ((↑c_22.length:Int))) }), (4, { tell := some (.b (false)) }), (11, { tell := some (.b (decide (i_20 < (↑c_22.length:Int) ∧ i_20 < (↑d_24.length:Int)))) })] [2, 3, 8, 56] [2, 3] ⟨(told_len c104 c_22), (told_false h_33), (by simp only [eq_false h_33, told_simp1, told_simp2, and_true, true_and, and_false, false_and, or_true, true_or, or_false, false_or, not_true_eq_false, not_false_eq_true, decide_true, decide_false, Bool.decide_eq_true])⟩ ?_
 exact ⟨rfl, by kernel_rfl⟩
 refine sn ?_
 refine st_dec (i_20 < (↑c_22.length:Int) ∧ i_20 < (↑d_24.length:Int)) (by kernel_rfl) (by kernel_rfl) (fun h_34 => ?_) (fun h_34 => ?_)
 refine st_skip (by kernel_rfl) ?_
 refine sn (sq ?_)
 refine st_block 3 (by kernel_rfl) ?_
 refine sq ?_
 refine ra (A := ((0:Int) ≤ i_20) ∧ ((List.map c104 c_22)[i_20.toNat]? = some (c104 c_22[i_20.toNat]!)) ∧ ((c104 c_22[i_20.toNat]!).length = (3:Nat)) ∧ ((3:Nat) ≤ [AV.i .i64 c_22[i_20.toNat]!.rep, AV.i .i64 c_22[i_20.toNat]!.lo, AV.i .i64 c_22[i_20.toNat]!.hi].length) ∧ ((0:Int) ≤ i_20) ∧ ((List.map c104 d_24)[i_20.toNat]? = some (c104 d_24[i_20.toNat]!)) ∧ ((c104 d_24[i_20.toNat]!).length = (3:Nat)) ∧ ((3:Nat) ≤ [AV.i .i64 d_24[i_20.toNat]!.rep, AV.i .i64 d_24[i_20.toNat]!.lo, AV.i .i64 d_24[i_20.toNat]!.hi].length)) cx [(3, { row := (c104 c_22[i_20.toNat]!) }), (8, { row := (c104 d_24[i_20.toNat]!) })] [2, 3, 8, 9, 10] [2, 3, 9, 10] ⟨(by (with_reducible assumption)), (by (with_reducible refine get_map ?_; omega)), (by kernel_rfl), (by (simp only [List.length_append, List.length_cons, List.length_nil]; omega)), (by (with_reducible assumption)), (by (with_reducible refine get_map ?_; omega)), (by kernel_rfl), (by (simp only [List.length_append, List.length_cons, List.length_nil]; omega))⟩ ?_
 refine sn (sq ?_)
 refine sq ?_
 refine rg (A := (AV.b (c_22[i_20.toNat]!.rep != d_24[i_20.toNat]!.rep) = AV.b (decide ¬c_22[i_20.toNat]!.rep = d_24[i_20.toNat]!.rep))) cx [(4, { tell := some (.b (decide ¬c_22[i_20.toNat]!.rep = d_24[i_20.toNat]!.rep)) })] [2, 3, 8, 9, 10, 73] [2, 3, 9, 10] (told_neq) ?_
 refine sn ?_
 refine st_dec (¬c_22[i_20.toNat]!.rep = d_24[i_20.toNat]!.rep) (by kernel_rfl) (by kernel_rfl) (fun h_35 => ?_) (fun h_35 => ?_)
 refine sq ?_
 refine rg (A := _) cx [(4, { val := some (.i .i64 (cmpI c_22[i_20.toNat]!.rep d_24[i_20.toNat]!.rep)) })] [4] [] (con196 (c_22[i_20.toNat]!.rep) (d_24[i_20.toNat]!.rep)) ?_
 refine sn ?_
 refine st_ret (by kernel_rfl) ?_
 refine q_seq_ret ?_
 refine q_blk_ret ?_
 refine q_seq_ret ?_
 refine q_seq_ret ?_
 refine q_blk_ret ?_
 refine q_seq_ret ?_
 refine q_ret (r := .i .i64 (cmpI c_22[i_20.toNat]!.rep d_24[i_20.toNat]!.rep)) (obl := []) (by kernel_rfl) trivial (AVle.eq (show AV.i .i64 (cmpI c_22[i_20.toNat]!.rep d_24[i_20.toNat]!.rep) = AV.i .i64 (cmpP p q) from ?g9)); rotate_left 1
 refine st_skip (by kernel_rfl) ?_
 refine sn (sq ?_)
 refine sq ?_
 refine rg (A := (AV.b (c_22[i_20.toNat]!.lo != d_24[i_20.toNat]!.lo) = AV.b (decide ¬c_22[i_20.toNat]!.lo = d_24[i_20.toNat]!.lo))) cx [(4, { tell := some (.b (decide ¬c_22[i_20.toNat]!.lo = d_24[i_20.toNat]!.lo)) })] [2, 3, 8, 9, 10, 83] [2, 3, 9, 10] (told_neq) ?_
 refine sn ?_
 refine st_dec (¬c_22[i_20.toNat]!.lo = d_24[i_20.toNat]!.lo) (by kernel_rfl) (by kernel_rfl) (fun h_36 => ?_) (fun h_36 => ?_)
 refine sq ?_
 refine rg (A := _) cx [(4, { val := some (.i .i64 (cmpI c_22[i_20.toNat]!.lo d_24[i_20.toNat]!.lo)) })] [4] [] (con196 (c_22[i_20.toNat]!.lo) (d_24[i_20.toNat]!.lo)) ?_
 refine sn ?_
 refine st_ret (by kernel_rfl) ?_
 refine q_seq_ret ?_
 refine q_blk_ret ?_
 refine q_seq_ret ?_
 refine q_seq_ret ?_
 refine q_blk_ret ?_
 refine q_seq_ret ?_
 refine q_ret (r := .i .i64 (cmpI c_22[i_20.toNat]!.lo d_24[i_20.toNat]!.lo)) (obl := []) (by kernel_rfl) trivial (AVle.eq (show AV.i .i64 (cmpI c_22[i_20.toNat]!.lo d_24[i_20.toNat]!.lo) = AV.i .i64 (cmpP p q) from ?g10)); rotate_left 1
 refine st_skip (by kernel_rfl) ?_
 refine sn (sq ?_)
 refine rg (A := (AV.b (c_22[i_20.toNat]!.hi != d_24[i_20.toNat]!.hi) = AV.b (decide ¬c_22[i_20.toNat]!.hi = d_24[i_20.toNat]!.hi))) cx [(4, { tell := some (.b (decide ¬c_22[i_20.toNat]!.hi = d_24[i_20.toNat]!.hi)) })] [2, 3, 8, 9, 10, 93] [2, 3, 9, 10] (told_neq) ?_
 refine sn ?_
 refine st_dec (¬c_22[i_20.toNat]!.hi = d_24[i_20.toNat]!.hi) (by kernel_rfl) (by kernel_rfl) (fun h_37 => ?_) (fun h_37 => ?_)
 refine sq ?_
 refine rg (A := _) cx [(4, { val := some (.i .i64 (cmpI c_22[i_20.toNat]!.hi d_24[i_20.toNat]!.hi)) })] [4] [] (con196 (c_22[i_20.toNat]!.hi) (d_24[i_20.toNat]!.hi)) ?_
 refine sn ?_
 refine st_ret (by kernel_rfl) ?_
 refine q_blk_ret ?_
 refine q_seq_ret ?_
 refine q_seq_ret ?_
 refine q_blk_ret ?_
 refine q_seq_ret ?_
 refine q_ret (r := .i .i64 (cmpI c_22[i_20.toNat]!.hi d_24[i_20.toNat]!.hi)) (obl := []) (by kernel_rfl) trivial (AVle.eq (show AV.i .i64 (cmpI c_22[i_20.toNat]!.hi d_24[i_20.toNat]!.hi) = AV.i .i64 (cmpP p q) from ?g11)); rotate_left 1
 refine st_skip (by kernel_rfl) ?_
 refine q_blk_normal ?_
 refine sn ?_
 refine rg (A := (AV.i .i64 (IntKind.i64.wrap (i_20 + (1:Int))) = AV.i .i64 (i_20 + (1:Int)))) cx [(1, { tell := some (.i .i64 (i_20 + (1:Int))) })] [2, 3, 8] [2, 3] (told_i64 (by omega) ?g12) ?_; rotate_left 1
 refine sn ?_
 refine loop_next ((i_20 + (1:Int), u_21, c_22, v_23, d_24)) (by kernel_rfl) (show ((↑(normP p).cloud.length:Int) - (i_20 + (1:Int))).toNat < ((↑(normP p).cloud.length:Int) - i_20).toNat from ?g13) (show invRd (normP p) (normP q) (i_20 + (1:Int)) u_21 c_22 v_23 d_24 from ?g14); rotate_left 2
 refine st_exit 2 (by kernel_rfl) ?_
 refine q_seq_exit ?_
 refine q_seq_exit ?_
 refine q_blk_hit ?_
 refine sn (sq ?_)
 refine rg (A := _ ∧ _ ∧ _) cx [(2, { tell := some (.i .i64 ((↑c_22.length:Int))) }), (5, { tell := some (.i .i64 ((↑d_24.length:Int))) }), (6, { val := some (.i .i64 (cmpI (↑c_22.length:Int) (↑d_24.length:Int))) })] [4] [] ⟨(told_len c104 c_22), (told_len c104 d_24), (con196 ((↑c_22.length:Int)) ((↑d_24.length:Int)))⟩ ?_
 refine sn ?_
 refine st_ret (by kernel_rfl) ?_
 refine q_ret (r := .i .i64 (cmpI (↑c_22.length:Int) (↑d_24.length:Int))) (obl := []) (by kernel_rfl) trivial (AVle.eq (show AV.i .i64 (cmpI (↑c_22.length:Int) (↑d_24.length:Int)) = AV.i .i64 (cmpP p q) from ?g15)); rotate_left 1
 rotate_left
 revert r_0 u_1 c_2 v_3 d_4 h_6 h_7 h_8 h_9 h_10 h_11 h_12 h_13 h_14 h_15 h_16; rotate_left
 revert r_0 u_1 c_2 v_3 d_4 h_6 h_7 h_8 h_9 h_10 h_11 h_12 h_13 h_14 h_15 h_16; rotate_left
 revert r_0 u_1 c_2 v_3 d_4 h_6 h_7 h_8 h_9 h_10 h_11 h_12 h_13 h_14 h_15 h_17; rotate_left
 revert r_0 u_1 c_2 v_3 d_4 h_6 h_7 h_8 h_9 h_10 h_11 h_12 h_13 h_14 h_15 h_17; rotate_left
 revert r_0 u_1 c_2 v_3 d_4 h_6 h_7 h_8 h_9 h_10 h_11 h_12 h_13 h_14 h_18 h_19; rotate_left
 revert r_0 u_1 c_2 v_3 d_4 h_6 h_7 h_8 h_9 h_10 h_11 h_12 h_13 h_14 h_18 h_19; rotate_left
 revert r_0 u_1 c_2 v_3 d_4 h_6 h_7 h_8 h_9 h_10 h_11 h_12 h_13 h_14 h_18; rotate_left
 revert r_0 u_1 c_2 v_3 d_4 h_6 h_7 h_8 h_9 h_10 h_11 h_12 h_13; rotate_left
 revert r_0 u_1 c_2 v_3 d_4 h_6 h_7 h_8 h_9 h_10 h_11 h_12 h_13 i_20 u_21 c_22 v_23 d_24 h_26 h_27 h_28 h_29 h_30 h_31 h_34 h_35; rotate_left
 revert r_0 u_1 c_2 v_3 d_4 h_6 h_7 h_8 h_9 h_10 h_11 h_12 h_13 i_20 u_21 c_22 v_23 d_24 h_26 h_27 h_28 h_29 h_30 h_31 h_34 h_35 h_36; rotate_left
 revert r_0 u_1 c_2 v_3 d_4 h_6 h_7 h_8 h_9 h_10 h_11 h_12 h_13 i_20 u_21 c_22 v_23 d_24 h_26 h_27 h_28 h_29 h_30 h_31 h_34 h_35 h_36 h_37; rotate_left
 revert r_0 u_1 c_2 v_3 d_4 h_6 h_7 h_8 h_9 h_10 h_11 h_12 h_13 i_20 u_21 c_22 v_23 d_24 h_26 h_27 h_28 h_29 h_30 h_31 h_34 h_35 h_36 h_37; rotate_left
 revert r_0 u_1 c_2 v_3 d_4 h_6 h_7 h_8 h_9 h_10 h_11 h_12 h_13 i_20 u_21 c_22 v_23 d_24 h_26 h_27 h_28 h_29 h_30 h_31 h_34 h_35 h_36 h_37; rotate_left
 revert r_0 u_1 c_2 v_3 d_4 h_6 h_7 h_8 h_9 h_10 h_11 h_12 h_13 i_20 u_21 c_22 v_23 d_24 h_26 h_27 h_28 h_29 h_30 h_31 h_34 h_35 h_36 h_37; rotate_left
 revert r_0 u_1 c_2 v_3 d_4 h_6 h_7 h_8 h_9 h_10 h_11 h_12 h_13 i_20 u_21 c_22 v_23 d_24 h_26 h_27 h_28 h_29 h_30 h_31 h_34; rotate_left
 case g0 => exact ⟨Eq.refl _, Eq.refl _, Eq.refl _, Eq.refl _, by omega, by omega, Eq.refl _⟩
 case g1 => intro r u c v d e1 e2 e3 e4 h0 h1 h h2 h3 h4 h5; exact congrArg (AV.i .i64) (D e1 e3 h0 h2 (Eq.refl _) (Eq.refl _) h5 h)
 case g2 => intro r u c v d e1 e2 e3 e4 h0 h1 h h2 h3 h4 h5; exact N e1 e2 e3 e4 h0 h2 (Eq.refl _) (Eq.refl _) h5 h
 case g3 => intro r u c v d e1 e2 e3 e4 h0 h1 h h2 h3 h4 h5; exact congrArg (AV.i .i64) (D e1 e3 h0 h2 (Eq.refl _) (bang_no h0 h4) h5 h)
 case g4 => intro r u c v d e1 e2 e3 e4 h0 h1 h h2 h3 h4 h5; exact N e1 e2 e3 e4 h0 h2 (Eq.refl _) (bang_no h0 h4) h5 h
 case g5 => intro r u c v d e1 e2 e3 e4 h0 h1 h h2 h3 h4 h5; exact congrArg (AV.i .i64) (D e1 e3 h0 h2 (bang_no h0 h3) (Eq.refl _) h5 h)
 case g6 => intro r u c v d e1 e2 e3 e4 h0 h1 h h2 h3 h4 h5; exact N e1 e2 e3 e4 h0 h2 (bang_no h0 h3) (Eq.refl _) h5 h
 case g7 => intro r u c v d e1 e2 e3 e4 h0 h1 h h2 h3 h4; exact N e1 e2 e3 e4 h0 h2 (bang_no h0 h3) (bang_no h0 h4) (fun k => k (Eq.refl _)) h
 case g8 => intro r u c v d e1 e2 e3 e4 h0 h1 h h2; exact ⟨e2, e4, by omega, by omega, by omega, Eq.refl _⟩
 case g9 =>
  intro r u c v d e1 e2 e3 e4 h0 h1 h h2 i u' c' v' d' k0 k1 k2 k3 k4 k5 k6 k7
  exact congrArg (AV.i .i64) (E k0 k1 k2 k6 k5 (cf_end h1 h2 h) (cmpI_ne k7) (S1 k7))
 case g10 =>
  intro r u c v d e1 e2 e3 e4 h0 h1 h h2 i u' c' v' d' k0 k1 k2 k3 k4 k5 k6 k7 k8
  exact congrArg (AV.i .i64) (E k0 k1 k2 k6 k5 (cf_end h1 h2 h) (cmpI_ne k8) (S2 (Classical.not_not.1 k7) k8))
 case g11 =>
  intro r u c v d e1 e2 e3 e4 h0 h1 h h2 i u' c' v' d' k0 k1 k2 k3 k4 k5 k6 k7 k8 k9
  exact congrArg (AV.i .i64) (E k0 k1 k2 k6 k5 (cf_end h1 h2 h) (cmpI_ne k9) (S3 (Classical.not_not.1 k7) (Classical.not_not.1 k8)))
 case g12 => intro r u c v d e1 e2 e3 e4 h0 h1 h h2 i u' c' v' d' k0 k1 k2 k3 k4 k5 k6 k7 k8 k9; have := (tabP_len (openT [p])).1; have k3 : i ≤ ((tabP (openT [p])).cloud.length:Int) := k3; omega
 case g13 =>
  intro r u c v d e1 e2 e3 e4 h0 h1 h h2 i u' c' v' d' k0 k1 k2 k3 k4 k5 k6 k7 k8 k9
  rw [k0] at k6
  generalize (normP p).cloud.length = L at *
  omega
 case g14 =>
  intro r u c v d e1 e2 e3 e4 h0 h1 h h2 i u' c' v' d' k0 k1 k2 k3 k4 k5 k6 k7 k8 k9
  have k6' := k6
  rw [k0, k1] at k6'
  have e : cmpS c'[i.toNat]! d'[i.toNat]! = 0 := by rw [← S3 (Classical.not_not.1 k7) (Classical.not_not.1 k8)]; exact cmpI_zero.2 (Classical.not_not.1 k9)
  rw [k0, k1] at e
  have := cc_next k2 k6'.1 k6'.2 e k5
  exact ⟨k0, k1, this.1, this.2.1, this.2.2.1, this.2.2.2⟩
 case g15 =>
  intro r u c v d e1 e2 e3 e4 h0 h1 h h2 i u' c' v' d' k0 k1 k2 k3 k4 k5 k6
  rw [k0, k1] at k6 ⊢
  refine congrArg (AV.i .i64) ?_
  rw [cp_cloud (cf_end h1 h2 h)]
  by_cases a : i < ((normP p).cloud.length:Int)
  ·have b : ¬ i < ((normP q).cloud.length:Int) := fun b => k6 ⟨a, b⟩
   rw [cc_more k2 a b k5]
   unfold cmpI
   rw [if_neg (by omega), if_pos (by omega)]
  ·by_cases b : i < ((normP q).cloud.length:Int)
   ·rw [cc_less k2 a b k5]
    unfold cmpI
    rw [if_pos (by omega)]
   ·rw [cc_same a b k5]
    unfold cmpI
    rw [if_neg (by omega), if_neg (by omega)]
end Go.Proofs.YtaiepnaokhpmcaaGreat
namespace Go.Proofs.YtaiepnaokhpmcaaGreat
open Go.E
set_option maxRecDepth 100000
set_option maxHeartbeats 4000000
def dLt (a b : Dot) : Bool := decide (a.rep < b.rep ∨ a.rep = b.rep ∧ a.num < b.num)
def entE (e : Entry) : Int := if e.dot.rep < 0 ∨ 16 ≤ e.dot.rep then 3 else if e.dot.num < 1 ∨ 1000000000 < e.dot.num then 2 else if good e.sku = false then 5 else if e.qty < 1 ∨ 1000000 < e.qty then 6 else 0
def okAt (es : List Entry) (i:Nat) : Bool := decide (entE es[i]! = 0) && (decide (i = 0) || dLt es[i - 1]!.dot es[i]!.dot)
def okL (es : List Entry) : Bool := allUp (okAt es) es.length
def lstE (es : List Entry) : Int := if okL es = true then 0 else 1
def invL (es : List Entry) (i:Int) : Prop := 0 ≤ i ∧ i ≤ es.length ∧ ∀ j : Nat, (j:Int) < i → okAt es j = true
def decL (es : List Entry) (i:Int) : Nat := (es.length - i).toNat
theorem lstE_bad {es : List Entry} {i : Nat} (hi : i < es.length) (h : okAt es i = false) : lstE es = 1 := by
 unfold lstE okL
 rw [if_neg]
 intro k
 have := (allUp_iff _ _).1 k i hi
 rw [h] at this; cases this
theorem lstE_ok {es : List Entry} (h : ∀ j : Nat, j < es.length → okAt es j = true) : lstE es = 0 := by
 unfold lstE okL
 rw [if_pos ((allUp_iff _ _).2 h)]
theorem okAt_iff (es : List Entry) (i:Nat) : okAt es i = true ↔ entE es[i]! = 0 ∧ (i = 0 ∨ dLt es[i - 1]!.dot es[i]!.dot = true) := by
 unfold okAt
 rw [Bool.and_eq_true, Bool.or_eq_true, decide_eq_true_iff, decide_eq_true_iff]
theorem invL_step {es : List Entry} {i : Int} (h0 : 0 ≤ i) (h1 : i < es.length) (h2 : ∀ j : Nat, (j:Int) < i → okAt es j = true) (h : okAt es i.toNat = true) : invL es (i + 1) :=
 ⟨by omega, by omega, fun j hj => by
  by_cases e : j = i.toNat
  ·rw [e]; exact h
  ·exact h2 j (by omega)⟩
theorem not_okAt {es : List Entry} {i : Nat} (h : ¬ okAt es i = true) : okAt es i = false := by simpa using h
theorem con111 (e : Entry) : Con Tryz.prog 111 [.agg (c45 e)] (.i .i64 (entE e)) :=
 by
 refine st_con tab_ok (by kernel_rfl) [.tmp 2] 39 Go.Proofs.Tryz.func111 (by kernel_rfl) (by kernel_rfl) ?_
 intro e0 cx
 refine sq ?_
 refine rg (A := True) cx [] [1] [1] trivial ?_
 refine sn (sq ?_)
 refine st_block 0 (by kernel_rfl) ?_
 refine sq ?_
 refine st_join (σ' := ⟨[(1, .ptr (1) (0) (0) (0)), (3, .b (decide (e.dot.rep < (0:Int) ∨ (16:Int) ≤ e.dot.rep)))], [(1, ⟨0, 45, .var [.i .i64 (e.dot.rep), .i .i64 (e.dot.num), .s (e.sku), .i .i64 (e.qty)]⟩)]⟩) ?_ ?_
 refine st_split (e.dot.rep < (0:Int)) (fun h_1 => ?_) (fun h_1 => ?_)
 refine rg (A := _ ∧ (AV.b true = AV.b (decide (e.dot.rep < (0:Int) ∨ (16:Int) ≤ e.dot.rep)))) cx [(3, { tell := some (.b (true)) }), (10, { tell := some (.b (decide (e.dot.rep < (0:Int) ∨ (16:Int) ≤ e.dot.rep))) })] [1, 3] [1] ⟨(told_true h_1), (by simp only [eq_true h_1, told_simp1, told_simp2, and_true, true_and, and_false, false_and, or_true, true_or, or_false, false_or, not_true_eq_false, not_false_eq_true, decide_true, decide_false, Bool.decide_eq_true])⟩ ?_
 exact ⟨rfl, by kernel_rfl⟩
 refine rg (A := _ ∧ (AV.b (decide (e.dot.rep ≥ (16:Int))) = AV.b (decide ((16:Int) ≤ e.dot.rep))) ∧ (AV.b (decide ((16:Int) ≤ e.dot.rep)) = AV.b (decide (e.dot.rep < (0:Int) ∨ (16:Int) ≤ e.dot.rep)))) cx [(3, { tell := some (.b (false)) }), (8, { tell := some (.b (decide ((16:Int) ≤ e.dot.rep))) }), (10, { tell := some (.b (decide (e.dot.rep < (0:Int) ∨ (16:Int) ≤ e.dot.rep))) })] [1, 3] [1] ⟨(told_false h_1), (by kernel_rfl), (by simp only [eq_false h_1, told_simp1, told_simp2, and_true, true_and, and_false, false_and, or_true, true_or, or_false, false_or, not_true_eq_false, not_false_eq_true, decide_true, decide_false, Bool.decide_eq_true])⟩ ?_
 exact ⟨rfl, by kernel_rfl⟩
 refine sn ?_
 refine st_dec (e.dot.rep < (0:Int) ∨ (16:Int) ≤ e.dot.rep) (by kernel_rfl) (by kernel_rfl) (fun h_2 => ?_) (fun h_2 => ?_)
 refine sq ?_
 refine rg (A := True) cx [] [2] [] trivial ?_
 refine sn ?_
 refine st_ret (by kernel_rfl) ?_
 refine q_blk_ret ?_
 refine q_seq_ret ?_
 refine q_ret (r := .i .i64 ((3:Int))) (obl := []) (by kernel_rfl) trivial (AVle.eq (show AV.i .i64 (3:Int) = AV.i .i64 (entE e) from ?g0)); rotate_left 1
 refine sq ?_
 refine st_join (σ' := ⟨[(1, .ptr (1) (0) (0) (0)), (14, .b (decide (e.dot.num < (1:Int) ∨ (1000000000:Int) < e.dot.num)))], [(1, ⟨0, 45, .var [.i .i64 (e.dot.rep), .i .i64 (e.dot.num), .s (e.sku), .i .i64 (e.qty)]⟩)]⟩) ?_ ?_
 refine st_split (e.dot.num < (1:Int)) (fun h_4 => ?_) (fun h_4 => ?_)
 refine rg (A := _ ∧ (AV.b true = AV.b (decide (e.dot.num < (1:Int) ∨ (1000000000:Int) < e.dot.num)))) cx [(3, { tell := some (.b (true)) }), (10, { tell := some (.b (decide (e.dot.num < (1:Int) ∨ (1000000000:Int) < e.dot.num))) })] [1, 14] [1] ⟨(told_true h_4), (by simp only [eq_true h_4, told_simp1, told_simp2, and_true, true_and, and_false, false_and, or_true, true_or, or_false, false_or, not_true_eq_false, not_false_eq_true, decide_true, decide_false, Bool.decide_eq_true])⟩ ?_
 exact ⟨rfl, by kernel_rfl⟩
 refine rg (A := _ ∧ (AV.b (decide (e.dot.num > (1000000000:Int))) = AV.b (decide ((1000000000:Int) < e.dot.num))) ∧ (AV.b (decide ((1000000000:Int) < e.dot.num)) = AV.b (decide (e.dot.num < (1:Int) ∨ (1000000000:Int) < e.dot.num)))) cx [(3, { tell := some (.b (false)) }), (8, { tell := some (.b (decide ((1000000000:Int) < e.dot.num))) }), (10, { tell := some (.b (decide (e.dot.num < (1:Int) ∨ (1000000000:Int) < e.dot.num))) })] [1, 14] [1] ⟨(told_false h_4), (by kernel_rfl), (by simp only [eq_false h_4, told_simp1, told_simp2, and_true, true_and, and_false, false_and, or_true, true_or, or_false, false_or, not_true_eq_false, not_false_eq_true, decide_true, decide_false, Bool.decide_eq_true])⟩ ?_
 exact ⟨rfl, by kernel_rfl⟩
 refine sn ?_
 refine st_dec (e.dot.num < (1:Int) ∨ (1000000000:Int) < e.dot.num) (by kernel_rfl) (by kernel_rfl) (fun h_5 => ?_) (fun h_5 => ?_)
 refine sq ?_
 refine rg (A := True) cx [] [2] [] trivial ?_
 refine sn ?_
 refine st_ret (by kernel_rfl) ?_
 refine q_blk_ret ?_
 refine q_seq_ret ?_
 refine q_ret (r := .i .i64 ((2:Int))) (obl := []) (by kernel_rfl) trivial (AVle.eq (show AV.i .i64 (2:Int) = AV.i .i64 (entE e) from ?g1)); rotate_left 1
 refine sq ?_
 refine rg (A := _ ∧ ((AV.b !good e.sku) = AV.b (decide ¬good e.sku = true))) cx [(2, { val := some (.b (good e.sku)) }), (3, { tell := some (.b (decide ¬good e.sku = true)) })] [1, 25] [1] ⟨(con138 (e.sku)), (told_not)⟩ ?_
 refine sn ?_
 refine st_dec (¬good e.sku = true) (by kernel_rfl) (by kernel_rfl) (fun h_6 => ?_) (fun h_6 => ?_)
 refine sq ?_
 refine rg (A := True) cx [] [2] [] trivial ?_
 refine sn ?_
 refine st_ret (by kernel_rfl) ?_
 refine q_blk_ret ?_
 refine q_seq_ret ?_
 refine q_ret (r := .i .i64 ((5:Int))) (obl := []) (by kernel_rfl) trivial (AVle.eq (show AV.i .i64 (5:Int) = AV.i .i64 (entE e) from ?g2)); rotate_left 1
 refine sq ?_
 refine st_join (σ' := ⟨[(30, .b (decide (e.qty < (1:Int) ∨ (1000000:Int) < e.qty)))], []⟩) ?_ ?_
 refine st_split (e.qty < (1:Int)) (fun h_8 => ?_) (fun h_8 => ?_)
 refine rg (A := _ ∧ (AV.b true = AV.b (decide (e.qty < (1:Int) ∨ (1000000:Int) < e.qty)))) cx [(2, { tell := some (.b (true)) }), (8, { tell := some (.b (decide (e.qty < (1:Int) ∨ (1000000:Int) < e.qty))) })] [30] [] ⟨(told_true h_8), (by simp only [eq_true h_8, told_simp1, told_simp2, and_true, true_and, and_false, false_and, or_true, true_or, or_false, false_or, not_true_eq_false, not_false_eq_true, decide_true, decide_false, Bool.decide_eq_true])⟩ ?_
 exact ⟨rfl, by kernel_rfl⟩
 refine rg (A := _ ∧ (AV.b (decide (e.qty > (1000000:Int))) = AV.b (decide ((1000000:Int) < e.qty))) ∧ (AV.b (decide ((1000000:Int) < e.qty)) = AV.b (decide (e.qty < (1:Int) ∨ (1000000:Int) < e.qty)))) cx [(2, { tell := some (.b (false)) }), (6, { tell := some (.b (decide ((1000000:Int) < e.qty))) }), (8, { tell := some (.b (decide (e.qty < (1:Int) ∨ (1000000:Int) < e.qty))) })] [30] [] ⟨(told_false h_8), (by kernel_rfl), (by simp only [eq_false h_8, told_simp1, told_simp2, and_true, true_and, and_false, false_and, or_true, true_or, or_false, false_or, not_true_eq_false, not_false_eq_true, decide_true, decide_false, Bool.decide_eq_true])⟩ ?_
 exact ⟨rfl, by kernel_rfl⟩
 refine sn ?_
 refine st_dec (e.qty < (1:Int) ∨ (1000000:Int) < e.qty) (by kernel_rfl) (by kernel_rfl) (fun h_9 => ?_) (fun h_9 => ?_)
 refine sq ?_
 refine rg (A := True) cx [] [2] [] trivial ?_
 refine sn ?_
 refine st_ret (by kernel_rfl) ?_
 refine q_blk_ret ?_
 refine q_seq_ret ?_
 refine q_ret (r := .i .i64 ((6:Int))) (obl := []) (by kernel_rfl) trivial (AVle.eq (show AV.i .i64 (6:Int) = AV.i .i64 (entE e) from ?g3)); rotate_left 1
 refine st_skip (by kernel_rfl) ?_
 refine q_blk_normal ?_
 refine sn (sq ?_)
 refine rg (A := True) cx [] [2] [] trivial ?_
 refine sn ?_
 refine st_ret (by kernel_rfl) ?_
 refine q_ret (r := .i .i64 ((0:Int))) (obl := []) (by kernel_rfl) trivial (AVle.eq (show AV.i .i64 (0:Int) = AV.i .i64 (entE e) from ?g4)); rotate_left 1
 revert h_2; rotate_left
 revert h_2 h_5; rotate_left
 revert h_2 h_5 h_6; rotate_left
 revert h_2 h_5 h_6 h_9; rotate_left
 revert h_2 h_5 h_6 h_9; rotate_left
 case' g4 => refine (fun h k l m => ?_)
 case' g3 => refine (fun h k l m => ?_)
 case' g2 => refine (fun h k l => ?_)
 case' g1 => refine (fun h k => ?_)
 case' g0 => refine (fun h => ?_)
 all_goals (unfold entE)
 ·rw [if_pos h]
 ·rw [if_neg h, if_pos k]
 ·rw [if_neg h, if_neg k, if_pos (by simpa using l)]
 ·rw [if_neg h, if_neg k, if_neg (by simpa using l), if_pos m]
 ·rw [if_neg h, if_neg k, if_neg (by simpa using l), if_neg m]
theorem con77 (e : Entry) : Con Tryz.prog 77 [.agg (c45 e)] (.i .i64 (entE e)) :=
 by
 refine st_con tab_ok (by kernel_rfl) [.tmp 2] 39 Go.Proofs.Tryz.func77 (by kernel_rfl) (by kernel_rfl) ?_
 intro e0 cx
 refine sq ?_
 refine rg (A := True) cx [] [1] [1] trivial ?_
 refine sn (sq ?_)
 refine st_block 0 (by kernel_rfl) ?_
 refine sq ?_
 refine st_join (σ' := ⟨[(1, .ptr (1) (0) (0) (0)), (3, .b (decide (e.dot.rep < (0:Int) ∨ (16:Int) ≤ e.dot.rep)))], [(1, ⟨0, 45, .var [.i .i64 (e.dot.rep), .i .i64 (e.dot.num), .s (e.sku), .i .i64 (e.qty)]⟩)]⟩) ?_ ?_
 refine st_split (e.dot.rep < (0:Int)) (fun h_1 => ?_) (fun h_1 => ?_)
 refine rg (A := _ ∧ (AV.b true = AV.b (decide (e.dot.rep < (0:Int) ∨ (16:Int) ≤ e.dot.rep)))) cx [(3, { tell := some (.b (true)) }), (10, { tell := some (.b (decide (e.dot.rep < (0:Int) ∨ (16:Int) ≤ e.dot.rep))) })] [1, 3] [1] ⟨(told_true h_1), (by simp only [eq_true h_1, told_simp1, told_simp2, and_true, true_and, and_false, false_and, or_true, true_or, or_false, false_or, not_true_eq_false, not_false_eq_true, decide_true, decide_false, Bool.decide_eq_true])⟩ ?_
 exact ⟨rfl, by kernel_rfl⟩
 refine rg (A := _ ∧ (AV.b (decide (e.dot.rep ≥ (16:Int))) = AV.b (decide ((16:Int) ≤ e.dot.rep))) ∧ (AV.b (decide ((16:Int) ≤ e.dot.rep)) = AV.b (decide (e.dot.rep < (0:Int) ∨ (16:Int) ≤ e.dot.rep)))) cx [(3, { tell := some (.b (false)) }), (8, { tell := some (.b (decide ((16:Int) ≤ e.dot.rep))) }), (10, { tell := some (.b (decide (e.dot.rep < (0:Int) ∨ (16:Int) ≤ e.dot.rep))) })] [1, 3] [1] ⟨(told_false h_1), (by kernel_rfl), (by simp only [eq_false h_1, told_simp1, told_simp2, and_true, true_and, and_false, false_and, or_true, true_or, or_false, false_or, not_true_eq_false, not_false_eq_true, decide_true, decide_false, Bool.decide_eq_true])⟩ ?_
 exact ⟨rfl, by kernel_rfl⟩
 refine sn ?_
 refine st_dec (e.dot.rep < (0:Int) ∨ (16:Int) ≤ e.dot.rep) (by kernel_rfl) (by kernel_rfl) (fun h_2 => ?_) (fun h_2 => ?_)
 refine sq ?_
 refine rg (A := True) cx [] [2] [] trivial ?_
 refine sn ?_
 refine st_ret (by kernel_rfl) ?_
 refine q_blk_ret ?_
 refine q_seq_ret ?_
 refine q_ret (r := .i .i64 ((3:Int))) (obl := []) (by kernel_rfl) trivial (AVle.eq (show AV.i .i64 (3:Int) = AV.i .i64 (entE e) from ?g0)); rotate_left 1
 refine sq ?_
 refine st_join (σ' := ⟨[(1, .ptr (1) (0) (0) (0)), (14, .b (decide (e.dot.num < (1:Int) ∨ (1000000000:Int) < e.dot.num)))], [(1, ⟨0, 45, .var [.i .i64 (e.dot.rep), .i .i64 (e.dot.num), .s (e.sku), .i .i64 (e.qty)]⟩)]⟩) ?_ ?_
 refine st_split (e.dot.num < (1:Int)) (fun h_4 => ?_) (fun h_4 => ?_)
 refine rg (A := _ ∧ (AV.b true = AV.b (decide (e.dot.num < (1:Int) ∨ (1000000000:Int) < e.dot.num)))) cx [(3, { tell := some (.b (true)) }), (10, { tell := some (.b (decide (e.dot.num < (1:Int) ∨ (1000000000:Int) < e.dot.num))) })] [1, 14] [1] ⟨(told_true h_4), (by simp only [eq_true h_4, told_simp1, told_simp2, and_true, true_and, and_false, false_and, or_true, true_or, or_false, false_or, not_true_eq_false, not_false_eq_true, decide_true, decide_false, Bool.decide_eq_true])⟩ ?_
 exact ⟨rfl, by kernel_rfl⟩
 refine rg (A := _ ∧ (AV.b (decide (e.dot.num > (1000000000:Int))) = AV.b (decide ((1000000000:Int) < e.dot.num))) ∧ (AV.b (decide ((1000000000:Int) < e.dot.num)) = AV.b (decide (e.dot.num < (1:Int) ∨ (1000000000:Int) < e.dot.num)))) cx [(3, { tell := some (.b (false)) }), (8, { tell := some (.b (decide ((1000000000:Int) < e.dot.num))) }), (10, { tell := some (.b (decide (e.dot.num < (1:Int) ∨ (1000000000:Int) < e.dot.num))) })] [1, 14] [1] ⟨(told_false h_4), (by kernel_rfl), (by simp only [eq_false h_4, told_simp1, told_simp2, and_true, true_and, and_false, false_and, or_true, true_or, or_false, false_or, not_true_eq_false, not_false_eq_true, decide_true, decide_false, Bool.decide_eq_true])⟩ ?_
 exact ⟨rfl, by kernel_rfl⟩
 refine sn ?_
 refine st_dec (e.dot.num < (1:Int) ∨ (1000000000:Int) < e.dot.num) (by kernel_rfl) (by kernel_rfl) (fun h_5 => ?_) (fun h_5 => ?_)
 refine sq ?_
 refine rg (A := True) cx [] [2] [] trivial ?_
 refine sn ?_
 refine st_ret (by kernel_rfl) ?_
 refine q_blk_ret ?_
 refine q_seq_ret ?_
 refine q_ret (r := .i .i64 ((2:Int))) (obl := []) (by kernel_rfl) trivial (AVle.eq (show AV.i .i64 (2:Int) = AV.i .i64 (entE e) from ?g1)); rotate_left 1
 refine sq ?_
 refine rg (A := _ ∧ ((AV.b !good e.sku) = AV.b (decide ¬good e.sku = true))) cx [(2, { val := some (.b (good e.sku)) }), (3, { tell := some (.b (decide ¬good e.sku = true)) })] [1, 25] [1] ⟨(con125 (e.sku)), (told_not)⟩ ?_
 refine sn ?_
 refine st_dec (¬good e.sku = true) (by kernel_rfl) (by kernel_rfl) (fun h_6 => ?_) (fun h_6 => ?_)
 refine sq ?_
 refine rg (A := True) cx [] [2] [] trivial ?_
 refine sn ?_
 refine st_ret (by kernel_rfl) ?_
 refine q_blk_ret ?_
 refine q_seq_ret ?_
 refine q_ret (r := .i .i64 ((5:Int))) (obl := []) (by kernel_rfl) trivial (AVle.eq (show AV.i .i64 (5:Int) = AV.i .i64 (entE e) from ?g2)); rotate_left 1
 refine sq ?_
 refine st_join (σ' := ⟨[(30, .b (decide (e.qty < (1:Int) ∨ (1000000:Int) < e.qty)))], []⟩) ?_ ?_
 refine st_split (e.qty < (1:Int)) (fun h_8 => ?_) (fun h_8 => ?_)
 refine rg (A := _ ∧ (AV.b true = AV.b (decide (e.qty < (1:Int) ∨ (1000000:Int) < e.qty)))) cx [(2, { tell := some (.b (true)) }), (8, { tell := some (.b (decide (e.qty < (1:Int) ∨ (1000000:Int) < e.qty))) })] [30] [] ⟨(told_true h_8), (by simp only [eq_true h_8, told_simp1, told_simp2, and_true, true_and, and_false, false_and, or_true, true_or, or_false, false_or, not_true_eq_false, not_false_eq_true, decide_true, decide_false, Bool.decide_eq_true])⟩ ?_
 exact ⟨rfl, by kernel_rfl⟩
 refine rg (A := _ ∧ (AV.b (decide (e.qty > (1000000:Int))) = AV.b (decide ((1000000:Int) < e.qty))) ∧ (AV.b (decide ((1000000:Int) < e.qty)) = AV.b (decide (e.qty < (1:Int) ∨ (1000000:Int) < e.qty)))) cx [(2, { tell := some (.b (false)) }), (6, { tell := some (.b (decide ((1000000:Int) < e.qty))) }), (8, { tell := some (.b (decide (e.qty < (1:Int) ∨ (1000000:Int) < e.qty))) })] [30] [] ⟨(told_false h_8), (by kernel_rfl), (by simp only [eq_false h_8, told_simp1, told_simp2, and_true, true_and, and_false, false_and, or_true, true_or, or_false, false_or, not_true_eq_false, not_false_eq_true, decide_true, decide_false, Bool.decide_eq_true])⟩ ?_
 exact ⟨rfl, by kernel_rfl⟩
 refine sn ?_
 refine st_dec (e.qty < (1:Int) ∨ (1000000:Int) < e.qty) (by kernel_rfl) (by kernel_rfl) (fun h_9 => ?_) (fun h_9 => ?_)
 refine sq ?_
 refine rg (A := True) cx [] [2] [] trivial ?_
 refine sn ?_
 refine st_ret (by kernel_rfl) ?_
 refine q_blk_ret ?_
 refine q_seq_ret ?_
 refine q_ret (r := .i .i64 ((6:Int))) (obl := []) (by kernel_rfl) trivial (AVle.eq (show AV.i .i64 (6:Int) = AV.i .i64 (entE e) from ?g3)); rotate_left 1
 refine st_skip (by kernel_rfl) ?_
 refine q_blk_normal ?_
 refine sn (sq ?_)
 refine rg (A := True) cx [] [2] [] trivial ?_
 refine sn ?_
 refine st_ret (by kernel_rfl) ?_
 refine q_ret (r := .i .i64 ((0:Int))) (obl := []) (by kernel_rfl) trivial (AVle.eq (show AV.i .i64 (0:Int) = AV.i .i64 (entE e) from ?g4)); rotate_left 1
 revert h_2; rotate_left
 revert h_2 h_5; rotate_left
 revert h_2 h_5 h_6; rotate_left
 revert h_2 h_5 h_6 h_9; rotate_left
 revert h_2 h_5 h_6 h_9; rotate_left
 case' g4 => refine (fun h k l m => ?_)
 case' g3 => refine (fun h k l m => ?_)
 case' g2 => refine (fun h k l => ?_)
 case' g1 => refine (fun h k => ?_)
 case' g0 => refine (fun h => ?_)
 all_goals (unfold entE)
 ·rw [if_pos h]
 ·rw [if_neg h, if_pos k]
 ·rw [if_neg h, if_neg k, if_pos (by simpa using l)]
 ·rw [if_neg h, if_neg k, if_neg (by simpa using l), if_pos m]
 ·rw [if_neg h, if_neg k, if_neg (by simpa using l), if_neg m]
theorem con112 (a b : Dot) : Con Tryz.prog 112 [.agg (c43 a), .agg (c43 b)] (.b (dLt a b)) :=
 by
 refine st_con tab_ok (by kernel_rfl) [.tmp 4] 24 Go.Proofs.Tryz.func112 (by kernel_rfl) (by kernel_rfl) ?_
 intro e0 cx
 refine sq ?_
 refine rg (A := True) cx [] [2, 3] [2, 3] trivial ?_
 refine sn (sq ?_)
 refine st_join (σ' := ⟨[(4, .b (decide (a.rep < b.rep ∨ a.rep = b.rep ∧ a.num < b.num)))], []⟩) ?_ ?_
 refine st_split (a.rep < b.rep) (fun h_1 => ?_) (fun h_1 => ?_)
 refine rg (A := _ ∧ (AV.b true = AV.b (decide (a.rep < b.rep ∨ a.rep = b.rep ∧ a.num < b.num)))) cx [(4, { tell := some (.b (true)) }), (19, { tell := some (.b (decide (a.rep < b.rep ∨ a.rep = b.rep ∧ a.num < b.num))) })] [4] [] ⟨(told_true h_1), (by simp only [eq_true h_1, told_simp1, told_simp2, and_true, true_and, and_false, false_and, or_true, true_or, or_false, false_or, not_true_eq_false, not_false_eq_true, decide_true, decide_false, Bool.decide_eq_true])⟩ ?_
 exact ⟨rfl, by kernel_rfl⟩
 refine st_split (a.rep = b.rep) (fun h_2 => ?_) (fun h_2 => ?_)
 refine rg (A := _ ∧ _ ∧ (AV.b (decide (a.num < b.num)) = AV.b (decide (a.num < b.num))) ∧ (AV.b (decide (a.num < b.num)) = AV.b (decide (a.rep < b.rep ∨ a.rep = b.rep ∧ a.num < b.num)))) cx [(4, { tell := some (.b (false)) }), (10, { tell := some (.b (true)) }), (16, { tell := some (.b (decide (a.num < b.num))) }), (19, { tell := some (.b (decide (a.rep < b.rep ∨ a.rep = b.rep ∧ a.num < b.num))) })] [4] [] ⟨(told_false h_1), (told_true h_2), (by kernel_rfl), (by simp only [eq_false h_1, eq_true h_2, told_simp1, told_simp2, and_true, true_and, and_false, false_and, or_true, true_or, or_false, false_or, not_true_eq_false, not_false_eq_true, decide_true, decide_false, Bool.decide_eq_true])⟩ ?_
 exact ⟨rfl, by kernel_rfl⟩
 refine rg (A := _ ∧ _ ∧ (AV.b false = AV.b (decide (a.rep < b.rep ∨ a.rep = b.rep ∧ a.num < b.num)))) cx [(4, { tell := some (.b (false)) }), (10, { tell := some (.b (false)) }), (19, { tell := some (.b (decide (a.rep < b.rep ∨ a.rep = b.rep ∧ a.num < b.num))) })] [4] [] ⟨(told_false h_1), (told_false h_2), (by simp only [eq_false h_1, eq_false h_2, told_simp1, told_simp2, and_true, true_and, and_false, false_and, or_true, true_or, or_false, false_or, not_true_eq_false, not_false_eq_true, decide_true, decide_false, Bool.decide_eq_true])⟩ ?_
 exact ⟨rfl, by kernel_rfl⟩
 refine sn ?_
 refine st_ret (by kernel_rfl) ?_
 refine q_ret (r := .b (decide (a.rep < b.rep ∨ a.rep = b.rep ∧ a.num < b.num))) (obl := []) (by kernel_rfl) trivial (AVle.eq (show AV.b (decide (a.rep < b.rep ∨ a.rep = b.rep ∧ a.num < b.num)) = AV.b (dLt a b) from ?g0)); rotate_left 1
 case g0 => exact rfl
theorem con78 (a b : Dot) : Con Tryz.prog 78 [.agg (c43 a), .agg (c43 b)] (.b (dLt a b)) :=
 by
 refine st_con tab_ok (by kernel_rfl) [.tmp 4] 24 Go.Proofs.Tryz.func78 (by kernel_rfl) (by kernel_rfl) ?_
 intro e0 cx
 refine sq ?_
 refine rg (A := True) cx [] [2, 3] [2, 3] trivial ?_
 refine sn (sq ?_)
 refine st_join (σ' := ⟨[(4, .b (decide (a.rep < b.rep ∨ a.rep = b.rep ∧ a.num < b.num)))], []⟩) ?_ ?_
 refine st_split (a.rep < b.rep) (fun h_1 => ?_) (fun h_1 => ?_)
 refine rg (A := _ ∧ (AV.b true = AV.b (decide (a.rep < b.rep ∨ a.rep = b.rep ∧ a.num < b.num)))) cx [(4, { tell := some (.b (true)) }), (19, { tell := some (.b (decide (a.rep < b.rep ∨ a.rep = b.rep ∧ a.num < b.num))) })] [4] [] ⟨(told_true h_1), (by simp only [eq_true h_1, told_simp1, told_simp2, and_true, true_and, and_false, false_and, or_true, true_or, or_false, false_or, not_true_eq_false, not_false_eq_true, decide_true, decide_false, Bool.decide_eq_true])⟩ ?_
 exact ⟨rfl, by kernel_rfl⟩
 refine st_split (a.rep = b.rep) (fun h_2 => ?_) (fun h_2 => ?_)
 refine rg (A := _ ∧ _ ∧ (AV.b (decide (a.num < b.num)) = AV.b (decide (a.num < b.num))) ∧ (AV.b (decide (a.num < b.num)) = AV.b (decide (a.rep < b.rep ∨ a.rep = b.rep ∧ a.num < b.num)))) cx [(4, { tell := some (.b (false)) }), (10, { tell := some (.b (true)) }), (16, { tell := some (.b (decide (a.num < b.num))) }), (19, { tell := some (.b (decide (a.rep < b.rep ∨ a.rep = b.rep ∧ a.num < b.num))) })] [4] [] ⟨(told_false h_1), (told_true h_2), (by kernel_rfl), (by simp only [eq_false h_1, eq_true h_2, told_simp1, told_simp2, and_true, true_and, and_false, false_and, or_true, true_or, or_false, false_or, not_true_eq_false, not_false_eq_true, decide_true, decide_false, Bool.decide_eq_true])⟩ ?_
 exact ⟨rfl, by kernel_rfl⟩
 refine rg (A := _ ∧ _ ∧ (AV.b false = AV.b (decide (a.rep < b.rep ∨ a.rep = b.rep ∧ a.num < b.num)))) cx [(4, { tell := some (.b (false)) }), (10, { tell := some (.b (false)) }), (19, { tell := some (.b (decide (a.rep < b.rep ∨ a.rep = b.rep ∧ a.num < b.num))) })] [4] [] ⟨(told_false h_1), (told_false h_2), (by simp only [eq_false h_1, eq_false h_2, told_simp1, told_simp2, and_true, true_and, and_false, false_and, or_true, true_or, or_false, false_or, not_true_eq_false, not_false_eq_true, decide_true, decide_false, Bool.decide_eq_true])⟩ ?_
 exact ⟨rfl, by kernel_rfl⟩
 refine sn ?_
 refine st_ret (by kernel_rfl) ?_
 refine q_ret (r := .b (decide (a.rep < b.rep ∨ a.rep = b.rep ∧ a.num < b.num))) (obl := []) (by kernel_rfl) trivial (AVle.eq (show AV.b (decide (a.rep < b.rep ∨ a.rep = b.rep ∧ a.num < b.num)) = AV.b (dLt a b) from ?g0)); rotate_left 1
 case g0 => exact rfl
theorem con65 (es : List Entry) : Con Tryz.prog 65 [.sl (es.map c45)] (.i .i64 (lstE es)) :=
 by
 have e : ∀ {i : Int}, 0 ≤ i → (i - 1).toNat = i.toNat - 1 := fun {i} h => by omega
 refine con_lens 0 (c45) (es) (by kernel_rfl) Go.Proofs.Tryz.func65 (by kernel_rfl) fun hl_0 => ?_
 refine st_con tab_ok (by kernel_rfl) [.tmp 2] 32 Go.Proofs.Tryz.func65 (by kernel_rfl) (by kernel_rfl) ?_
 intro e0 cx
 refine sq ?_
 refine rg (A := True) cx [] [0] [] trivial ?_
 refine sn (sq ?_)
 refine sq ?_
 refine rg (A := _) cx [(1, { tell := some (.i .i64 ((↑es.length:Int))) })] [0, 5, 6, 7] [] (told_len c45 es) ?_
 refine sn ?_
 refine st_block 0 (by kernel_rfl) ?_
 refine st_loop (X := Int) (fun x => ⟨[(0, .sl (List.map c45 es)), (5, .sl (List.map c45 es)), (6, .i .i64 ((↑es.length:Int))), (7, .i .i64 (x))], []⟩) (fun x ↦ decL es x) (fun x ↦ invL es x) [0, 5, 6, 7] [] ((0:Int)) (by kernel_rfl) (by kernel_rfl) (show invL es (0:Int) from ?g0) ?_; rotate_left 1
 intro i_0 h_1
 obtain ⟨h_2, h_3, h_4⟩ : (0:Int) ≤ i_0 ∧ i_0 ≤ (↑es.length:Int) ∧ ∀ (j:Nat), (↑j:Int) < i_0 → okAt es j = true := h_1
 refine sq ?_
 refine rg (A := (AV.b (decide (i_0 < (↑es.length:Int))) = AV.b (decide (i_0 < (↑es.length:Int))))) cx [(0, { tell := some (.b (decide (i_0 < (↑es.length:Int)))) })] [0, 5, 6, 7, 8] [] (by kernel_rfl) ?_
 refine sn (sq ?_)
 refine st_dec (i_0 < (↑es.length:Int)) (by kernel_rfl) (by kernel_rfl) (fun h_5 => ?_) (fun h_5 => ?_)
 refine st_skip (by kernel_rfl) ?_
 refine sn (sq ?_)
 refine st_block 1 (by kernel_rfl) ?_
 refine sq ?_
 refine rg (A := ((0:Int) ≤ i_0) ∧ ((List.map c45 es)[i_0.toNat]? = some (c45 es[i_0.toNat]!)) ∧ ((c45 es[i_0.toNat]!).length = (4:Nat)) ∧ ((4:Nat) ≤ [AV.i .i64 es[i_0.toNat]!.dot.rep, AV.i .i64 es[i_0.toNat]!.dot.num, AV.s es[i_0.toNat]!.sku, AV.i .i64 es[i_0.toNat]!.qty].length)) cx [(1, { row := (c45 es[i_0.toNat]!) })] [0, 5, 6, 7, 4, 3] [4] ⟨(by (with_reducible assumption)), (by (with_reducible refine get_map ?_; omega)), (by kernel_rfl), (by (simp only [List.length_append, List.length_cons, List.length_nil]; omega))⟩ ?_
 refine sn (sq ?_)
 refine st_join (σ' := ⟨[(0, .sl (List.map c45 es)), (5, .sl (List.map c45 es)), (6, .i .i64 ((↑es.length:Int))), (7, .i .i64 (i_0)), (30, .b (decide (¬entE es[i_0.toNat]! = (0:Int) ∨ (0:Int) < i_0 ∧ ¬dLt es[(i_0 - (1:Int)).toNat]!.dot es[i_0.toNat]!.dot = true)))], []⟩) ?_ ?_
 refine st_split (¬entE es[i_0.toNat]! = (0:Int)) (fun h_7 => ?_) (fun h_7 => ?_)
 refine ra (A := _ ∧ _ ∧ (AV.b true = AV.b (decide (¬entE es[i_0.toNat]! = (0:Int) ∨ (0:Int) < i_0 ∧ ¬dLt es[(i_0 - (1:Int)).toNat]!.dot es[i_0.toNat]!.dot = true)))) cx [(1, { val := some (.i .i64 (entE es[i_0.toNat]!)) }), (2, { tell := some (.b (true)) }), (18, { tell := some (.b (decide (¬entE es[i_0.toNat]! = (0:Int) ∨ (0:Int) < i_0 ∧ ¬dLt es[(i_0 - (1:Int)).toNat]!.dot es[i_0.toNat]!.dot = true))) })] [0, 5, 6, 7, 30] [] ⟨(con111 (es[i_0.toNat]!)), (told_neqt h_7), (by simp only [eq_false h_7, told_simp1, told_simp2, and_true, true_and, and_false, false_and, or_true, true_or, or_false, false_or, not_true_eq_false, not_false_eq_true, decide_true, decide_false, Bool.decide_eq_true])⟩ ?_
 exact ⟨rfl, by kernel_rfl⟩
 refine st_split ((0:Int) < i_0) (fun h_8 => ?_) (fun h_8 => ?_)
 refine ra (A := _ ∧ (AV.b (entE es[i_0.toNat]! != (0:Int)) = AV.b (decide ¬entE es[i_0.toNat]! = (0:Int))) ∧ _ ∧ _ ∧ (AV.i .i64 (IntKind.i64.wrap (i_0 - (1:Int))) = AV.i .i64 (i_0 - (1:Int))) ∧ ((0:Int) ≤ i_0 - (1:Int)) ∧ ((List.map c45 es)[(i_0 - (1:Int)).toNat]? = some (c45 es[(i_0 - (1:Int)).toNat]!)) ∧ ((c45 es[(i_0 - (1:Int)).toNat]!).length = (4:Nat)) ∧ ((2:Nat) ≤ [AV.i .i64 es[(i_0 - (1:Int)).toNat]!.dot.rep, AV.i .i64 es[(i_0 - (1:Int)).toNat]!.dot.num, AV.s es[(i_0 - (1:Int)).toNat]!.sku, AV.i .i64 es[(i_0 - (1:Int)).toNat]!.qty].length) ∧ _ ∧ ((AV.b !dLt es[(i_0 - (1:Int)).toNat]!.dot es[i_0.toNat]!.dot) = AV.b (decide ¬dLt es[(i_0 - (1:Int)).toNat]!.dot es[i_0.toNat]!.dot = true)) ∧ (AV.b (decide ¬dLt es[(i_0 - (1:Int)).toNat]!.dot es[i_0.toNat]!.dot = true) = AV.b (decide (¬entE es[i_0.toNat]! = (0:Int) ∨ (0:Int) < i_0 ∧ ¬dLt es[(i_0 - (1:Int)).toNat]!.dot es[i_0.toNat]!.dot = true)))) cx [(1, { val := some (.i .i64 (entE es[i_0.toNat]!)) }), (2, { tell := some (.b (decide ¬entE es[i_0.toNat]! = (0:Int))) }), (3, { tell := some (.b (false)) }), (5, { tell := some (.b (true)) }), (9, { tell := some (.i .i64 (i_0 - (1:Int))) }), (10, { row := (c45 es[(i_0 - (1:Int)).toNat]!) }), (15, { val := some (.b (dLt es[(i_0 - (1:Int)).toNat]!.dot es[i_0.toNat]!.dot)) }), (16, { tell := some (.b (decide ¬dLt es[(i_0 - (1:Int)).toNat]!.dot es[i_0.toNat]!.dot = true)) }), (18, { tell := some (.b (decide (¬entE es[i_0.toNat]! = (0:Int) ∨ (0:Int) < i_0 ∧ ¬dLt es[(i_0 - (1:Int)).toNat]!.dot es[i_0.toNat]!.dot = true))) })] [0, 5, 6, 7, 30] [] ⟨(con111 (es[i_0.toNat]!)), (told_neq), (told_false h_7), (told_true h_8), (told_i64 (by omega) (by omega)), (by omega), (by (with_reducible refine get_map ?_; omega)), (by kernel_rfl), (by (simp only [List.length_append, List.length_cons, List.length_nil]; omega)), (con112 (es[(i_0 - (1:Int)).toNat]!.dot) (es[i_0.toNat]!.dot)), (told_not), (by simp only [eq_false h_7, eq_true h_8, told_simp1, told_simp2, and_true, true_and, and_false, false_and, or_true, true_or, or_false, false_or, not_true_eq_false, not_false_eq_true, decide_true, decide_false, Bool.decide_eq_true])⟩ ?_
 exact ⟨rfl, by kernel_rfl⟩
 refine ra (A := _ ∧ (AV.b (entE es[i_0.toNat]! != (0:Int)) = AV.b (decide ¬entE es[i_0.toNat]! = (0:Int))) ∧ _ ∧ _ ∧ (AV.b false = AV.b (decide (¬entE es[i_0.toNat]! = (0:Int) ∨ (0:Int) < i_0 ∧ ¬dLt es[(i_0 - (1:Int)).toNat]!.dot es[i_0.toNat]!.dot = true)))) cx [(1, { val := some (.i .i64 (entE es[i_0.toNat]!)) }), (2, { tell := some (.b (decide ¬entE es[i_0.toNat]! = (0:Int))) }), (3, { tell := some (.b (false)) }), (5, { tell := some (.b (false)) }), (18, { tell := some (.b (decide (¬entE es[i_0.toNat]! = (0:Int) ∨ (0:Int) < i_0 ∧ ¬dLt es[(i_0 - (1:Int)).toNat]!.dot es[i_0.toNat]!.dot = true))) })] [0, 5, 6, 7, 30] [] ⟨(con111 (es[i_0.toNat]!)), (told_neq), (told_false h_7), (told_false h_8), (by simp only [eq_false h_7, eq_false h_8, told_simp1, told_simp2, and_true, true_and, and_false, false_and, or_true, true_or, or_false, false_or, not_true_eq_false, not_false_eq_true, decide_true, decide_false, Bool.decide_eq_true])⟩ ?_
 exact ⟨rfl, by kernel_rfl⟩
 refine sn ?_
 refine st_dec (¬entE es[i_0.toNat]! = (0:Int) ∨ (0:Int) < i_0 ∧ ¬dLt es[(i_0 - (1:Int)).toNat]!.dot es[i_0.toNat]!.dot = true) (by kernel_rfl) (by kernel_rfl) (fun h_9 => ?_) (fun h_9 => ?_)
 refine sq ?_
 refine rg (A := True) cx [] [2] [] trivial ?_
 refine sn ?_
 refine st_ret (by kernel_rfl) ?_
 refine q_blk_ret ?_
 refine q_seq_ret ?_
 refine q_seq_ret ?_
 refine q_blk_ret ?_
 refine q_seq_ret ?_
 refine q_ret (r := .i .i64 ((1:Int))) (obl := []) (by kernel_rfl) trivial (AVle.eq (show AV.i .i64 (1:Int) = AV.i .i64 (lstE es) from ?g1)); rotate_left 1
 refine st_skip (by kernel_rfl) ?_
 refine q_blk_normal ?_
 refine sn ?_
 refine rg (A := (AV.i .i64 (IntKind.i64.wrap (i_0 + (1:Int))) = AV.i .i64 (i_0 + (1:Int)))) cx [(0, { tell := some (.i .i64 (i_0 + (1:Int))) })] [0, 5, 6, 7] [] (told_i64 (by omega) (by omega)) ?_
 refine sn ?_
 refine loop_next (i_0 + (1:Int)) (by kernel_rfl) (show ((↑es.length:Int) - (i_0 + (1:Int))).toNat < ((↑es.length:Int) - i_0).toNat from (by omega)) (show invL es (i_0 + (1:Int)) from ?g2); rotate_left 1
 refine st_exit 0 (by kernel_rfl) ?_
 refine q_seq_exit ?_
 refine q_seq_exit ?_
 refine q_blk_hit ?_
 refine sn (sq ?_)
 refine rg (A := True) cx [] [2] [] trivial ?_
 refine sn ?_
 refine st_ret (by kernel_rfl) ?_
 refine q_ret (r := .i .i64 ((0:Int))) (obl := []) (by kernel_rfl) trivial (AVle.eq (show AV.i .i64 (0:Int) = AV.i .i64 (lstE es) from ?g3)); rotate_left 1
 rotate_left
 revert i_0 h_2 h_3 h_4 h_5 h_9; rotate_left
 revert i_0 h_2 h_3 h_4 h_5 h_9; rotate_left
 revert i_0 h_2 h_3 h_4 h_5; rotate_left
 case g0 => exact ⟨by omega, by omega, fun j hj => by omega⟩
 case' g3 => refine (fun i h0 h1 h2 h3 => ?_)
 case' g2 => refine (fun i h0 h1 h2 h3 h4 => ?_)
 case' g1 => refine (fun i h0 h1 h2 h3 h4 => ?_)
 ·rw [lstE_bad (i := i.toNat) (by omega) (not_okAt _)]
  rw [e h0] at h4
  rw [okAt_iff]; rintro ⟨a, b⟩
  rcases h4 with h4 | ⟨h4, h5⟩
  ·exact h4 a
  ·rcases b with b | b
   ·omega
   ·exact h5 b
 ·rw [e h0] at h4
  refine invL_step h0 h3 h2 ((okAt_iff _ _).2 ⟨Classical.byContradiction fun a => h4 (.inl a), ?_⟩)
  by_cases c : i.toNat = 0
  ·exact .inl c
  ·exact .inr (Classical.byContradiction fun a => h4 (.inr ⟨by omega, a⟩))
 ·rw [lstE_ok fun j hj => h2 j (by omega)]
theorem con34 (es : List Entry) : Con Tryz.prog 34 [.sl (es.map c45)] (.i .i64 (lstE es)) :=
 by
 have e : ∀ {i : Int}, 0 ≤ i → (i - 1).toNat = i.toNat - 1 := fun {i} h => by omega
 refine con_lens 0 (c45) (es) (by kernel_rfl) Go.Proofs.Tryz.func34 (by kernel_rfl) fun hl_0 => ?_
 refine st_con tab_ok (by kernel_rfl) [.tmp 2] 33 Go.Proofs.Tryz.func34 (by kernel_rfl) (by kernel_rfl) ?_
 intro e0 cx
 refine sq ?_
 refine rg (A := True) cx [] [0] [] trivial ?_
 refine sn (sq ?_)
 refine sq ?_
 refine rg (A := True) cx [] [0, 3] [] trivial ?_
 refine sn ?_
 refine st_block 0 (by kernel_rfl) ?_
 refine st_loop (X := Int) (fun x => ⟨[(0, .sl (List.map c45 es)), (3, .i .i64 (x))], []⟩) (fun x ↦ decL es x) (fun x ↦ invL es x) [0, 3] [] ((0:Int)) (by kernel_rfl) (by kernel_rfl) (show invL es (0:Int) from ?g0) ?_; rotate_left 1
 intro i_0 h_1
 obtain ⟨h_2, h_3, h_4⟩ : (0:Int) ≤ i_0 ∧ i_0 ≤ (↑es.length:Int) ∧ ∀ (j:Nat), (↑j:Int) < i_0 → okAt es j = true := h_1
 refine sq ?_
 refine sq ?_
 refine rg (A := _ ∧ (AV.b (decide (i_0 < (↑es.length:Int))) = AV.b (decide (i_0 < (↑es.length:Int))))) cx [(2, { tell := some (.i .i64 ((↑es.length:Int))) }), (3, { tell := some (.b (decide (i_0 < (↑es.length:Int)))) })] [0, 3, 7] [] ⟨(told_len c45 es), (by kernel_rfl)⟩ ?_
 refine sn ?_
 refine st_dec (i_0 < (↑es.length:Int)) (by kernel_rfl) (by kernel_rfl) (fun h_5 => ?_) (fun h_5 => ?_)
 refine st_skip (by kernel_rfl) ?_
 refine sn (sq ?_)
 refine st_block 1 (by kernel_rfl) ?_
 refine sq ?_
 refine sq ?_
 refine rg (A := ((0:Int) ≤ i_0) ∧ ((List.map c45 es)[i_0.toNat]? = some (c45 es[i_0.toNat]!)) ∧ ((c45 es[i_0.toNat]!).length = (4:Nat)) ∧ ((4:Nat) ≤ [AV.i .i64 es[i_0.toNat]!.dot.rep, AV.i .i64 es[i_0.toNat]!.dot.num, AV.s es[i_0.toNat]!.sku, AV.i .i64 es[i_0.toNat]!.qty].length) ∧ _ ∧ (AV.b (entE es[i_0.toNat]! != (0:Int)) = AV.b (decide ¬entE es[i_0.toNat]! = (0:Int)))) cx [(2, { row := (c45 es[i_0.toNat]!) }), (4, { val := some (.i .i64 (entE es[i_0.toNat]!)) }), (5, { tell := some (.b (decide ¬entE es[i_0.toNat]! = (0:Int))) })] [0, 3, 15] [] ⟨(by (with_reducible assumption)), (by (with_reducible refine get_map ?_; omega)), (by kernel_rfl), (by (simp only [List.length_append, List.length_cons, List.length_nil]; omega)), (con77 (es[i_0.toNat]!)), (told_neq)⟩ ?_
 refine sn ?_
 refine st_dec (¬entE es[i_0.toNat]! = (0:Int)) (by kernel_rfl) (by kernel_rfl) (fun h_6 => ?_) (fun h_6 => ?_)
 refine sq ?_
 refine rg (A := True) cx [] [2] [] trivial ?_
 refine sn ?_
 refine st_ret (by kernel_rfl) ?_
 refine q_seq_ret ?_
 refine q_blk_ret ?_
 refine q_seq_ret ?_
 refine q_seq_ret ?_
 refine q_blk_ret ?_
 refine q_seq_ret ?_
 refine q_ret (r := .i .i64 ((1:Int))) (obl := []) (by kernel_rfl) trivial (AVle.eq (show AV.i .i64 (1:Int) = AV.i .i64 (lstE es) from ?g1)); rotate_left 1
 refine st_skip (by kernel_rfl) ?_
 refine sn (sq ?_)
 refine st_join (σ' := ⟨[(0, .sl (List.map c45 es)), (3, .i .i64 (i_0)), (32, .b (decide ((0:Int) < i_0 ∧ ¬dLt es[(i_0 - (1:Int)).toNat]!.dot es[i_0.toNat]!.dot = true)))], []⟩) ?_ ?_
 refine st_split ((0:Int) < i_0) (fun h_8 => ?_) (fun h_8 => ?_)
 refine ra (A := _ ∧ (AV.i .i64 (IntKind.i64.wrap (i_0 - (1:Int))) = AV.i .i64 (i_0 - (1:Int))) ∧ ((0:Int) ≤ i_0 - (1:Int)) ∧ ((List.map c45 es)[(i_0 - (1:Int)).toNat]? = some (c45 es[(i_0 - (1:Int)).toNat]!)) ∧ ((c45 es[(i_0 - (1:Int)).toNat]!).length = (4:Nat)) ∧ ((2:Nat) ≤ [AV.i .i64 es[(i_0 - (1:Int)).toNat]!.dot.rep, AV.i .i64 es[(i_0 - (1:Int)).toNat]!.dot.num, AV.s es[(i_0 - (1:Int)).toNat]!.sku, AV.i .i64 es[(i_0 - (1:Int)).toNat]!.qty].length) ∧ ((0:Int) ≤ i_0) ∧ ((List.map c45 es)[i_0.toNat]? = some (c45 es[i_0.toNat]!)) ∧ ((c45 es[i_0.toNat]!).length = (4:Nat)) ∧ ((2:Nat) ≤ [AV.i .i64 es[i_0.toNat]!.dot.rep, AV.i .i64 es[i_0.toNat]!.dot.num, AV.s es[i_0.toNat]!.sku, AV.i .i64 es[i_0.toNat]!.qty].length) ∧ _ ∧ ((AV.b !dLt es[(i_0 - (1:Int)).toNat]!.dot es[i_0.toNat]!.dot) = AV.b (decide ¬dLt es[(i_0 - (1:Int)).toNat]!.dot es[i_0.toNat]!.dot = true)) ∧ (AV.b (decide ¬dLt es[(i_0 - (1:Int)).toNat]!.dot es[i_0.toNat]!.dot = true) = AV.b (decide ((0:Int) < i_0 ∧ ¬dLt es[(i_0 - (1:Int)).toNat]!.dot es[i_0.toNat]!.dot = true)))) cx [(1, { tell := some (.b (true)) }), (5, { tell := some (.i .i64 (i_0 - (1:Int))) }), (6, { row := (c45 es[(i_0 - (1:Int)).toNat]!) }), (11, { row := (c45 es[i_0.toNat]!) }), (14, { val := some (.b (dLt es[(i_0 - (1:Int)).toNat]!.dot es[i_0.toNat]!.dot)) }), (15, { tell := some (.b (decide ¬dLt es[(i_0 - (1:Int)).toNat]!.dot es[i_0.toNat]!.dot = true)) }), (16, { tell := some (.b (decide ((0:Int) < i_0 ∧ ¬dLt es[(i_0 - (1:Int)).toNat]!.dot es[i_0.toNat]!.dot = true))) })] [0, 3, 32] [] ⟨(told_true h_8), (told_i64 (by omega) (by omega)), (by omega), (by (with_reducible refine get_map ?_; omega)), (by kernel_rfl), (by (simp only [List.length_append, List.length_cons, List.length_nil]; omega)), (by (with_reducible assumption)), (by (with_reducible refine get_map ?_; omega)), (by kernel_rfl), (by (simp only [List.length_append, List.length_cons, List.length_nil]; omega)), (con78 (es[(i_0 - (1:Int)).toNat]!.dot) (es[i_0.toNat]!.dot)), (told_not), (by simp only [eq_true h_8, told_simp1, told_simp2, and_true, true_and, and_false, false_and, or_true, true_or, or_false, false_or, not_true_eq_false, not_false_eq_true, decide_true, decide_false, Bool.decide_eq_true])⟩ ?_
 exact ⟨rfl, by kernel_rfl⟩
 refine ra (A := _ ∧ (AV.b false = AV.b (decide ((0:Int) < i_0 ∧ ¬dLt es[(i_0 - (1:Int)).toNat]!.dot es[i_0.toNat]!.dot = true)))) cx [(1, { tell := some (.b (false)) }), (16, { tell := some (.b (decide ((0:Int) < i_0 ∧ ¬dLt es[(i_0 - (1:Int)).toNat]!.dot es[i_0.toNat]!.dot = true))) })] [0, 3, 32] [] ⟨(told_false h_8), (by simp only [eq_false h_8, told_simp1, told_simp2, and_true, true_and, and_false, false_and, or_true, true_or, or_false, false_or, not_true_eq_false, not_false_eq_true, decide_true, decide_false, Bool.decide_eq_true])⟩ ?_
 exact ⟨rfl, by kernel_rfl⟩
 refine sn ?_
 refine st_dec ((0:Int) < i_0 ∧ ¬dLt es[(i_0 - (1:Int)).toNat]!.dot es[i_0.toNat]!.dot = true) (by kernel_rfl) (by kernel_rfl) (fun h_9 => ?_) (fun h_9 => ?_)
 refine sq ?_
 refine rg (A := True) cx [] [2] [] trivial ?_
 refine sn ?_
 refine st_ret (by kernel_rfl) ?_
 refine q_blk_ret ?_
 refine q_seq_ret ?_
 refine q_seq_ret ?_
 refine q_blk_ret ?_
 refine q_seq_ret ?_
 refine q_ret (r := .i .i64 ((1:Int))) (obl := []) (by kernel_rfl) trivial (AVle.eq (show AV.i .i64 (1:Int) = AV.i .i64 (lstE es) from ?g2)); rotate_left 1
 refine st_skip (by kernel_rfl) ?_
 refine q_blk_normal ?_
 refine sn ?_
 refine rg (A := (AV.i .i64 (IntKind.i64.wrap (i_0 + (1:Int))) = AV.i .i64 (i_0 + (1:Int)))) cx [(1, { tell := some (.i .i64 (i_0 + (1:Int))) })] [0, 3] [] (told_i64 (by omega) (by omega)) ?_
 refine sn ?_
 refine loop_next (i_0 + (1:Int)) (by kernel_rfl) (show ((↑es.length:Int) - (i_0 + (1:Int))).toNat < ((↑es.length:Int) - i_0).toNat from (by omega)) (show invL es (i_0 + (1:Int)) from ?g3); rotate_left 1
 refine st_exit 0 (by kernel_rfl) ?_
 refine q_seq_exit ?_
 refine q_seq_exit ?_
 refine q_blk_hit ?_
 refine sn (sq ?_)
 refine rg (A := True) cx [] [2] [] trivial ?_
 refine sn ?_
 refine st_ret (by kernel_rfl) ?_
 refine q_ret (r := .i .i64 ((0:Int))) (obl := []) (by kernel_rfl) trivial (AVle.eq (show AV.i .i64 (0:Int) = AV.i .i64 (lstE es) from ?g4)); rotate_left 1
 rotate_left
 revert i_0 h_2 h_3 h_4 h_5 h_6; rotate_left
 revert i_0 h_2 h_3 h_4 h_5 h_6 h_9; rotate_left
 revert i_0 h_2 h_3 h_4 h_5 h_6 h_9; rotate_left
 revert i_0 h_2 h_3 h_4 h_5; rotate_left
 case g0 => exact ⟨by omega, by omega, fun j hj => by omega⟩
 case' g4 => refine (fun i h0 h1 h2 h3 => ?_)
 case' g3 => refine (fun i h0 h1 h2 h3 h4 h5 => ?_)
 case' g2 => refine (fun i h0 h1 h2 h3 h4 h5 => ?_)
 case' g1 => refine (fun i h0 h1 h2 h3 h4 => ?_)
 ·rw [lstE_bad (i := i.toNat) (by omega) (not_okAt _)]
  rw [okAt_iff]; rintro ⟨a, b⟩; exact h4 a
 ·rw [lstE_bad (i := i.toNat) (by omega) (not_okAt _)]
  rw [e h0] at h5
  rw [okAt_iff]; rintro ⟨a, b⟩
  rcases b with b | b
  ·omega
  ·exact h5.2 b
 ·rw [e h0] at h5
  refine invL_step h0 h3 h2 ((okAt_iff _ _).2 ⟨Classical.not_not.1 h4, ?_⟩)
  by_cases c : i.toNat = 0
  ·exact .inl c
  ·exact .inr (Classical.byContradiction fun a => h5 ⟨by omega, a⟩)
 ·rw [lstE_ok fun j hj => h2 j (by omega)]
end Go.Proofs.YtaiepnaokhpmcaaGreat
namespace Go.Proofs.YtaiepnaokhpmcaaGreat
open Go.E
set_option maxRecDepth 100000
set_option maxHeartbeats 4000000
def szP (p : Past) : Prop := p.cloud.length * 16 ≤ 140737488350000 ∧ p.vec.length ≤ 9223372036854775807
def szQ (rs : List Record) : Prop := ∀ r ∈ rs, szP r.past
theorem szQ_s {rs : List Record} (h : szQ rs) : szRs rs := fun r hr => (h r hr).1
theorem szQ_at {rs : List Record} (h : szQ rs) {i : Int} (h0 : 0 ≤ i) (hi : i < rs.length) : szP rs[i.toNat]!.past := h _ (bang_in (by omega))
theorem szQ_at' {rs : List Record} (h : szQ rs) {i : Int} (h0 : 0 < i) (hi : i < rs.length) : szP rs[(i - 1).toNat]!.past := h _ (bang_in (by omega))
theorem con133 (r : Record) (hb : szP r.past) : Con Tryz.prog 133 [.agg (c81 r)] (.i .i64 (ckR r)) :=
 by
 have g : ∀ {b : Bool}, ¬ b = true → b = false := fun {b} h => by cases b <;> simp_all
 refine st_con tab_ok (by kernel_rfl) [.tmp 2] 21 Go.Proofs.Tryz.func133 (by kernel_rfl) (by kernel_rfl) ?_
 intro e0 cx
 refine sq ?_
 refine rg (A := True) cx [] [1] [1] trivial ?_
 refine sn (sq ?_)
 refine sq ?_
 refine st_join (σ' := ⟨[(1, .ptr (1) (0) (0) (0)), (11, .b (decide (¬r.sku = { data := #[] : ByteArray } ∧ ¬good r.sku = true)))], [(1, ⟨0, 81, .var [.s (r.sku), .sl (List.map c3 r.past.vec), .sl (List.map c104 r.past.cloud)]⟩)]⟩) ?_ ?_
 refine st_split (¬r.sku = { data := #[] : ByteArray }) (fun h_1 => ?_) (fun h_1 => ?_)
 refine rg (A := ((AV.b !r.sku.toList == { data := #[] : ByteArray }.toList) = AV.b true) ∧ _ ∧ ((AV.b !good r.sku) = AV.b (decide ¬good r.sku = true)) ∧ (AV.b (decide ¬good r.sku = true) = AV.b (decide (¬r.sku = { data := #[] : ByteArray } ∧ ¬good r.sku = true)))) cx [(2, { tell := some (.b (true)) }), (6, { val := some (.b (good r.sku)) }), (7, { tell := some (.b (decide ¬good r.sku = true)) }), (8, { tell := some (.b (decide (¬r.sku = { data := #[] : ByteArray } ∧ ¬good r.sku = true))) })] [1, 11] [1] ⟨(told_snet h_1), (con125 (r.sku)), (told_not), (by simp only [eq_false h_1, told_simp1, told_simp2, and_true, true_and, and_false, false_and, or_true, true_or, or_false, false_or, not_true_eq_false, not_false_eq_true, decide_true, decide_false, Bool.decide_eq_true])⟩ ?_
 exact ⟨rfl, by kernel_rfl⟩
 refine rg (A := ((AV.b !r.sku.toList == { data := #[] : ByteArray }.toList) = AV.b (decide ¬r.sku = { data := #[] : ByteArray })) ∧ _ ∧ (AV.b false = AV.b (decide (¬r.sku = { data := #[] : ByteArray } ∧ ¬good r.sku = true)))) cx [(2, { tell := some (.b (decide ¬r.sku = { data := #[] : ByteArray })) }), (3, { tell := some (.b (false)) }), (8, { tell := some (.b (decide (¬r.sku = { data := #[] : ByteArray } ∧ ¬good r.sku = true))) })] [1, 11] [1] ⟨(told_sne), (told_false h_1), (by simp only [eq_false h_1, told_simp1, told_simp2, and_true, true_and, and_false, false_and, or_true, true_or, or_false, false_or, not_true_eq_false, not_false_eq_true, decide_true, decide_false, Bool.decide_eq_true])⟩ ?_
 exact ⟨rfl, by kernel_rfl⟩
 refine sn ?_
 refine st_dec (¬r.sku = { data := #[] : ByteArray } ∧ ¬good r.sku = true) (by kernel_rfl) (by kernel_rfl) (fun h_2 => ?_) (fun h_2 => ?_)
 refine sq ?_
 refine rg (A := True) cx [] [2] [] trivial ?_
 refine sn ?_
 refine st_ret (by kernel_rfl) ?_
 refine q_seq_ret ?_
 refine q_ret (r := .i .i64 ((5:Int))) (obl := []) (by kernel_rfl) trivial (AVle.eq (show AV.i .i64 (5:Int) = AV.i .i64 (ckR r) from ?g0)); rotate_left 1
 refine st_skip (by kernel_rfl) ?_
 refine sn (sq ?_)
 refine sq ?_
 refine st_join (σ' := ⟨[(20, .b (decide (¬r.past = normP r.past ∨ sizeP r.past = (0:Int))))], []⟩) ?_ ?_
 refine st_split (¬r.past = normP r.past) (fun h_4 => ?_) (fun h_4 => ?_)
 refine rg (A := _ ∧ _ ∧ (AV.b true = AV.b (decide (¬r.past = normP r.past ∨ sizeP r.past = (0:Int))))) cx [(2, { val := some (.b (decide (r.past = normP r.past))), tell := some (.b (false)) }), (8, { tell := some (.b (decide (¬r.past = normP r.past ∨ sizeP r.past = (0:Int)))) })] [20] [] ⟨(told_false h_4), (con84 (r.past) ?g1 ?g2), (by simp only [eq_false h_4, told_simp1, told_simp2, and_true, true_and, and_false, false_and, or_true, true_or, or_false, false_or, not_true_eq_false, not_false_eq_true, decide_true, decide_false, Bool.decide_eq_true])⟩ ?_; rotate_left 2
 exact ⟨rfl, by kernel_rfl⟩
 refine rg (A := _ ∧ ((AV.b !decide (r.past = normP r.past)) = AV.b (decide ¬r.past = normP r.past)) ∧ _ ∧ _ ∧ (AV.b (decide (sizeP r.past = (0:Int))) = AV.b (decide (¬r.past = normP r.past ∨ sizeP r.past = (0:Int))))) cx [(2, { val := some (.b (decide (r.past = normP r.past))) }), (3, { tell := some (.b (decide ¬r.past = normP r.past)) }), (4, { tell := some (.b (false)) }), (7, { val := some (.b (decide (sizeP r.past = (0:Int)))) }), (8, { tell := some (.b (decide (¬r.past = normP r.past ∨ sizeP r.past = (0:Int)))) })] [20] [] ⟨(con84 (r.past) ?g3 ?g4), (told_notd), (told_false h_4), (con59 (r.past) ?g5), (by simp only [eq_false h_4, told_simp1, told_simp2, and_true, true_and, and_false, false_and, or_true, true_or, or_false, false_or, not_true_eq_false, not_false_eq_true, decide_true, decide_false, Bool.decide_eq_true])⟩ ?_; rotate_left 3
 exact ⟨rfl, by kernel_rfl⟩
 refine sn ?_
 refine st_dec (¬r.past = normP r.past ∨ sizeP r.past = (0:Int)) (by kernel_rfl) (by kernel_rfl) (fun h_5 => ?_) (fun h_5 => ?_)
 refine sq ?_
 refine rg (A := True) cx [] [2] [] trivial ?_
 refine sn ?_
 refine st_ret (by kernel_rfl) ?_
 refine q_seq_ret ?_
 refine q_ret (r := .i .i64 ((1:Int))) (obl := []) (by kernel_rfl) trivial (AVle.eq (show AV.i .i64 (1:Int) = AV.i .i64 (ckR r) from ?g6)); rotate_left 1
 refine st_skip (by kernel_rfl) ?_
 refine sn (sq ?_)
 refine rg (A := True) cx [] [2] [] trivial ?_
 refine sn ?_
 refine st_ret (by kernel_rfl) ?_
 refine q_ret (r := .i .i64 ((0:Int))) (obl := []) (by kernel_rfl) trivial (AVle.eq (show AV.i .i64 (0:Int) = AV.i .i64 (ckR r) from ?g7)); rotate_left 1
 revert h_2; rotate_left
 revert h_2 h_4; rotate_left
 revert h_2 h_4; rotate_left
 revert h_2 h_4; rotate_left
 revert h_2 h_4; rotate_left
 revert h_2 h_4; rotate_left
 revert h_2 h_5; rotate_left
 revert h_2 h_5; rotate_left
 case g0 => intro h; unfold ckR; rw [if_pos ⟨h.1, g h.2⟩]
 case g1 => intros; exact hb.1
 case g2 => intros; exact hb.2
 case g3 => intros; exact hb.1
 case g4 => intros; exact hb.2
 case g5 => intros; exact hb.1
 case g6 => intro h k; unfold ckR; rw [if_neg (fun c => h ⟨c.1, by rw [c.2]; simp⟩), if_pos k]
 case g7 => intro h k; unfold ckR; rw [if_neg (fun c => h ⟨c.1, by rw [c.2]; simp⟩), if_neg k]
theorem con134 (r s : Record) (hr : szR r) (hs : szR s) : Con Tryz.prog 134 [.agg (c81 r), .agg (c81 s)] (.i .i64 (cmpRec r s)) :=
 by
 have L : ∀ {x : Int}, cmpSt r.sku s.sku = x → ¬ x = 0 → AV.i .i64 x = AV.i .i64 (cmpRec r s) := fun {x} h k => by
  unfold cmpRec; rw [if_pos (by rw [h]; exact k), h]
 refine st_con tab_ok (by kernel_rfl) [.tmp 4] 20 Go.Proofs.Tryz.func134 (by kernel_rfl) (by kernel_rfl) ?_
 intro e0 cx
 refine sq ?_
 refine rg (A := True) cx [] [2, 3] [2, 3] trivial ?_
 refine sn (sq ?_)
 refine sq ?_
 refine rg (A := (AV.b (Op.bytesLess r.sku.toList s.sku.toList) = AV.b (sLt r.sku s.sku))) cx [(4, { tell := some (.b (sLt r.sku s.sku)) })] [2, 3, 9] [2, 3] (told_slt) ?_
 refine sn ?_
 refine st_cond (sLt r.sku s.sku) (by kernel_rfl) (by kernel_rfl) (fun h_0 => ?_) (fun h_0 => ?_)
 refine sq ?_
 refine rg (A := True) cx [] [4] [] trivial ?_
 refine sn ?_
 refine st_ret (by kernel_rfl) ?_
 refine q_seq_ret ?_
 refine q_ret (r := .i .i64 ((-1:Int))) (obl := []) (by kernel_rfl) trivial (AVle.eq (show AV.i .i64 (-1:Int) = AV.i .i64 (cmpRec r s) from ?g0)); rotate_left 1
 refine st_skip (by kernel_rfl) ?_
 refine sn (sq ?_)
 refine sq ?_
 refine rg (A := ((AV.b !(Op.bytesLess r.sku.toList s.sku.toList || r.sku.toList == s.sku.toList)) = AV.b (decide ¬(sLt r.sku s.sku = true ∨ r.sku = s.sku)))) cx [(4, { tell := some (.b (decide ¬(sLt r.sku s.sku = true ∨ r.sku = s.sku))) })] [2, 3, 14] [2, 3] (told_sgt) ?_
 refine sn ?_
 refine st_dec (¬(sLt r.sku s.sku = true ∨ r.sku = s.sku)) (by kernel_rfl) (by kernel_rfl) (fun h_1 => ?_) (fun h_1 => ?_)
 refine sq ?_
 refine rg (A := True) cx [] [4] [] trivial ?_
 refine sn ?_
 refine st_ret (by kernel_rfl) ?_
 refine q_seq_ret ?_
 refine q_ret (r := .i .i64 ((1:Int))) (obl := []) (by kernel_rfl) trivial (AVle.eq (show AV.i .i64 (1:Int) = AV.i .i64 (cmpRec r s) from ?g1)); rotate_left 1
 refine st_skip (by kernel_rfl) ?_
 refine sn (sq ?_)
 refine rg (A := _) cx [(4, { val := some (.i .i64 (cmpP r.past s.past)) })] [4] [] (con164 (r.past) (s.past) ?g2 ?g3) ?_; rotate_left 2
 refine sn ?_
 refine st_ret (by kernel_rfl) ?_
 refine q_ret (r := .i .i64 (cmpP r.past s.past)) (obl := []) (by kernel_rfl) trivial (AVle.eq (show AV.i .i64 (cmpP r.past s.past) = AV.i .i64 (cmpRec r s) from ?g4)); rotate_left 1
 revert h_0; rotate_left
 revert h_0 h_1; rotate_left
 revert h_0 h_1; rotate_left
 revert h_0 h_1; rotate_left
 revert h_0 h_1; rotate_left
 case g0 => intro h; exact L (by rw [cmpSt_less, if_pos h]) (by decide)
 case g1 =>
  intro h k
  have a : ¬ sLt r.sku s.sku = true := by rw [h]; simp
  have b : sLt s.sku r.sku = true := Classical.byContradiction fun b => k (.inr (sLt_total a b))
  exact L (by rw [cmpSt_less, if_neg a, if_pos b]) (by decide)
 case g2 => intros; exact hr
 case g3 => intros; exact hs
 case g4 =>
  intro h k
  have e : r.sku = s.sku := by
   rcases Classical.not_not.1 k with k | k
   ·rw [h] at k; cases k
   ·exact k
  unfold cmpRec
  rw [if_neg (fun c => c (cmpSt_zero.2 e))]
theorem con85 (rs : List Record) (hb : szQ rs) : Con Tryz.prog 85 [.sl (rs.map c81)] (.i .i64 (recE rs)) :=
 by
 have e : ∀ {i : Int}, 0 ≤ i → (i - 1).toNat = i.toNat - 1 := fun {i} h => by omega
 refine con_lens 0 (c81) (rs) (by kernel_rfl) Go.Proofs.Tryz.func85 (by kernel_rfl) fun hl_0 => ?_
 refine st_con tab_ok (by kernel_rfl) [.tmp 2] 31 Go.Proofs.Tryz.func85 (by kernel_rfl) (by kernel_rfl) ?_
 intro e0 cx
 refine sq ?_
 refine rg (A := True) cx [] [0] [] trivial ?_
 refine sn (sq ?_)
 refine sq ?_
 refine rg (A := True) cx [] [0, 3] [] trivial ?_
 refine sn ?_
 refine st_block 0 (by kernel_rfl) ?_
 refine st_loop (X := Int) (fun x => ⟨[(0, .sl (List.map c81 rs)), (3, .i .i64 (x))], []⟩) (fun x ↦ decKc rs x) (fun x ↦ invKc rs x) [0, 3] [] ((0:Int)) (by kernel_rfl) (by kernel_rfl) (show invKc rs (0:Int) from ?g0) ?_; rotate_left 1
 intro i_0 h_1
 obtain ⟨h_2, h_3, h_4⟩ : (0:Int) ≤ i_0 ∧ i_0 ≤ (↑rs.length:Int) ∧ ∀ (j:Nat), (↑j:Int) < i_0 → okRs rs j = true := h_1
 refine sq ?_
 refine sq ?_
 refine rg (A := _ ∧ (AV.b (decide (i_0 < (↑rs.length:Int))) = AV.b (decide (i_0 < (↑rs.length:Int))))) cx [(2, { tell := some (.i .i64 ((↑rs.length:Int))) }), (3, { tell := some (.b (decide (i_0 < (↑rs.length:Int)))) })] [0, 3, 7] [] ⟨(told_len c81 rs), (by kernel_rfl)⟩ ?_
 refine sn ?_
 refine st_dec (i_0 < (↑rs.length:Int)) (by kernel_rfl) (by kernel_rfl) (fun h_5 => ?_) (fun h_5 => ?_)
 refine st_skip (by kernel_rfl) ?_
 refine sn (sq ?_)
 refine st_block 1 (by kernel_rfl) ?_
 refine sq ?_
 refine sq ?_
 refine rg (A := ((0:Int) ≤ i_0) ∧ ((List.map c81 rs)[i_0.toNat]? = some (c81 rs[i_0.toNat]!)) ∧ ((c81 rs[i_0.toNat]!).length = (3:Nat)) ∧ ((3:Nat) ≤ [AV.s rs[i_0.toNat]!.sku, AV.sl (List.map c3 rs[i_0.toNat]!.past.vec), AV.sl (List.map c104 rs[i_0.toNat]!.past.cloud)].length) ∧ _ ∧ (AV.b (ckR rs[i_0.toNat]! != (0:Int)) = AV.b (decide ¬ckR rs[i_0.toNat]! = (0:Int)))) cx [(2, { row := (c81 rs[i_0.toNat]!) }), (4, { val := some (.i .i64 (ckR rs[i_0.toNat]!)) }), (5, { tell := some (.b (decide ¬ckR rs[i_0.toNat]! = (0:Int))) })] [0, 3, 15] [] ⟨(by (with_reducible assumption)), (by (with_reducible refine get_map ?_; omega)), (by kernel_rfl), (by (simp only [List.length_append, List.length_cons, List.length_nil]; omega)), (con133 (rs[i_0.toNat]!) ?g1), (told_neq)⟩ ?_; rotate_left 1
 refine sn ?_
 refine st_dec (¬ckR rs[i_0.toNat]! = (0:Int)) (by kernel_rfl) (by kernel_rfl) (fun h_6 => ?_) (fun h_6 => ?_)
 refine sq ?_
 refine rg (A := True) cx [] [2] [] trivial ?_
 refine sn ?_
 refine st_ret (by kernel_rfl) ?_
 refine q_seq_ret ?_
 refine q_blk_ret ?_
 refine q_seq_ret ?_
 refine q_seq_ret ?_
 refine q_blk_ret ?_
 refine q_seq_ret ?_
 refine q_ret (r := .i .i64 ((1:Int))) (obl := []) (by kernel_rfl) trivial (AVle.eq (show AV.i .i64 (1:Int) = AV.i .i64 (recE rs) from ?g2)); rotate_left 1
 refine st_skip (by kernel_rfl) ?_
 refine sn (sq ?_)
 refine st_join (σ' := ⟨[(0, .sl (List.map c81 rs)), (3, .i .i64 (i_0)), (30, .b (decide ((0:Int) < i_0 ∧ (0:Int) ≤ cmpRec rs[(i_0 - (1:Int)).toNat]! rs[i_0.toNat]!)))], []⟩) ?_ ?_
 refine st_split ((0:Int) < i_0) (fun h_8 => ?_) (fun h_8 => ?_)
 refine ra (A := _ ∧ (AV.i .i64 (IntKind.i64.wrap (i_0 - (1:Int))) = AV.i .i64 (i_0 - (1:Int))) ∧ ((0:Int) ≤ i_0 - (1:Int)) ∧ ((List.map c81 rs)[(i_0 - (1:Int)).toNat]? = some (c81 rs[(i_0 - (1:Int)).toNat]!)) ∧ ((c81 rs[(i_0 - (1:Int)).toNat]!).length = (3:Nat)) ∧ ((3:Nat) ≤ [AV.s rs[(i_0 - (1:Int)).toNat]!.sku, AV.sl (List.map c3 rs[(i_0 - (1:Int)).toNat]!.past.vec), AV.sl (List.map c104 rs[(i_0 - (1:Int)).toNat]!.past.cloud)].length) ∧ ((0:Int) ≤ i_0) ∧ ((List.map c81 rs)[i_0.toNat]? = some (c81 rs[i_0.toNat]!)) ∧ ((c81 rs[i_0.toNat]!).length = (3:Nat)) ∧ ((3:Nat) ≤ [AV.s rs[i_0.toNat]!.sku, AV.sl (List.map c3 rs[i_0.toNat]!.past.vec), AV.sl (List.map c104 rs[i_0.toNat]!.past.cloud)].length) ∧ _ ∧ (AV.b (decide (cmpRec rs[(i_0 - (1:Int)).toNat]! rs[i_0.toNat]! ≥ (0:Int))) = AV.b (decide ((0:Int) ≤ cmpRec rs[(i_0 - (1:Int)).toNat]! rs[i_0.toNat]!))) ∧ (AV.b (decide ((0:Int) ≤ cmpRec rs[(i_0 - (1:Int)).toNat]! rs[i_0.toNat]!)) = AV.b (decide ((0:Int) < i_0 ∧ (0:Int) ≤ cmpRec rs[(i_0 - (1:Int)).toNat]! rs[i_0.toNat]!)))) cx [(1, { tell := some (.b (true)) }), (5, { tell := some (.i .i64 (i_0 - (1:Int))) }), (6, { row := (c81 rs[(i_0 - (1:Int)).toNat]!) }), (10, { row := (c81 rs[i_0.toNat]!) }), (12, { val := some (.i .i64 (cmpRec rs[(i_0 - (1:Int)).toNat]! rs[i_0.toNat]!)) }), (13, { tell := some (.b (decide ((0:Int) ≤ cmpRec rs[(i_0 - (1:Int)).toNat]! rs[i_0.toNat]!))) }), (14, { tell := some (.b (decide ((0:Int) < i_0 ∧ (0:Int) ≤ cmpRec rs[(i_0 - (1:Int)).toNat]! rs[i_0.toNat]!))) })] [0, 3, 30] [] ⟨(told_true h_8), (told_i64 (by omega) (by omega)), (by omega), (by (with_reducible refine get_map ?_; omega)), (by kernel_rfl), (by (simp only [List.length_append, List.length_cons, List.length_nil]; omega)), (by (with_reducible assumption)), (by (with_reducible refine get_map ?_; omega)), (by kernel_rfl), (by (simp only [List.length_append, List.length_cons, List.length_nil]; omega)), (con134 (rs[(i_0 - (1:Int)).toNat]!) (rs[i_0.toNat]!) ?g3 ?g4), (by kernel_rfl), (by simp only [eq_true h_8, told_simp1, told_simp2, and_true, true_and, and_false, false_and, or_true, true_or, or_false, false_or, not_true_eq_false, not_false_eq_true, decide_true, decide_false, Bool.decide_eq_true])⟩ ?_; rotate_left 2
 exact ⟨rfl, by kernel_rfl⟩
 refine ra (A := _ ∧ (AV.b false = AV.b (decide ((0:Int) < i_0 ∧ (0:Int) ≤ cmpRec rs[(i_0 - (1:Int)).toNat]! rs[i_0.toNat]!)))) cx [(1, { tell := some (.b (false)) }), (14, { tell := some (.b (decide ((0:Int) < i_0 ∧ (0:Int) ≤ cmpRec rs[(i_0 - (1:Int)).toNat]! rs[i_0.toNat]!))) })] [0, 3, 30] [] ⟨(told_false h_8), (by simp only [eq_false h_8, told_simp1, told_simp2, and_true, true_and, and_false, false_and, or_true, true_or, or_false, false_or, not_true_eq_false, not_false_eq_true, decide_true, decide_false, Bool.decide_eq_true])⟩ ?_
 exact ⟨rfl, by kernel_rfl⟩
 refine sn ?_
 refine st_dec ((0:Int) < i_0 ∧ (0:Int) ≤ cmpRec rs[(i_0 - (1:Int)).toNat]! rs[i_0.toNat]!) (by kernel_rfl) (by kernel_rfl) (fun h_9 => ?_) (fun h_9 => ?_)
 refine sq ?_
 refine rg (A := True) cx [] [2] [] trivial ?_
 refine sn ?_
 refine st_ret (by kernel_rfl) ?_
 refine q_blk_ret ?_
 refine q_seq_ret ?_
 refine q_seq_ret ?_
 refine q_blk_ret ?_
 refine q_seq_ret ?_
 refine q_ret (r := .i .i64 ((1:Int))) (obl := []) (by kernel_rfl) trivial (AVle.eq (show AV.i .i64 (1:Int) = AV.i .i64 (recE rs) from ?g5)); rotate_left 1
 refine st_skip (by kernel_rfl) ?_
 refine q_blk_normal ?_
 refine sn ?_
 refine rg (A := (AV.i .i64 (IntKind.i64.wrap (i_0 + (1:Int))) = AV.i .i64 (i_0 + (1:Int)))) cx [(1, { tell := some (.i .i64 (i_0 + (1:Int))) })] [0, 3] [] (told_i64 (by omega) (by omega)) ?_
 refine sn ?_
 refine loop_next (i_0 + (1:Int)) (by kernel_rfl) (show ((↑rs.length:Int) - (i_0 + (1:Int))).toNat < ((↑rs.length:Int) - i_0).toNat from (by omega)) (show invKc rs (i_0 + (1:Int)) from ?g6); rotate_left 1
 refine st_exit 0 (by kernel_rfl) ?_
 refine q_seq_exit ?_
 refine q_seq_exit ?_
 refine q_blk_hit ?_
 refine sn (sq ?_)
 refine rg (A := True) cx [] [2] [] trivial ?_
 refine sn ?_
 refine st_ret (by kernel_rfl) ?_
 refine q_ret (r := .i .i64 ((0:Int))) (obl := []) (by kernel_rfl) trivial (AVle.eq (show AV.i .i64 (0:Int) = AV.i .i64 (recE rs) from ?g7)); rotate_left 1
 rotate_left
 revert i_0 h_2 h_3 h_4 h_5; rotate_left
 revert i_0 h_2 h_3 h_4 h_5 h_6; rotate_left
 revert i_0 h_2 h_3 h_4 h_5 h_6 h_8; rotate_left
 revert i_0 h_2 h_3 h_4 h_5 h_6 h_8; rotate_left
 revert i_0 h_2 h_3 h_4 h_5 h_6 h_9; rotate_left
 revert i_0 h_2 h_3 h_4 h_5 h_6 h_9; rotate_left
 revert i_0 h_2 h_3 h_4 h_5; rotate_left
 case g0 => exact ⟨by omega, by omega, fun j hj => by omega⟩
 case g1 => intro i h0 h1 h2 h3; exact szQ_at hb h0 h3
 case g2 =>
  intro i h0 h1 h2 h3 h4
  rw [recE_bad (i := i.toNat) (by omega)]
  rw [okRs_iff]
  exact fun c => h4 c.1
 case g3 => intro i h0 h1 h2 h3 h4 h5; exact (szQ_at' hb h5 h3).1
 case g4 => intro i h0 h1 h2 h3 h4 h5; exact (szQ_at hb h0 h3).1
 case g5 =>
  intro i h0 h1 h2 h3 h4 h5
  rw [recE_bad (i := i.toNat) (by omega)]
  rw [e h0] at h5
  rw [okRs_iff]
  rintro ⟨a, b⟩
  omega
 case g6 =>
  intro i h0 h1 h2 h3 h4 h5
  rw [e h0] at h5
  refine invKc_step h0 h3 h2 ((okRs_iff _ _).2 ⟨Classical.not_not.1 h4, ?_⟩)
  by_cases c : i.toNat = 0
  ·exact .inl c
  ·exact .inr (Classical.byContradiction fun a => h5 ⟨by omega, by omega⟩)
 case g7 => intro i h0 h1 h2 h3; rw [recE_ok fun j hj => h2 j (by omega)]
end Go.Proofs.YtaiepnaokhpmcaaGreat
namespace Go.Proofs.YtaiepnaokhpmcaaGreat
open Go.E
set_option maxRecDepth 100000
set_option maxHeartbeats 4000000
theorem okF_is (f : Facts) : ∃ b : Bool, b = decide (lstE f.adds = 0 ∧ f.gone = normP f.gone ∧ recE f.recs = 0) := ⟨_, rfl⟩
noncomputable def okF (f : Facts) : Bool := Classical.choose (okF_is f)
theorem okF_eq (f : Facts) : okF f = decide (lstE f.adds = 0 ∧ f.gone = normP f.gone ∧ recE f.recs = 0) := Classical.choose_spec (okF_is f)
def szF (f : Facts) : Prop := szP f.gone ∧ szQ f.recs
end Go.Proofs.YtaiepnaokhpmcaaGreat
