/- Ga: goods: is a text a SKU. Conditions: none. Kp: records: their order and form, in plain words. Conditions: none. Pk: span.Size, span.Last, past.Size, Empty, Last, Next. Conditions: sizes. Ka: keep.CheckRecord, Compare, Check. Conditions: sizes. Ra: the document's past: dots, Has, Same, sorted. Conditions: sizes. Rb: the document's turns: sorted (by halves). Conditions: sizes. Rt: the document's turns, in plain words: a sweep over where runs begin and end. Conditions: none. Rk: turns: how many there are, the last. Conditions: none. Rp: two lists of turns put together by a rule, in plain words. Conditions: none. Rd: the document's turns. Conditions: sizes. Re: the document's Mean. Conditions: sizes. -/
import Derived.Below
import Derived.OwnWalk
import Derived.WalkKit
import Derived.KernelRfl
import Derived.Laws.MakeOwn
import Derived.Laws.OwnMore
import Derived.Laws.Slices
import Derived.Laws.CopyOwn
import Derived.Laws.AppendOwnNone
import Derived.Laws.Rows
import Derived.Orders
import Derived.Test.YtaiepnaokhpmcaaGreatProg
import Derived.DataReads
import Derived.ChangeOld
import Derived.DataElems
import Derived.SizedLaws
import Derived.ChangeKeysEq
import Derived.Sort.LotA
import Derived.Shelf.SlSortFuncK.RowK2
import Derived.Shelf.SlSortCmp.NoneTotal
import Derived.Lib.Walk
import Derived.Shelf.SlLaysE0
import Derived.Shelf.RegionOpenPlain
import Derived.Deep.LoopGhost
import Derived.Lib.SliceRun
import Derived.Lib.Bytealg
import Derived.Test.YtaiepnaokhpmcaaGreatZz3
set_option linter.unusedVariables false
set_option linter.unusedSimpArgs false
namespace Go.Proofs.YtaiepnaokhpmcaaGreat
open Go.E
set_option maxRecDepth 100000
set_option maxHeartbeats 4000000
def isLet (c:Int) : Bool := decide (65 ≤ c ∧ c ≤ 90)
def isDig (c:Int) : Bool := decide (48 ≤ c ∧ c ≤ 57)
def isMrk (c:Int) : Bool := decide (c = 45 ∨ c = 46)
def standsB (s : ByteArray) (i:Nat) : Bool := isLet (byt s i) || isDig (byt s i) || (isMrk (byt s i) && decide (i ≠ 0 ∧ i + 1 ≠ s.size) && !isMrk (byt s (i - 1)))
def allUp (p : Nat → Bool) : Nat → Bool
 | 0 => true
 | n + 1 => allUp p n && p n
theorem allUp_iff (p : Nat → Bool) : ∀ n, allUp p n = true ↔ ∀ i, i < n → p i = true
 | 0 => by simp [allUp]
 | n + 1 => by
  rw [allUp, Bool.and_eq_true, allUp_iff p n]
  constructor
  ·rintro ⟨h1, h2⟩ i hi
   by_cases e : i = n
   ·rw [e]; exact h2
   ·exact h1 i (by omega)
  ·intro h; exact ⟨fun i hi => h i (by omega), h n (by omega)⟩
def chkE (s : ByteArray) : Int := if s.size = 0 then 20 else if 24 < s.size then 21 else if allUp (standsB s) s.size = true then 0 else 22
def good (s : ByteArray) : Bool := decide (chkE s = 0)
def invG (s : ByteArray) (i:Int) : Prop := 0 ≤ i ∧ i ≤ s.size ∧ ∀ j : Nat, (j:Int) < i → standsB s j = true
def decG (s : ByteArray) (i:Int) : Nat := (s.size - i).toNat
theorem chkE_bad {s : ByteArray} (h0 : ¬ s.size = 0) (h1 : ¬ 24 < s.size) {i : Nat} (hi : i < s.size) (h : standsB s i = false) : chkE s = 22 := by
 unfold chkE
 rw [if_neg h0, if_neg h1, if_neg]
 intro k
 have := (allUp_iff _ _).1 k i hi
 rw [h] at this; cases this
theorem chkE_ok {s : ByteArray} (h0 : ¬ s.size = 0) (h1 : ¬ 24 < s.size) (h : ∀ j : Nat, j < s.size → standsB s j = true) : chkE s = 0 := by
 unfold chkE
 rw [if_neg h0, if_neg h1, if_pos ((allUp_iff _ _).2 h)]
theorem size_zero (s : ByteArray) : s.size = 0 ↔ s = ⟨#[]⟩ := by
 constructor
 ·intro h; exact ByteArray.ext (Array.eq_empty_of_size_eq_zero h)
 ·rintro rfl; rfl
theorem stands_iff (s : ByteArray) (i:Nat) : standsB s i = true ↔ isLet (byt s i) = true ∨ isDig (byt s i) = true ∨ (isMrk (byt s i) = true ∧ i ≠ 0 ∧ i + 1 ≠ s.size ∧ ¬ isMrk (byt s (i - 1)) = true) := by
 unfold standsB
 cases isLet (byt s i) <;> cases isDig (byt s i) <;> cases isMrk (byt s i) <;> cases isMrk (byt s (i - 1)) <;> simp
theorem invG_step {s : ByteArray} {i : Int} (h0 : 0 ≤ i) (h1 : i < s.size) (h2 : ∀ j : Nat, (j:Int) < i → standsB s j = true) (h : standsB s i.toNat = true) : invG s (i + 1) :=
 ⟨by omega, by omega, fun j hj => by
  by_cases e : j = i.toNat
  ·rw [e]; exact h
  ·exact h2 j (by omega)⟩
theorem not_stands {s : ByteArray} {i : Nat} (h : ¬ standsB s i = true) : standsB s i = false := by simpa using h
theorem con201 (c:Int) : Con Tryz.prog 201 [.i .u8 c] (.b (isLet c)) :=
 by
 refine st_con tab_ok (by kernel_rfl) [.tmp 2] 9 Go.Proofs.Tryz.func201 (by kernel_rfl) (by kernel_rfl) ?_
 intro e0 cx
 refine sq ?_
 refine rg (A := True) cx [] [0] [] trivial ?_
 refine sn (sq ?_)
 refine st_join (σ' := ⟨[(2, .b (decide ((65:Int) ≤ c ∧ c ≤ (90:Int))))], []⟩) ?_ ?_
 refine st_split ((65:Int) ≤ c) (fun h_1 => ?_) (fun h_1 => ?_)
 refine rg (A := _ ∧ (AV.b (decide (c ≤ (90:Int))) = AV.b (decide (c ≤ (90:Int)))) ∧ (AV.b (decide (c ≤ (90:Int))) = AV.b (decide ((65:Int) ≤ c ∧ c ≤ (90:Int))))) cx [(1, { tell := some (.b (true)) }), (4, { tell := some (.b (decide (c ≤ (90:Int)))) }), (6, { tell := some (.b (decide ((65:Int) ≤ c ∧ c ≤ (90:Int)))) })] [2] [] ⟨(told_true h_1), (by kernel_rfl), (by simp only [eq_true h_1, told_simp1, told_simp2, and_true, true_and, and_false, false_and, or_true, true_or, or_false, false_or, not_true_eq_false, not_false_eq_true, decide_true, decide_false, Bool.decide_eq_true])⟩ ?_
 exact ⟨rfl, by kernel_rfl⟩
 refine rg (A := _ ∧ (AV.b false = AV.b (decide ((65:Int) ≤ c ∧ c ≤ (90:Int))))) cx [(1, { tell := some (.b (false)) }), (6, { tell := some (.b (decide ((65:Int) ≤ c ∧ c ≤ (90:Int)))) })] [2] [] ⟨(told_false h_1), (by simp only [eq_false h_1, told_simp1, told_simp2, and_true, true_and, and_false, false_and, or_true, true_or, or_false, false_or, not_true_eq_false, not_false_eq_true, decide_true, decide_false, Bool.decide_eq_true])⟩ ?_
 exact ⟨rfl, by kernel_rfl⟩
 refine sn ?_
 refine st_ret (by kernel_rfl) ?_
 refine q_ret (r := .b (decide ((65:Int) ≤ c ∧ c ≤ (90:Int)))) (obl := []) (by kernel_rfl) trivial (AVle.eq (show AV.b (decide ((65:Int) ≤ c ∧ c ≤ (90:Int))) = AV.b (isLet c) from ?g0)); rotate_left 1
 case g0 => exact rfl
theorem con202 (c:Int) : Con Tryz.prog 202 [.i .u8 c] (.b (isDig c)) :=
 by
 refine st_con tab_ok (by kernel_rfl) [.tmp 2] 9 Go.Proofs.Tryz.func202 (by kernel_rfl) (by kernel_rfl) ?_
 intro e0 cx
 refine sq ?_
 refine rg (A := True) cx [] [0] [] trivial ?_
 refine sn (sq ?_)
 refine st_join (σ' := ⟨[(2, .b (decide ((48:Int) ≤ c ∧ c ≤ (57:Int))))], []⟩) ?_ ?_
 refine st_split ((48:Int) ≤ c) (fun h_1 => ?_) (fun h_1 => ?_)
 refine rg (A := _ ∧ (AV.b (decide (c ≤ (57:Int))) = AV.b (decide (c ≤ (57:Int)))) ∧ (AV.b (decide (c ≤ (57:Int))) = AV.b (decide ((48:Int) ≤ c ∧ c ≤ (57:Int))))) cx [(1, { tell := some (.b (true)) }), (4, { tell := some (.b (decide (c ≤ (57:Int)))) }), (6, { tell := some (.b (decide ((48:Int) ≤ c ∧ c ≤ (57:Int)))) })] [2] [] ⟨(told_true h_1), (by kernel_rfl), (by simp only [eq_true h_1, told_simp1, told_simp2, and_true, true_and, and_false, false_and, or_true, true_or, or_false, false_or, not_true_eq_false, not_false_eq_true, decide_true, decide_false, Bool.decide_eq_true])⟩ ?_
 exact ⟨rfl, by kernel_rfl⟩
 refine rg (A := _ ∧ (AV.b false = AV.b (decide ((48:Int) ≤ c ∧ c ≤ (57:Int))))) cx [(1, { tell := some (.b (false)) }), (6, { tell := some (.b (decide ((48:Int) ≤ c ∧ c ≤ (57:Int)))) })] [2] [] ⟨(told_false h_1), (by simp only [eq_false h_1, told_simp1, told_simp2, and_true, true_and, and_false, false_and, or_true, true_or, or_false, false_or, not_true_eq_false, not_false_eq_true, decide_true, decide_false, Bool.decide_eq_true])⟩ ?_
 exact ⟨rfl, by kernel_rfl⟩
 refine sn ?_
 refine st_ret (by kernel_rfl) ?_
 refine q_ret (r := .b (decide ((48:Int) ≤ c ∧ c ≤ (57:Int)))) (obl := []) (by kernel_rfl) trivial (AVle.eq (show AV.b (decide ((48:Int) ≤ c ∧ c ≤ (57:Int))) = AV.b (isDig c) from ?g0)); rotate_left 1
 case g0 => exact rfl
theorem con203 (c:Int) : Con Tryz.prog 203 [.i .u8 c] (.b (isMrk c)) :=
 by
 refine st_con tab_ok (by kernel_rfl) [.tmp 2] 9 Go.Proofs.Tryz.func203 (by kernel_rfl) (by kernel_rfl) ?_
 intro e0 cx
 refine sq ?_
 refine rg (A := True) cx [] [0] [] trivial ?_
 refine sn (sq ?_)
 refine st_join (σ' := ⟨[(2, .b (decide (c = (45:Int) ∨ c = (46:Int))))], []⟩) ?_ ?_
 refine st_split (c = (45:Int)) (fun h_1 => ?_) (fun h_1 => ?_)
 refine rg (A := _ ∧ (AV.b true = AV.b (decide (c = (45:Int) ∨ c = (46:Int))))) cx [(1, { tell := some (.b (true)) }), (6, { tell := some (.b (decide (c = (45:Int) ∨ c = (46:Int)))) })] [2] [] ⟨(told_true h_1), (by simp only [eq_true h_1, told_simp1, told_simp2, and_true, true_and, and_false, false_and, or_true, true_or, or_false, false_or, not_true_eq_false, not_false_eq_true, decide_true, decide_false, Bool.decide_eq_true])⟩ ?_
 exact ⟨rfl, by kernel_rfl⟩
 refine rg (A := _ ∧ (AV.b (c == (46:Int)) = AV.b (decide (c = (46:Int)))) ∧ (AV.b (decide (c = (46:Int))) = AV.b (decide (c = (45:Int) ∨ c = (46:Int))))) cx [(1, { tell := some (.b (false)) }), (4, { tell := some (.b (decide (c = (46:Int)))) }), (6, { tell := some (.b (decide (c = (45:Int) ∨ c = (46:Int)))) })] [2] [] ⟨(told_false h_1), (by kernel_rfl), (by simp only [eq_false h_1, told_simp1, told_simp2, and_true, true_and, and_false, false_and, or_true, true_or, or_false, false_or, not_true_eq_false, not_false_eq_true, decide_true, decide_false, Bool.decide_eq_true])⟩ ?_
 exact ⟨rfl, by kernel_rfl⟩
 refine sn ?_
 refine st_ret (by kernel_rfl) ?_
 refine q_ret (r := .b (decide (c = (45:Int) ∨ c = (46:Int)))) (obl := []) (by kernel_rfl) trivial (AVle.eq (show AV.b (decide (c = (45:Int) ∨ c = (46:Int))) = AV.b (isMrk c) from ?g0)); rotate_left 1
 case g0 => exact rfl
theorem con232 (c:Int) : Con Tryz.prog 232 [.i .u8 c] (.b (isLet c)) :=
 by
 refine st_con tab_ok (by kernel_rfl) [.tmp 2] 9 Go.Proofs.Tryz.func232 (by kernel_rfl) (by kernel_rfl) ?_
 intro e0 cx
 refine sq ?_
 refine rg (A := True) cx [] [0] [] trivial ?_
 refine sn (sq ?_)
 refine st_join (σ' := ⟨[(2, .b (decide ((65:Int) ≤ c ∧ c ≤ (90:Int))))], []⟩) ?_ ?_
 refine st_split ((65:Int) ≤ c) (fun h_1 => ?_) (fun h_1 => ?_)
 refine rg (A := _ ∧ (AV.b (decide (c ≤ (90:Int))) = AV.b (decide (c ≤ (90:Int)))) ∧ (AV.b (decide (c ≤ (90:Int))) = AV.b (decide ((65:Int) ≤ c ∧ c ≤ (90:Int))))) cx [(1, { tell := some (.b (true)) }), (4, { tell := some (.b (decide (c ≤ (90:Int)))) }), (6, { tell := some (.b (decide ((65:Int) ≤ c ∧ c ≤ (90:Int)))) })] [2] [] ⟨(told_true h_1), (by kernel_rfl), (by simp only [eq_true h_1, told_simp1, told_simp2, and_true, true_and, and_false, false_and, or_true, true_or, or_false, false_or, not_true_eq_false, not_false_eq_true, decide_true, decide_false, Bool.decide_eq_true])⟩ ?_
 exact ⟨rfl, by kernel_rfl⟩
 refine rg (A := _ ∧ (AV.b false = AV.b (decide ((65:Int) ≤ c ∧ c ≤ (90:Int))))) cx [(1, { tell := some (.b (false)) }), (6, { tell := some (.b (decide ((65:Int) ≤ c ∧ c ≤ (90:Int)))) })] [2] [] ⟨(told_false h_1), (by simp only [eq_false h_1, told_simp1, told_simp2, and_true, true_and, and_false, false_and, or_true, true_or, or_false, false_or, not_true_eq_false, not_false_eq_true, decide_true, decide_false, Bool.decide_eq_true])⟩ ?_
 exact ⟨rfl, by kernel_rfl⟩
 refine sn ?_
 refine st_ret (by kernel_rfl) ?_
 refine q_ret (r := .b (decide ((65:Int) ≤ c ∧ c ≤ (90:Int)))) (obl := []) (by kernel_rfl) trivial (AVle.eq (show AV.b (decide ((65:Int) ≤ c ∧ c ≤ (90:Int))) = AV.b (isLet c) from ?g0)); rotate_left 1
 case g0 => exact rfl
theorem con233 (c:Int) : Con Tryz.prog 233 [.i .u8 c] (.b (isDig c)) :=
 by
 refine st_con tab_ok (by kernel_rfl) [.tmp 2] 9 Go.Proofs.Tryz.func233 (by kernel_rfl) (by kernel_rfl) ?_
 intro e0 cx
 refine sq ?_
 refine rg (A := True) cx [] [0] [] trivial ?_
 refine sn (sq ?_)
 refine st_join (σ' := ⟨[(2, .b (decide ((48:Int) ≤ c ∧ c ≤ (57:Int))))], []⟩) ?_ ?_
 refine st_split ((48:Int) ≤ c) (fun h_1 => ?_) (fun h_1 => ?_)
 refine rg (A := _ ∧ (AV.b (decide (c ≤ (57:Int))) = AV.b (decide (c ≤ (57:Int)))) ∧ (AV.b (decide (c ≤ (57:Int))) = AV.b (decide ((48:Int) ≤ c ∧ c ≤ (57:Int))))) cx [(1, { tell := some (.b (true)) }), (4, { tell := some (.b (decide (c ≤ (57:Int)))) }), (6, { tell := some (.b (decide ((48:Int) ≤ c ∧ c ≤ (57:Int)))) })] [2] [] ⟨(told_true h_1), (by kernel_rfl), (by simp only [eq_true h_1, told_simp1, told_simp2, and_true, true_and, and_false, false_and, or_true, true_or, or_false, false_or, not_true_eq_false, not_false_eq_true, decide_true, decide_false, Bool.decide_eq_true])⟩ ?_
 exact ⟨rfl, by kernel_rfl⟩
 refine rg (A := _ ∧ (AV.b false = AV.b (decide ((48:Int) ≤ c ∧ c ≤ (57:Int))))) cx [(1, { tell := some (.b (false)) }), (6, { tell := some (.b (decide ((48:Int) ≤ c ∧ c ≤ (57:Int)))) })] [2] [] ⟨(told_false h_1), (by simp only [eq_false h_1, told_simp1, told_simp2, and_true, true_and, and_false, false_and, or_true, true_or, or_false, false_or, not_true_eq_false, not_false_eq_true, decide_true, decide_false, Bool.decide_eq_true])⟩ ?_
 exact ⟨rfl, by kernel_rfl⟩
 refine sn ?_
 refine st_ret (by kernel_rfl) ?_
 refine q_ret (r := .b (decide ((48:Int) ≤ c ∧ c ≤ (57:Int)))) (obl := []) (by kernel_rfl) trivial (AVle.eq (show AV.b (decide ((48:Int) ≤ c ∧ c ≤ (57:Int))) = AV.b (isDig c) from ?g0)); rotate_left 1
 case g0 => exact rfl
theorem con234 (c:Int) : Con Tryz.prog 234 [.i .u8 c] (.b (isMrk c)) :=
 by
 refine st_con tab_ok (by kernel_rfl) [.tmp 2] 9 Go.Proofs.Tryz.func234 (by kernel_rfl) (by kernel_rfl) ?_
 intro e0 cx
 refine sq ?_
 refine rg (A := True) cx [] [0] [] trivial ?_
 refine sn (sq ?_)
 refine st_join (σ' := ⟨[(2, .b (decide (c = (45:Int) ∨ c = (46:Int))))], []⟩) ?_ ?_
 refine st_split (c = (45:Int)) (fun h_1 => ?_) (fun h_1 => ?_)
 refine rg (A := _ ∧ (AV.b true = AV.b (decide (c = (45:Int) ∨ c = (46:Int))))) cx [(1, { tell := some (.b (true)) }), (6, { tell := some (.b (decide (c = (45:Int) ∨ c = (46:Int)))) })] [2] [] ⟨(told_true h_1), (by simp only [eq_true h_1, told_simp1, told_simp2, and_true, true_and, and_false, false_and, or_true, true_or, or_false, false_or, not_true_eq_false, not_false_eq_true, decide_true, decide_false, Bool.decide_eq_true])⟩ ?_
 exact ⟨rfl, by kernel_rfl⟩
 refine rg (A := _ ∧ (AV.b (c == (46:Int)) = AV.b (decide (c = (46:Int)))) ∧ (AV.b (decide (c = (46:Int))) = AV.b (decide (c = (45:Int) ∨ c = (46:Int))))) cx [(1, { tell := some (.b (false)) }), (4, { tell := some (.b (decide (c = (46:Int)))) }), (6, { tell := some (.b (decide (c = (45:Int) ∨ c = (46:Int)))) })] [2] [] ⟨(told_false h_1), (by kernel_rfl), (by simp only [eq_false h_1, told_simp1, told_simp2, and_true, true_and, and_false, false_and, or_true, true_or, or_false, false_or, not_true_eq_false, not_false_eq_true, decide_true, decide_false, Bool.decide_eq_true])⟩ ?_
 exact ⟨rfl, by kernel_rfl⟩
 refine sn ?_
 refine st_ret (by kernel_rfl) ?_
 refine q_ret (r := .b (decide (c = (45:Int) ∨ c = (46:Int)))) (obl := []) (by kernel_rfl) trivial (AVle.eq (show AV.b (decide (c = (45:Int) ∨ c = (46:Int))) = AV.b (isMrk c) from ?g0)); rotate_left 1
 case g0 => exact rfl
theorem con199 (s : ByteArray) (i:Int) (h0 : 0 ≤ i) (h1 : i < s.size) (h2 : s.size ≤ 24) : Con Tryz.prog 199 [.s s, .i .i64 i] (.b (standsB s i.toNat)) :=
 by
 refine st_con tab_ok (by kernel_rfl) [.tmp 4] 33 Go.Proofs.Tryz.func199 (by kernel_rfl) (by kernel_rfl) ?_
 intro e0 cx
 refine sq ?_
 refine rg (A := True) cx [] [0, 1] [] trivial ?_
 refine sn (sq ?_)
 have hl_0 := (rng_byt s)
 have hl_1 := (rng_byt s i.toNat)
 refine rg (A := ((0:Int) ≤ i) ∧ (Option.map (fun b ↦ (↑b.toNat:Int)) s[i.toNat]? = some (byt s i.toNat))) cx [(2, { val := some (.i .u8 (byt s i.toNat)) })] [0, 1, 5] [] ⟨(by (with_reducible assumption)), (by (with_reducible refine get_byt ?_; omega))⟩ ?_
 refine sn (sq ?_)
 refine sq ?_
 refine st_join (σ' := ⟨[(0, .s (s)), (1, .i .i64 (i)), (5, .i .u8 (byt s i.toNat)), (14, .b (decide (isLet (byt s i.toNat) = true ∨ isDig (byt s i.toNat) = true)))], []⟩) ?_ ?_
 refine st_split (isLet (byt s i.toNat) = true) (fun h_3 => ?_) (fun h_3 => ?_)
 refine rg (A := _ ∧ _ ∧ (AV.b true = AV.b (decide (isLet (byt s i.toNat) = true ∨ isDig (byt s i.toNat) = true)))) cx [(1, { val := some (.b (isLet (byt s i.toNat))), tell := some (.b (true)) }), (5, { tell := some (.b (decide (isLet (byt s i.toNat) = true ∨ isDig (byt s i.toNat) = true))) })] [0, 1, 5, 14] [] ⟨(told_eqt h_3), (con232 (byt s i.toNat)), (by simp only [eq_true h_3, told_simp1, told_simp2, and_true, true_and, and_false, false_and, or_true, true_or, or_false, false_or, not_true_eq_false, not_false_eq_true, decide_true, decide_false, Bool.decide_eq_true])⟩ ?_
 exact ⟨rfl, by kernel_rfl⟩
 refine rg (A := _ ∧ _ ∧ _ ∧ (AV.b (isDig (byt s i.toNat)) = AV.b (decide (isLet (byt s i.toNat) = true ∨ isDig (byt s i.toNat) = true)))) cx [(1, { val := some (.b (isLet (byt s i.toNat))), tell := some (.b (false)) }), (4, { val := some (.b (isDig (byt s i.toNat))) }), (5, { tell := some (.b (decide (isLet (byt s i.toNat) = true ∨ isDig (byt s i.toNat) = true))) })] [0, 1, 5, 14] [] ⟨(told_eqn h_3), (con232 (byt s i.toNat)), (con233 (byt s i.toNat)), (by simp only [eq_false h_3, told_simp1, told_simp2, and_true, true_and, and_false, false_and, or_true, true_or, or_false, false_or, not_true_eq_false, not_false_eq_true, decide_true, decide_false, Bool.decide_eq_true])⟩ ?_
 exact ⟨rfl, by kernel_rfl⟩
 refine sn ?_
 refine st_dec (isLet (byt s i.toNat) = true ∨ isDig (byt s i.toNat) = true) (by kernel_rfl) (by kernel_rfl) (fun h_4 => ?_) (fun h_4 => ?_)
 refine sq ?_
 refine rg (A := True) cx [] [4] [] trivial ?_
 refine sn ?_
 refine st_ret (by kernel_rfl) ?_
 refine q_seq_ret ?_
 refine q_ret (r := .b (true)) (obl := []) (by kernel_rfl) trivial (AVle.eq (show AV.b true = AV.b (standsB s i.toNat) from ?g0)); rotate_left 1
 refine st_skip (by kernel_rfl) ?_
 refine sn (sq ?_)
 refine sq ?_
 refine rg (A := _ ∧ ((AV.b !isMrk (byt s i.toNat)) = AV.b (decide ¬isMrk (byt s i.toNat) = true))) cx [(1, { val := some (.b (isMrk (byt s i.toNat))) }), (2, { tell := some (.b (decide ¬isMrk (byt s i.toNat) = true)) })] [0, 1, 17] [] ⟨(con234 (byt s i.toNat)), (told_not)⟩ ?_
 refine sn ?_
 refine st_dec (¬isMrk (byt s i.toNat) = true) (by kernel_rfl) (by kernel_rfl) (fun h_5 => ?_) (fun h_5 => ?_)
 refine sq ?_
 refine rg (A := True) cx [] [4] [] trivial ?_
 refine sn ?_
 refine st_ret (by kernel_rfl) ?_
 refine q_seq_ret ?_
 refine q_ret (r := .b (false)) (obl := []) (by kernel_rfl) trivial (AVle.eq (show AV.b false = AV.b (standsB s i.toNat) from ?g1)); rotate_left 1
 refine st_skip (by kernel_rfl) ?_
 refine sn (sq ?_)
 refine sq ?_
 refine st_join (σ' := ⟨[(0, .s (s)), (1, .i .i64 (i)), (26, .b (decide (i = (0:Int) ∨ i = (↑s.size:Int) - (1:Int))))], []⟩) ?_ ?_
 refine st_split (i = (0:Int)) (fun h_7 => ?_) (fun h_7 => ?_)
 refine rg (A := _ ∧ (AV.b true = AV.b (decide (i = (0:Int) ∨ i = (↑s.size:Int) - (1:Int))))) cx [(1, { tell := some (.b (true)) }), (8, { tell := some (.b (decide (i = (0:Int) ∨ i = (↑s.size:Int) - (1:Int)))) })] [0, 1, 26] [] ⟨(told_true h_7), (by simp only [eq_true h_7, told_simp1, told_simp2, and_true, true_and, and_false, false_and, or_true, true_or, or_false, false_or, not_true_eq_false, not_false_eq_true, decide_true, decide_false, Bool.decide_eq_true])⟩ ?_
 exact ⟨rfl, by kernel_rfl⟩
 refine rg (A := _ ∧ (AV.i .i64 (IntKind.i64.wrap ((↑s.size:Int) - (1:Int))) = AV.i .i64 ((↑s.size:Int) - (1:Int))) ∧ (AV.b (i == (↑s.size:Int) - (1:Int)) = AV.b (decide (i = (↑s.size:Int) - (1:Int)))) ∧ (AV.b (decide (i = (↑s.size:Int) - (1:Int))) = AV.b (decide (i = (0:Int) ∨ i = (↑s.size:Int) - (1:Int))))) cx [(1, { tell := some (.b (false)) }), (6, { tell := some (.i .i64 ((↑s.size:Int) - (1:Int))) }), (7, { tell := some (.b (decide (i = (↑s.size:Int) - (1:Int)))) }), (8, { tell := some (.b (decide (i = (0:Int) ∨ i = (↑s.size:Int) - (1:Int)))) })] [0, 1, 26] [] ⟨(told_false h_7), (told_i64 (by omega) (by omega)), (by kernel_rfl), (by simp only [eq_false h_7, told_simp1, told_simp2, and_true, true_and, and_false, false_and, or_true, true_or, or_false, false_or, not_true_eq_false, not_false_eq_true, decide_true, decide_false, Bool.decide_eq_true])⟩ ?_
 exact ⟨rfl, by kernel_rfl⟩
 refine sn ?_
 refine st_dec (i = (0:Int) ∨ i = (↑s.size:Int) - (1:Int)) (by kernel_rfl) (by kernel_rfl) (fun h_8 => ?_) (fun h_8 => ?_)
 refine sq ?_
 refine rg (A := True) cx [] [4] [] trivial ?_
 refine sn ?_
 refine st_ret (by kernel_rfl) ?_
 refine q_seq_ret ?_
 refine q_ret (r := .b (false)) (obl := []) (by kernel_rfl) trivial (AVle.eq (show AV.b false = AV.b (standsB s i.toNat) from ?g2)); rotate_left 1
 refine st_skip (by kernel_rfl) ?_
 refine sn (sq ?_)
 have hl_9 := (rng_byt s (i - (1:Int)).toNat)
 refine rg (A := (AV.i .i64 (IntKind.i64.wrap (i - (1:Int))) = AV.i .i64 (i - (1:Int))) ∧ ((0:Int) ≤ i - (1:Int)) ∧ (Option.map (fun b ↦ (↑b.toNat:Int)) s[(i - (1:Int)).toNat]? = some (byt s (i - (1:Int)).toNat)) ∧ _ ∧ ((AV.b !isMrk (byt s (i - (1:Int)).toNat)) = AV.b (decide ¬isMrk (byt s (i - (1:Int)).toNat) = true))) cx [(2, { tell := some (.i .i64 (i - (1:Int))) }), (3, { val := some (.i .u8 (byt s (i - (1:Int)).toNat)) }), (4, { val := some (.b (isMrk (byt s (i - (1:Int)).toNat))) }), (5, { tell := some (.b (decide ¬isMrk (byt s (i - (1:Int)).toNat) = true)) })] [4] [] ⟨(told_i64 (by omega) (by omega)), (by omega), (by (with_reducible refine get_byt ?_; omega)), (con234 (byt s (i - (1:Int)).toNat)), (told_not)⟩ ?_
 refine sn ?_
 refine st_ret (by kernel_rfl) ?_
 refine q_ret (r := .b (decide ¬isMrk (byt s (i - (1:Int)).toNat) = true)) (obl := []) (by kernel_rfl) trivial (AVle.eq (show AV.b (decide ¬isMrk (byt s (i - (1:Int)).toNat) = true) = AV.b (standsB s i.toNat) from ?g3)); rotate_left 1
 revert h_4; rotate_left
 revert h_4 h_5; rotate_left
 revert h_4 h_5 h_8; rotate_left
 revert h_4 h_5 h_8; rotate_left
 case' g3 => refine (fun h k l => ?_)
 case' g2 => refine (fun h k l => ?_)
 case' g1 => refine (fun h k => ?_)
 case' g0 => refine (fun h => ?_)
 ·rw [(stands_iff s i.toNat).2 (h.elim .inl fun h => .inr (.inl h))]
 ·rw [not_stands]; rw [stands_iff]; rintro (a | a | a)
  ·exact h (.inl a)
  ·exact h (.inr a)
  ·exact k a.1
 ·rw [not_stands]; rw [stands_iff]; rintro (a | a | a)
  ·exact h (.inl a)
  ·exact h (.inr a)
  ·omega
 ·have e : (i - 1).toNat = i.toNat - 1 := by omega
  rw [e]
  by_cases m : isMrk (byt s (i.toNat - 1)) = true
  ·rw [not_stands]
   ·rw [m]; rfl
   ·rw [stands_iff]; rintro (a | a | a)
    ·exact h (.inl a)
    ·exact h (.inr a)
    ·exact a.2.2.2 m
  ·rw [(stands_iff s i.toNat).2 (.inr (.inr ⟨Classical.not_not.1 k, by omega, by omega, m⟩)), decide_eq_true m]
theorem con172 (s : ByteArray) : Con Tryz.prog 172 [.s s] (.tup [.dead, .i .i64 (chkE s)]) :=
 by
 refine st_con tab_ok (by kernel_rfl) [.tmp 2, .tmp 3] 48 Go.Proofs.Tryz.func172 (by kernel_rfl) (by kernel_rfl) ?_
 intro e0 cx
 refine sq ?_
 refine rg (A := True) cx [] [0] [] trivial ?_
 refine sn (sq ?_)
 refine sq ?_
 refine rg (A := (AV.b (s.toList == { data := #[] : ByteArray }.toList) = AV.b (decide (s = { data := #[] : ByteArray })))) cx [(1, { tell := some (.b (decide (s = { data := #[] : ByteArray }))) })] [0, 7] [] (told_seq) ?_
 refine sn ?_
 refine st_dec (s = { data := #[] : ByteArray }) (by kernel_rfl) (by kernel_rfl) (fun h_0 => ?_) (fun h_0 => ?_)
 refine sq ?_
 refine rg (A := True) cx [] [2, 3] [] trivial ?_
 refine sn ?_
 refine st_ret (by kernel_rfl) ?_
 refine q_seq_ret ?_
 refine q_ret (r := .tup [.i .i64 ((0:Int)), .i .i64 ((20:Int))]) (obl := []) (by kernel_rfl) trivial (AVle.tup (ZLe.cons AVle.dead (ZLe.cons (AVle.eq (show AV.i .i64 (20:Int) = AV.i .i64 (chkE s) from ?g0)) ZLe.nil))); rotate_left 1
 refine st_skip (by kernel_rfl) ?_
 refine sn (sq ?_)
 refine sq ?_
 refine rg (A := (AV.b (decide ((↑s.size:Int) > (24:Int))) = AV.b (decide ((24:Int) < (↑s.size:Int))))) cx [(2, { tell := some (.b (decide ((24:Int) < (↑s.size:Int)))) })] [0, 10] [] (by kernel_rfl) ?_
 refine sn ?_
 refine st_dec ((24:Int) < (↑s.size:Int)) (by kernel_rfl) (by kernel_rfl) (fun h_1 => ?_) (fun h_1 => ?_)
 refine sq ?_
 refine rg (A := True) cx [] [2, 3] [] trivial ?_
 refine sn ?_
 refine st_ret (by kernel_rfl) ?_
 refine q_seq_ret ?_
 refine q_ret (r := .tup [.i .i64 ((0:Int)), .i .i64 ((21:Int))]) (obl := []) (by kernel_rfl) trivial (AVle.tup (ZLe.cons AVle.dead (ZLe.cons (AVle.eq (show AV.i .i64 (21:Int) = AV.i .i64 (chkE s) from ?g1)) ZLe.nil))); rotate_left 1
 refine st_skip (by kernel_rfl) ?_
 refine sn (sq ?_)
 refine sq ?_
 refine rg (A := True) cx [] [0, 12, 13] [] trivial ?_
 refine sn ?_
 refine st_block 0 (by kernel_rfl) ?_
 refine st_loop (X := Int) (fun x => ⟨[(0, .s (s)), (12, .i .i64 ((↑s.size:Int))), (13, .i .i64 (x))], []⟩) (fun x ↦ decG s x) (fun x ↦ invG s x) [0, 12, 13] [] ((0:Int)) (by kernel_rfl) (by kernel_rfl) (show invG s (0:Int) from ?g2) ?_; rotate_left 1
 intro i_2 h_3
 obtain ⟨h_4, h_5, h_6⟩ : (0:Int) ≤ i_2 ∧ i_2 ≤ (↑s.size:Int) ∧ ∀ (j:Nat), (↑j:Int) < i_2 → standsB s j = true := h_3
 refine sq ?_
 refine rg (A := (AV.b (decide (i_2 < (↑s.size:Int))) = AV.b (decide (i_2 < (↑s.size:Int))))) cx [(0, { tell := some (.b (decide (i_2 < (↑s.size:Int)))) })] [0, 12, 13, 14] [] (by kernel_rfl) ?_
 refine sn (sq ?_)
 refine st_dec (i_2 < (↑s.size:Int)) (by kernel_rfl) (by kernel_rfl) (fun h_7 => ?_) (fun h_7 => ?_)
 refine st_skip (by kernel_rfl) ?_
 refine sn (sq ?_)
 refine st_block 1 (by kernel_rfl) ?_
 refine sq ?_
 refine rg (A := True) cx [] [0, 12, 13, 4] [] trivial ?_
 refine sn (sq ?_)
 have hl_8 := (rng_byt s)
 have hl_9 := (rng_byt s i_2.toNat)
 refine rg (A := ((0:Int) ≤ i_2) ∧ (Option.map (fun b ↦ (↑b.toNat:Int)) s[i_2.toNat]? = some (byt s i_2.toNat))) cx [(2, { val := some (.i .u8 (byt s i_2.toNat)) })] [0, 12, 13, 4, 5] [] ⟨(by (with_reducible assumption)), (by (with_reducible refine get_byt ?_; omega))⟩ ?_
 refine sn (sq ?_)
 refine sq ?_
 refine st_join (σ' := ⟨[(0, .s (s)), (12, .i .i64 ((↑s.size:Int))), (13, .i .i64 (i_2)), (4, .i .i64 (i_2)), (5, .i .u8 (byt s i_2.toNat)), (24, .b (decide (isLet (byt s i_2.toNat) = true ∨ isDig (byt s i_2.toNat) = true)))], []⟩) ?_ ?_
 refine st_split (isLet (byt s i_2.toNat) = true) (fun h_11 => ?_) (fun h_11 => ?_)
 refine rg (A := _ ∧ _ ∧ (AV.b true = AV.b (decide (isLet (byt s i_2.toNat) = true ∨ isDig (byt s i_2.toNat) = true)))) cx [(1, { val := some (.b (isLet (byt s i_2.toNat))), tell := some (.b (true)) }), (5, { tell := some (.b (decide (isLet (byt s i_2.toNat) = true ∨ isDig (byt s i_2.toNat) = true))) })] [0, 12, 13, 4, 5, 24] [] ⟨(told_eqt h_11), (con201 (byt s i_2.toNat)), (by simp only [eq_true h_11, told_simp1, told_simp2, and_true, true_and, and_false, false_and, or_true, true_or, or_false, false_or, not_true_eq_false, not_false_eq_true, decide_true, decide_false, Bool.decide_eq_true])⟩ ?_
 exact ⟨rfl, by kernel_rfl⟩
 refine rg (A := _ ∧ _ ∧ _ ∧ (AV.b (isDig (byt s i_2.toNat)) = AV.b (decide (isLet (byt s i_2.toNat) = true ∨ isDig (byt s i_2.toNat) = true)))) cx [(1, { val := some (.b (isLet (byt s i_2.toNat))), tell := some (.b (false)) }), (4, { val := some (.b (isDig (byt s i_2.toNat))) }), (5, { tell := some (.b (decide (isLet (byt s i_2.toNat) = true ∨ isDig (byt s i_2.toNat) = true))) })] [0, 12, 13, 4, 5, 24] [] ⟨(told_eqn h_11), (con201 (byt s i_2.toNat)), (con202 (byt s i_2.toNat)), (by simp only [eq_false h_11, told_simp1, told_simp2, and_true, true_and, and_false, false_and, or_true, true_or, or_false, false_or, not_true_eq_false, not_false_eq_true, decide_true, decide_false, Bool.decide_eq_true])⟩ ?_
 exact ⟨rfl, by kernel_rfl⟩
 refine sn ?_
 refine st_dec (isLet (byt s i_2.toNat) = true ∨ isDig (byt s i_2.toNat) = true) (by kernel_rfl) (by kernel_rfl) (fun h_12 => ?_) (fun h_12 => ?_)
 refine st_exit 1 (by kernel_rfl) ?_
 refine q_seq_exit ?_
 refine q_blk_hit ?_
 refine sn ?_
 refine rg (A := (AV.i .i64 (IntKind.i64.wrap (i_2 + (1:Int))) = AV.i .i64 (i_2 + (1:Int)))) cx [(0, { tell := some (.i .i64 (i_2 + (1:Int))) })] [0, 12, 13] [] (told_i64 (by omega) (by omega)) ?_
 refine sn ?_
 refine loop_next (i_2 + (1:Int)) (by kernel_rfl) (show ((↑s.size:Int) - (i_2 + (1:Int))).toNat < ((↑s.size:Int) - i_2).toNat from (by omega)) (show invG s (i_2 + (1:Int)) from ?g3); rotate_left 1
 refine st_skip (by kernel_rfl) ?_
 refine sn (sq ?_)
 refine st_join (σ' := ⟨[(0, .s (s)), (12, .i .i64 ((↑s.size:Int))), (13, .i .i64 (i_2)), (4, .i .i64 (i_2)), (45, .b (decide (¬isMrk (byt s i_2.toNat) = true ∨ i_2 = (0:Int) ∨ i_2 = (↑s.size:Int) - (1:Int) ∨ isMrk (byt s (i_2 - (1:Int)).toNat) = true)))], []⟩) ?_ ?_
 refine st_split (¬isMrk (byt s i_2.toNat) = true) (fun h_14 => ?_) (fun h_14 => ?_)
 have hl_15 := (rng_byt s (i_2 - (1:Int)).toNat)
 refine rg (A := _ ∧ _ ∧ (AV.b true = AV.b (decide (¬isMrk (byt s i_2.toNat) = true ∨ i_2 = (0:Int) ∨ i_2 = (↑s.size:Int) - (1:Int) ∨ isMrk (byt s (i_2 - (1:Int)).toNat) = true)))) cx [(1, { val := some (.b (isMrk (byt s i_2.toNat))), tell := some (.b (false)) }), (20, { tell := some (.b (decide (¬isMrk (byt s i_2.toNat) = true ∨ i_2 = (0:Int) ∨ i_2 = (↑s.size:Int) - (1:Int) ∨ isMrk (byt s (i_2 - (1:Int)).toNat) = true))) })] [0, 12, 13, 4, 45] [] ⟨(told_eqn h_14), (con203 (byt s i_2.toNat)), (by simp only [eq_false h_14, told_simp1, told_simp2, and_true, true_and, and_false, false_and, or_true, true_or, or_false, false_or, not_true_eq_false, not_false_eq_true, decide_true, decide_false, Bool.decide_eq_true])⟩ ?_
 exact ⟨rfl, by kernel_rfl⟩
 refine st_split (i_2 = (0:Int)) (fun h_16 => ?_) (fun h_16 => ?_)
 have hl_17 := (rng_byt s (i_2 - (1:Int)).toNat)
 refine rg (A := _ ∧ ((AV.b !isMrk (byt s i_2.toNat)) = AV.b (decide ¬isMrk (byt s i_2.toNat) = true)) ∧ _ ∧ _ ∧ (AV.b true = AV.b (decide (¬isMrk (byt s i_2.toNat) = true ∨ i_2 = (0:Int) ∨ i_2 = (↑s.size:Int) - (1:Int) ∨ isMrk (byt s (i_2 - (1:Int)).toNat) = true)))) cx [(1, { val := some (.b (isMrk (byt s i_2.toNat))) }), (2, { tell := some (.b (decide ¬isMrk (byt s i_2.toNat) = true)) }), (3, { tell := some (.b (false)) }), (5, { tell := some (.b (true)) }), (20, { tell := some (.b (decide (¬isMrk (byt s i_2.toNat) = true ∨ i_2 = (0:Int) ∨ i_2 = (↑s.size:Int) - (1:Int) ∨ isMrk (byt s (i_2 - (1:Int)).toNat) = true))) })] [0, 12, 13, 4, 45] [] ⟨(con203 (byt s i_2.toNat)), (told_not), (told_false h_14), (told_true h_16), (by simp only [eq_false h_14, eq_true h_16, told_simp1, told_simp2, and_true, true_and, and_false, false_and, or_true, true_or, or_false, false_or, not_true_eq_false, not_false_eq_true, decide_true, decide_false, Bool.decide_eq_true])⟩ ?_
 exact ⟨rfl, by kernel_rfl⟩
 refine st_split (i_2 = (↑s.size:Int) - (1:Int)) (fun h_18 => ?_) (fun h_18 => ?_)
 have hl_19 := (rng_byt s (i_2 - (1:Int)).toNat)
 refine rg (A := _ ∧ ((AV.b !isMrk (byt s i_2.toNat)) = AV.b (decide ¬isMrk (byt s i_2.toNat) = true)) ∧ _ ∧ _ ∧ (AV.i .i64 (IntKind.i64.wrap ((↑s.size:Int) - (1:Int))) = AV.i .i64 ((↑s.size:Int) - (1:Int))) ∧ _ ∧ (AV.b true = AV.b (decide (¬isMrk (byt s i_2.toNat) = true ∨ i_2 = (0:Int) ∨ i_2 = (↑s.size:Int) - (1:Int) ∨ isMrk (byt s (i_2 - (1:Int)).toNat) = true)))) cx [(1, { val := some (.b (isMrk (byt s i_2.toNat))) }), (2, { tell := some (.b (decide ¬isMrk (byt s i_2.toNat) = true)) }), (3, { tell := some (.b (false)) }), (5, { tell := some (.b (false)) }), (11, { tell := some (.i .i64 ((↑s.size:Int) - (1:Int))) }), (12, { tell := some (.b (true)) }), (20, { tell := some (.b (decide (¬isMrk (byt s i_2.toNat) = true ∨ i_2 = (0:Int) ∨ i_2 = (↑s.size:Int) - (1:Int) ∨ isMrk (byt s (i_2 - (1:Int)).toNat) = true))) })] [0, 12, 13, 4, 45] [] ⟨(con203 (byt s i_2.toNat)), (told_not), (told_false h_14), (told_false h_16), (told_i64 (by omega) (by omega)), (told_true h_18), (by simp only [eq_false h_14, eq_false h_16, eq_true h_18, told_simp1, told_simp2, and_true, true_and, and_false, false_and, or_true, true_or, or_false, false_or, not_true_eq_false, not_false_eq_true, decide_true, decide_false, Bool.decide_eq_true])⟩ ?_
 exact ⟨rfl, by kernel_rfl⟩
 have hl_20 := (rng_byt s (i_2 - (1:Int)).toNat)
 refine rg (A := _ ∧ ((AV.b !isMrk (byt s i_2.toNat)) = AV.b (decide ¬isMrk (byt s i_2.toNat) = true)) ∧ _ ∧ _ ∧ (AV.i .i64 (IntKind.i64.wrap ((↑s.size:Int) - (1:Int))) = AV.i .i64 ((↑s.size:Int) - (1:Int))) ∧ _ ∧ (AV.i .i64 (IntKind.i64.wrap (i_2 - (1:Int))) = AV.i .i64 (i_2 - (1:Int))) ∧ ((0:Int) ≤ i_2 - (1:Int)) ∧ (Option.map (fun b ↦ (↑b.toNat:Int)) s[(i_2 - (1:Int)).toNat]? = some (byt s (i_2 - (1:Int)).toNat)) ∧ _ ∧ (AV.b (isMrk (byt s (i_2 - (1:Int)).toNat)) = AV.b (decide (¬isMrk (byt s i_2.toNat) = true ∨ i_2 = (0:Int) ∨ i_2 = (↑s.size:Int) - (1:Int) ∨ isMrk (byt s (i_2 - (1:Int)).toNat) = true)))) cx [(1, { val := some (.b (isMrk (byt s i_2.toNat))) }), (2, { tell := some (.b (decide ¬isMrk (byt s i_2.toNat) = true)) }), (3, { tell := some (.b (false)) }), (5, { tell := some (.b (false)) }), (11, { tell := some (.i .i64 ((↑s.size:Int) - (1:Int))) }), (12, { tell := some (.b (false)) }), (17, { tell := some (.i .i64 (i_2 - (1:Int))) }), (18, { val := some (.i .u8 (byt s (i_2 - (1:Int)).toNat)) }), (19, { val := some (.b (isMrk (byt s (i_2 - (1:Int)).toNat))) }), (20, { tell := some (.b (decide (¬isMrk (byt s i_2.toNat) = true ∨ i_2 = (0:Int) ∨ i_2 = (↑s.size:Int) - (1:Int) ∨ isMrk (byt s (i_2 - (1:Int)).toNat) = true))) })] [0, 12, 13, 4, 45] [] ⟨(con203 (byt s i_2.toNat)), (told_not), (told_false h_14), (told_false h_16), (told_i64 (by omega) (by omega)), (told_false h_18), (told_i64 (by omega) (by omega)), (by omega), (by (with_reducible refine get_byt ?_; omega)), (con203 (byt s (i_2 - (1:Int)).toNat)), (by simp only [eq_false h_14, eq_false h_16, eq_false h_18, told_simp1, told_simp2, and_true, true_and, and_false, false_and, or_true, true_or, or_false, false_or, not_true_eq_false, not_false_eq_true, decide_true, decide_false, Bool.decide_eq_true])⟩ ?_
 exact ⟨rfl, by kernel_rfl⟩
 refine sn ?_
 refine st_dec (¬isMrk (byt s i_2.toNat) = true ∨ i_2 = (0:Int) ∨ i_2 = (↑s.size:Int) - (1:Int) ∨ isMrk (byt s (i_2 - (1:Int)).toNat) = true) (by kernel_rfl) (by kernel_rfl) (fun h_21 => ?_) (fun h_21 => ?_)
 refine sq ?_
 refine rg (A := True) cx [] [2, 3] [] trivial ?_
 refine sn ?_
 refine st_ret (by kernel_rfl) ?_
 refine q_blk_ret ?_
 refine q_seq_ret ?_
 refine q_seq_ret ?_
 refine q_blk_ret ?_
 refine q_seq_ret ?_
 refine q_ret (r := .tup [.i .i64 (i_2), .i .i64 ((22:Int))]) (obl := []) (by kernel_rfl) trivial (AVle.tup (ZLe.cons AVle.dead (ZLe.cons (AVle.eq (show AV.i .i64 (22:Int) = AV.i .i64 (chkE s) from ?g4)) ZLe.nil))); rotate_left 1
 refine st_skip (by kernel_rfl) ?_
 refine q_blk_normal ?_
 refine sn ?_
 refine rg (A := (AV.i .i64 (IntKind.i64.wrap (i_2 + (1:Int))) = AV.i .i64 (i_2 + (1:Int)))) cx [(0, { tell := some (.i .i64 (i_2 + (1:Int))) })] [0, 12, 13] [] (told_i64 (by omega) (by omega)) ?_
 refine sn ?_
 refine loop_next (i_2 + (1:Int)) (by kernel_rfl) (show ((↑s.size:Int) - (i_2 + (1:Int))).toNat < ((↑s.size:Int) - i_2).toNat from (by omega)) (show invG s (i_2 + (1:Int)) from ?g5); rotate_left 1
 refine st_exit 0 (by kernel_rfl) ?_
 refine q_seq_exit ?_
 refine q_seq_exit ?_
 refine q_blk_hit ?_
 refine sn (sq ?_)
 refine rg (A := True) cx [] [2, 3] [] trivial ?_
 refine sn ?_
 refine st_ret (by kernel_rfl) ?_
 refine q_ret (r := .tup [.i .i64 ((0:Int)), .i .i64 ((0:Int))]) (obl := []) (by kernel_rfl) trivial (AVle.tup (ZLe.cons AVle.dead (ZLe.cons (AVle.eq (show AV.i .i64 (0:Int) = AV.i .i64 (chkE s) from ?g6)) ZLe.nil))); rotate_left 1
 revert h_0; rotate_left
 revert h_0 h_1; rotate_left
 revert h_0 h_1; rotate_left
 clear hl_9; revert h_0 h_1 i_2 h_4 h_5 h_6 h_7 h_12; rotate_left
 clear hl_9; revert h_0 h_1 i_2 h_4 h_5 h_6 h_7 h_12 h_21; rotate_left
 clear hl_9; revert h_0 h_1 i_2 h_4 h_5 h_6 h_7 h_12 h_21; rotate_left
 revert h_0 h_1 i_2 h_4 h_5 h_6 h_7; rotate_left
 case g2 => exact (fun h k => ⟨by omega, by omega, fun j hj => by omega⟩)
 case' g6 => refine (fun h k i h0 h1 h2 h3 => ?_)
 case' g5 => refine (fun h k i h0 h1 h2 h3 h4 h5 => ?_)
 case' g4 => refine (fun h k i h0 h1 h2 h3 h4 h5 => ?_)
 case' g3 => refine (fun h k i h0 h1 h2 h3 h4 => ?_)
 case' g1 => refine (fun h k => ?_)
 case' g0 => refine (fun h => ?_)
 ·rw [chkE, if_pos ((size_zero s).2 h)]
 ·rw [chkE, if_neg (fun e => h ((size_zero s).1 e)), if_pos (by omega)]
 ·exact invG_step h0 h3 h2 ((stands_iff _ _).2 (h4.elim .inl fun h => .inr (.inl h)))
 ·rw [chkE_bad (fun e => h ((size_zero s).1 e)) (by omega) (i := i.toNat) (by omega) (not_stands _)]
  have e : (i - 1).toNat = i.toNat - 1 := by omega
  rw [e] at h5
  rw [stands_iff]; rintro (a | a | a)
  ·exact h4 (.inl a)
  ·exact h4 (.inr a)
  ·rcases h5 with h5 | h5 | h5 | h5
   ·exact h5 a.1
   ·omega
   ·omega
   ·exact a.2.2.2 h5
 ·have e : (i - 1).toNat = i.toNat - 1 := by omega
  rw [e] at h5
  refine invG_step h0 h3 h2 ((stands_iff _ _).2 (.inr (.inr ⟨Classical.byContradiction fun a => h5 (.inl a), ?_, ?_, fun a => h5 (.inr (.inr (.inr a)))⟩)))
  ·intro a; exact h5 (.inr (.inl (by omega)))
  ·intro a; exact h5 (.inr (.inr (.inl (by omega))))
 ·rw [chkE_ok (fun e => h ((size_zero s).1 e)) (by omega) fun j hj => h2 j (by omega)]
theorem con169 (s : ByteArray) : Con Tryz.prog 169 [.s s] (.tup [.dead, .i .i64 (chkE s)]) :=
 by
 refine st_con tab_ok (by kernel_rfl) [.tmp 2, .tmp 3] 22 Go.Proofs.Tryz.func169 (by kernel_rfl) (by kernel_rfl) ?_
 intro e0 cx
 refine sq ?_
 refine rg (A := True) cx [] [0] [] trivial ?_
 refine sn (sq ?_)
 refine sq ?_
 refine rg (A := (AV.b ((↑s.size:Int) == (0:Int)) = AV.b (decide ((↑s.size:Int) = (0:Int))))) cx [(2, { tell := some (.b (decide ((↑s.size:Int) = (0:Int)))) })] [0, 7] [] (by kernel_rfl) ?_
 refine sn ?_
 refine st_dec ((↑s.size:Int) = (0:Int)) (by kernel_rfl) (by kernel_rfl) (fun h_0 => ?_) (fun h_0 => ?_)
 refine sq ?_
 refine rg (A := True) cx [] [2, 3] [] trivial ?_
 refine sn ?_
 refine st_ret (by kernel_rfl) ?_
 refine q_seq_ret ?_
 refine q_ret (r := .tup [.i .i64 ((0:Int)), .i .i64 ((20:Int))]) (obl := []) (by kernel_rfl) trivial (AVle.tup (ZLe.cons AVle.dead (ZLe.cons (AVle.eq (show AV.i .i64 (20:Int) = AV.i .i64 (chkE s) from ?g0)) ZLe.nil))); rotate_left 1
 refine st_skip (by kernel_rfl) ?_
 refine sn (sq ?_)
 refine sq ?_
 refine rg (A := (AV.b (decide ((↑s.size:Int) > (24:Int))) = AV.b (decide ((24:Int) < (↑s.size:Int))))) cx [(2, { tell := some (.b (decide ((24:Int) < (↑s.size:Int)))) })] [0, 10] [] (by kernel_rfl) ?_
 refine sn ?_
 refine st_dec ((24:Int) < (↑s.size:Int)) (by kernel_rfl) (by kernel_rfl) (fun h_1 => ?_) (fun h_1 => ?_)
 refine sq ?_
 refine rg (A := True) cx [] [2, 3] [] trivial ?_
 refine sn ?_
 refine st_ret (by kernel_rfl) ?_
 refine q_seq_ret ?_
 refine q_ret (r := .tup [.i .i64 ((0:Int)), .i .i64 ((21:Int))]) (obl := []) (by kernel_rfl) trivial (AVle.tup (ZLe.cons AVle.dead (ZLe.cons (AVle.eq (show AV.i .i64 (21:Int) = AV.i .i64 (chkE s) from ?g1)) ZLe.nil))); rotate_left 1
 refine st_skip (by kernel_rfl) ?_
 refine sn (sq ?_)
 refine sq ?_
 refine rg (A := True) cx [] [0, 4] [] trivial ?_
 refine sn ?_
 refine st_block 0 (by kernel_rfl) ?_
 refine st_loop (X := Int) (fun x => ⟨[(0, .s (s)), (4, .i .i64 (x))], []⟩) (fun x ↦ decG s x) (fun x ↦ invG s x) [0, 4] [] ((0:Int)) (by kernel_rfl) (by kernel_rfl) (show invG s (0:Int) from ?g2) ?_; rotate_left 1
 intro i_2 h_3
 obtain ⟨h_4, h_5, h_6⟩ : (0:Int) ≤ i_2 ∧ i_2 ≤ (↑s.size:Int) ∧ ∀ (j:Nat), (↑j:Int) < i_2 → standsB s j = true := h_3
 refine sq ?_
 refine sq ?_
 refine rg (A := (AV.b (decide (i_2 < (↑s.size:Int))) = AV.b (decide (i_2 < (↑s.size:Int))))) cx [(3, { tell := some (.b (decide (i_2 < (↑s.size:Int)))) })] [0, 4, 14] [] (by kernel_rfl) ?_
 refine sn ?_
 refine st_dec (i_2 < (↑s.size:Int)) (by kernel_rfl) (by kernel_rfl) (fun h_7 => ?_) (fun h_7 => ?_)
 refine st_skip (by kernel_rfl) ?_
 refine sn (sq ?_)
 refine st_block 1 (by kernel_rfl) ?_
 refine sq ?_
 refine rg (A := _ ∧ ((AV.b !standsB s i_2.toNat) = AV.b (decide ¬standsB s i_2.toNat = true))) cx [(2, { val := some (.b (standsB s i_2.toNat)) }), (3, { tell := some (.b (decide ¬standsB s i_2.toNat = true)) })] [0, 4, 20] [] ⟨(con199 (s) (i_2) (by (with_reducible assumption)) (by (with_reducible assumption)) (by omega)), (told_not)⟩ ?_
 refine sn ?_
 refine st_dec (¬standsB s i_2.toNat = true) (by kernel_rfl) (by kernel_rfl) (fun h_8 => ?_) (fun h_8 => ?_)
 refine sq ?_
 refine rg (A := True) cx [] [2, 3] [] trivial ?_
 refine sn ?_
 refine st_ret (by kernel_rfl) ?_
 refine q_blk_ret ?_
 refine q_seq_ret ?_
 refine q_seq_ret ?_
 refine q_blk_ret ?_
 refine q_seq_ret ?_
 refine q_ret (r := .tup [.i .i64 (i_2), .i .i64 ((22:Int))]) (obl := []) (by kernel_rfl) trivial (AVle.tup (ZLe.cons AVle.dead (ZLe.cons (AVle.eq (show AV.i .i64 (22:Int) = AV.i .i64 (chkE s) from ?g3)) ZLe.nil))); rotate_left 1
 refine st_skip (by kernel_rfl) ?_
 refine q_blk_normal ?_
 refine sn ?_
 refine rg (A := (AV.i .i64 (IntKind.i64.wrap (i_2 + (1:Int))) = AV.i .i64 (i_2 + (1:Int)))) cx [(1, { tell := some (.i .i64 (i_2 + (1:Int))) })] [0, 4] [] (told_i64 (by omega) (by omega)) ?_
 refine sn ?_
 refine loop_next (i_2 + (1:Int)) (by kernel_rfl) (show ((↑s.size:Int) - (i_2 + (1:Int))).toNat < ((↑s.size:Int) - i_2).toNat from (by omega)) (show invG s (i_2 + (1:Int)) from ?g4); rotate_left 1
 refine st_exit 0 (by kernel_rfl) ?_
 refine q_seq_exit ?_
 refine q_seq_exit ?_
 refine q_blk_hit ?_
 refine sn (sq ?_)
 refine rg (A := True) cx [] [2, 3] [] trivial ?_
 refine sn ?_
 refine st_ret (by kernel_rfl) ?_
 refine q_ret (r := .tup [.i .i64 ((0:Int)), .i .i64 ((0:Int))]) (obl := []) (by kernel_rfl) trivial (AVle.tup (ZLe.cons AVle.dead (ZLe.cons (AVle.eq (show AV.i .i64 (0:Int) = AV.i .i64 (chkE s) from ?g5)) ZLe.nil))); rotate_left 1
 revert h_0; rotate_left
 revert h_0 h_1; rotate_left
 revert h_0 h_1; rotate_left
 revert h_0 h_1 i_2 h_4 h_5 h_6 h_7 h_8; rotate_left
 revert h_0 h_1 i_2 h_4 h_5 h_6 h_7 h_8; rotate_left
 revert h_0 h_1 i_2 h_4 h_5 h_6 h_7; rotate_left
 case g2 => exact (fun h k => ⟨by omega, by omega, fun j hj => by omega⟩)
 case' g5 => refine (fun h k i h0 h1 h2 h3 => ?_)
 case' g4 => refine (fun h k i h0 h1 h2 h3 h4 => ?_)
 case' g3 => refine (fun h k i h0 h1 h2 h3 h4 => ?_)
 case' g1 => refine (fun h k => ?_)
 case' g0 => refine (fun h => ?_)
 ·rw [chkE, if_pos (by omega)]
 ·rw [chkE, if_neg (by omega), if_pos (by omega)]
 ·rw [chkE_bad (by omega) (by omega) (i := i.toNat) (by omega) (not_stands h4)]
 ·exact invG_step h0 h3 h2 (Classical.not_not.1 h4)
 ·rw [chkE_ok (by omega) (by omega) fun j hj => h2 j (by omega)]
theorem con138 (s : ByteArray) : Con Tryz.prog 138 [.s s] (.b (good s)) :=
 by
 refine st_con tab_ok (by kernel_rfl) [.tmp 2] 12 Go.Proofs.Tryz.func138 (by kernel_rfl) (by kernel_rfl) ?_
 intro e0 cx
 refine sq ?_
 refine rg (A := True) cx [] [0] [] trivial ?_
 refine sn (sq ?_)
 refine rg (A := _) cx [(1, { val := some (resC (con172 (s))) })] [4] [] (con172 (s)) ?_
 refine sn (sq ?_)
 refine rg (A := (AV.b (chkE s == (0:Int)) = AV.b (decide (chkE s = (0:Int))))) cx [(1, { tell := some (.b (decide (chkE s = (0:Int)))) })] [2] [] (by kernel_rfl) ?_
 refine sn ?_
 refine st_ret (by kernel_rfl) ?_
 refine q_ret (r := .b (decide (chkE s = (0:Int)))) (obl := []) (by kernel_rfl) trivial (AVle.eq (show AV.b (decide (chkE s = (0:Int))) = AV.b (good s) from ?g0)); rotate_left 1
 case g0 => exact rfl
theorem con125 (s : ByteArray) : Con Tryz.prog 125 [.s s] (.b (good s)) :=
 by
 refine st_con tab_ok (by kernel_rfl) [.tmp 2] 12 Go.Proofs.Tryz.func125 (by kernel_rfl) (by kernel_rfl) ?_
 intro e0 cx
 refine sq ?_
 refine rg (A := True) cx [] [0] [] trivial ?_
 refine sn (sq ?_)
 refine rg (A := _) cx [(1, { val := some (resC (con169 (s))) })] [4] [] (con169 (s)) ?_
 refine sn (sq ?_)
 refine rg (A := (AV.b (chkE s == (0:Int)) = AV.b (decide (chkE s = (0:Int))))) cx [(1, { tell := some (.b (decide (chkE s = (0:Int)))) })] [2] [] (by kernel_rfl) ?_
 refine sn ?_
 refine st_ret (by kernel_rfl) ?_
 refine q_ret (r := .b (decide (chkE s = (0:Int)))) (obl := []) (by kernel_rfl) trivial (AVle.eq (show AV.b (decide (chkE s = (0:Int))) = AV.b (good s) from ?g0)); rotate_left 1
 case g0 => exact rfl
end Go.Proofs.YtaiepnaokhpmcaaGreat
namespace Go.Proofs.YtaiepnaokhpmcaaGreat
open Go.E
set_option maxRecDepth 100000
set_option maxHeartbeats 4000000
theorem ordSt : Ord3 cmpSt := by
 refine ⟨fun x y => ?_, fun x y => ?_, fun x y z h1 h2 => ?_, fun x y z h1 h2 => ?_⟩
 ·rw [cmpSt_less]; split <;> (try split) <;> simp
 ·rw [cmpSt_less, cmpSt_less]
  by_cases a : sLt x y = true
  ·have b : ¬ sLt y x = true := fun b => sLt_irr _ (sLt_trans a b)
   rw [if_pos a, if_neg b, if_pos a]; rfl
  ·by_cases b : sLt y x = true
   ·rw [if_pos b, if_neg a, if_pos b]
   ·rw [if_neg b, if_neg a, if_neg a, if_neg b]; rfl
 ·rw [cmpSt_less] at *
  by_cases c : sLt x z = true
  ·rw [if_pos c]; omega
  ·rw [if_neg c]
   by_cases d : sLt z x = true
   ·exfalso
    by_cases a : sLt x y = true
    ·have e : sLt z y = true := sLt_trans d a
     have f : ¬ sLt y z = true := fun f => sLt_irr _ (sLt_trans e f)
     rw [if_neg f, if_pos e] at h2
     omega
    ·by_cases b : sLt y x = true
     ·rw [if_neg a, if_pos b] at h1; omega
     ·have := sLt_total a b
      subst this
      rw [if_neg c, if_pos d] at h2
      omega
   ·rw [if_neg d]; omega
 ·rw [cmpSt_less] at *
  have eq : ∀ u v : ByteArray, (if sLt u v = true then (-1:Int) else if sLt v u = true then 1 else 0) = 0 → u = v := by
   intro u v h
   by_cases a : sLt u v = true
   ·rw [if_pos a] at h; omega
   ·by_cases b : sLt v u = true
    ·rw [if_neg a, if_pos b] at h; omega
    ·exact sLt_total a b
  have e1 := eq _ _ h1
  have e2 := eq _ _ h2
  subst e1 e2
  rw [if_neg (sLt_irr x), if_neg (sLt_irr x)]
theorem cmpSt_zero {a b : ByteArray} : cmpSt a b = 0 ↔ a = b := by
 rw [cmpSt_less]
 constructor
 ·intro h
  by_cases c : sLt a b = true
  ·rw [if_pos c] at h; omega
  ·by_cases d : sLt b a = true
   ·rw [if_neg c, if_pos d] at h; omega
   ·exact sLt_total c d
 ·rintro rfl
  rw [if_neg (sLt_irr _), if_neg (sLt_irr _)]
def cmpRec (r s : Record) : Int := if cmpSt r.sku s.sku ≠ 0 then cmpSt r.sku s.sku else cmpP r.past s.past
theorem ordRec : Ord3 cmpRec := ord_then ordSt ordP (fun r : Record => r.sku) (fun r => r.past)
theorem rec_zero {r s : Record} : cmpRec r s = 0 ↔ r.sku = s.sku ∧ normP r.past = normP s.past := by
 unfold cmpRec
 by_cases h : cmpSt r.sku s.sku = 0
 ·rw [if_neg (by simpa using h), cmpP_zero]
  exact ⟨fun k => ⟨cmpSt_zero.1 h, k⟩, fun k => k.2⟩
 ·rw [if_pos h]
  exact ⟨fun k => absurd k h, fun k => absurd (cmpSt_zero.2 k.1) h⟩
theorem rec_same {r s : Record} (hr : r.past = normP r.past) (hs : s.past = normP s.past) (h : cmpRec r s = 0) : r = s := by
 obtain ⟨h1, h2⟩ := rec_zero.1 h
 rw [← hr, ← hs] at h2
 cases r; cases s
 simp only at h1 h2
 rw [h1, h2]
def noneS : ByteArray := ⟨#[]⟩
noncomputable def ckR (r : Record) : Int := if ¬ r.sku = noneS ∧ good r.sku = false then 5 else if ¬ r.past = normP r.past ∨ sizeP r.past = 0 then 1 else 0
noncomputable def okRs (rs : List Record) (i:Nat) : Bool := decide (ckR rs[i]! = 0) && (decide (i = 0) || decide (cmpRec rs[i - 1]! rs[i]! < 0))
noncomputable def okLR (rs : List Record) : Bool := allUp (okRs rs) rs.length
noncomputable def recE (rs : List Record) : Int := if okLR rs = true then 0 else 1
def upR (rs : List Record) : Prop := rs.Pairwise fun r s => cmpRec r s < 0
def formR (rs : List Record) : Prop := (∀ r ∈ rs, ckR r = 0) ∧ upR rs
theorem ck_ok {r : Record} : ckR r = 0 ↔ (r.sku = noneS ∨ good r.sku = true) ∧ r.past = normP r.past ∧ ¬ sizeP r.past = 0 := by
 unfold ckR
 by_cases a : ¬ r.sku = noneS ∧ good r.sku = false
 ·rw [if_pos a]
  constructor
  ·intro h; omega
  ·rintro ⟨k | k, _⟩
   ·exact absurd k a.1
   ·rw [a.2] at k; cases k
 ·rw [if_neg a]
  by_cases b : ¬ r.past = normP r.past ∨ sizeP r.past = 0
  ·rw [if_pos b]
   constructor
   ·intro h; omega
   ·rintro ⟨_, h1, h2⟩
    rcases b with b | b
    ·exact absurd h1 b
    ·exact absurd b h2
  ·rw [if_neg b]
   refine ⟨fun _ => ⟨?_, Classical.byContradiction fun k => b (.inl k), fun k => b (.inr k)⟩, fun _ => rfl⟩
   by_cases c : r.sku = noneS
   ·exact .inl c
   ·right
    cases e : good r.sku with
    | true => rfl
    | false => exact absurd ⟨c, e⟩ a
theorem okRs_iff (rs : List Record) (i:Nat) : okRs rs i = true ↔ ckR rs[i]! = 0 ∧ (i = 0 ∨ cmpRec rs[i - 1]! rs[i]! < 0) := by
 unfold okRs
 rw [Bool.and_eq_true, Bool.or_eq_true, decide_eq_true_iff, decide_eq_true_iff, decide_eq_true_iff]
theorem up_of_adj {rs : List Record} (h : ∀ i : Nat, 0 < i → i < rs.length → cmpRec rs[i - 1]! rs[i]! < 0) : upR rs := by
 have key : ∀ d i : Nat, i + d + 1 < rs.length → cmpRec rs[i]! rs[i + d + 1]! < 0 := by
  intro d
  induction d with
  | zero => intro i hi; exact h (i + 1) (by omega) hi
  | succ d ih =>
   intro i hi
   have h1 := ih i (by omega)
   have h2 := h (i + d + 2) (by omega) (by omega)
   rw [show i + d + 2 - 1 = i + d + 1 by omega] at h2
   rw [show i + (d + 1) + 1 = i + d + 2 by omega]
   exact ordRec.lt h1 (by omega)
 unfold upR
 rw [List.pairwise_iff_getElem]
 intro i j hi hj hij
 have := key (j - i - 1) i (by omega)
 rw [show i + (j - i - 1) + 1 = j by omega, getElem!_pos rs i hi, getElem!_pos rs j hj] at this
 exact this
theorem okLR_iff (rs : List Record) : okLR rs = true ↔ formR rs := by
 unfold okLR
 rw [allUp_iff]
 constructor
 ·intro h
  refine ⟨fun r hr => ?_, up_of_adj fun i h0 hi => ?_⟩
  ·obtain ⟨i, hi, rfl⟩ := List.mem_iff_getElem.1 hr
   have := ((okRs_iff _ _).1 (h i hi)).1
   rwa [getElem!_pos rs i hi] at this
  ·rcases ((okRs_iff _ _).1 (h i hi)).2 with k | k
   ·omega
   ·exact k
 ·intro h i hi
  rw [okRs_iff]
  refine ⟨h.1 _ (bang_in hi), ?_⟩
  by_cases e : i = 0
  ·exact .inl e
  ·right
   have := List.pairwise_iff_getElem.1 h.2 (i - 1) i (by omega) hi (by omega)
   rw [← getElem!_pos rs (i - 1) (by omega), ← getElem!_pos rs i hi] at this
   exact this
theorem recE_iff (rs : List Record) : recE rs = 0 ↔ formR rs := by
 rw [← okLR_iff]
 unfold recE
 split
 ·rename_i h; simp [h]
 ·rename_i h; simp [h]
theorem recE_bad {rs : List Record} {i : Nat} (hi : i < rs.length) (h : ¬ okRs rs i = true) : recE rs = 1 := by
 unfold recE okLR
 rw [if_neg]
 intro k
 exact h ((allUp_iff _ _).1 k i hi)
theorem recE_ok {rs : List Record} (h : ∀ j : Nat, j < rs.length → okRs rs j = true) : recE rs = 0 := by
 unfold recE okLR
 rw [if_pos ((allUp_iff _ _).2 h)]
end Go.Proofs.YtaiepnaokhpmcaaGreat
namespace Go.Proofs.YtaiepnaokhpmcaaGreat
open Go.E
set_option maxRecDepth 100000
set_option maxHeartbeats 4000000
def invZ (a : List Run) (s i:Int) : Prop := 0 ≤ i ∧ i ≤ (nrm a).length ∧ s = sizeR ((nrm a).take i.toNat)
def decZ (a : List Run) (s i:Int) : Nat := ((nrm a).length - i).toNat
def invSz (p : Past) (s i:Int) (T : Nat → List Run) : Prop := T = openT [p] ∧ 0 ≤ i ∧ i ≤ 16 ∧ s = sizeT (openT [p]) i.toNat
def decSz (p : Past) (s i:Int) (T : Nat → List Run) : Nat := (16 - i).toNat
theorem sepR_take {l : List Run} (h : sepR l) (n:Nat) : sepR (l.take n) := ⟨h.1.sublist (List.take_sublist _ _), fun r hr => h.2 r (List.mem_of_mem_take hr)⟩
theorem sizeR_next {l : List Run} {i : Int} (h0 : 0 ≤ i) (h : i < l.length) : sizeR (l.take (i + 1).toNat) = sizeR (l.take i.toNat) + (l[i.toNat]!.hi - l[i.toNat]!.lo + 1) := by
 rw [← take_step h0 h, sizeR_app]
 simp [sizeR]
theorem tot_le {p : Past} (hb : p.cloud.length * 16 ≤ 140737488350000) : totP [p] * 16 ≤ 140737488351232 := by rw [tot_one]; omega
theorem open_le {p : Past} (hb : p.cloud.length * 16 ≤ 140737488350000) (r:Nat) : (openT [p] r).length * 16 ≤ 140737488351232 := by
 have := openT_len r [p]
 have := tot_le hb
 omega
theorem con180 (a : List Run) (hb : a.length * 16 ≤ 140737488351232) : Con Tryz.prog 180 [.sl (a.map c154)] (.i .i64 (sizeR (nrm a))) :=
 by
 have hs := nrm_sep a
 have hr : ∀ i : Int, 0 ≤ i → i < (nrm a).length → 1 ≤ (nrm a)[i.toNat]!.lo ∧ (nrm a)[i.toNat]!.lo ≤ (nrm a)[i.toNat]!.hi ∧ (nrm a)[i.toNat]!.hi ≤ 1000000000 := fun i h0 h1 => hs.2 _ (bang_in (by omega))
 have hz : ∀ i : Int, 0 ≤ sizeR ((nrm a).take i.toNat) ∧ sizeR ((nrm a).take i.toNat) ≤ 1000000000 := fun i => sizeR_rng (sepR_take hs _)
 refine con_lens 0 (c154) (a) (by kernel_rfl) Go.Proofs.Tryz.func180 (by kernel_rfl) fun hl_0 => ?_
 refine st_con tab_ok (by kernel_rfl) [.tmp 2] 23 Go.Proofs.Tryz.func180 (by kernel_rfl) (by kernel_rfl) ?_
 intro e0 cx
 refine sq ?_
 refine rg (A := True) cx [] [0] [] trivial ?_
 refine sn (sq ?_)
 refine rg (A := True) cx [] [0, 3] [] trivial ?_
 refine sn (sq ?_)
 refine sq ?_
 have hl_0 := (rng_nrm a)
 refine rg (A := _ ∧ _) cx [(1, { val := some (.sl (List.map c154 (nrm a))) }), (2, { tell := some (.i .i64 ((↑(nrm a).length:Int))) })] [3, 7, 8, 9] [] ⟨(con182 (a) (by (with_reducible assumption))), (told_len c154 (nrm a))⟩ ?_
 refine sn ?_
 refine st_block 0 (by kernel_rfl) ?_
 refine st_loop (X := Int × Int) (fun x => ⟨[(3, .i .i64 (x.fst)), (7, .sl (List.map c154 (nrm a))), (8, .i .i64 ((↑(nrm a).length:Int))), (9, .i .i64 (x.snd))], []⟩) (fun x ↦ decZ a x.fst x.snd) (fun x ↦ invZ a x.fst x.snd) [3, 7, 8, 9] [] (((0:Int), (0:Int))) (by kernel_rfl) (by kernel_rfl) (show invZ a (0:Int) (0:Int) from ?g0) ?_; rotate_left 1
 rintro ⟨s_1, i_2⟩ h_3
 obtain ⟨h_4, h_5, h_6⟩ : (0:Int) ≤ i_2 ∧ i_2 ≤ (↑(nrm a).length:Int) ∧ s_1 = sizeR (List.take i_2.toNat (nrm a)) := h_3
 refine sq ?_
 refine rg (A := (AV.b (decide (i_2 < (↑(nrm a).length:Int))) = AV.b (decide (i_2 < (↑(nrm a).length:Int))))) cx [(0, { tell := some (.b (decide (i_2 < (↑(nrm a).length:Int)))) })] [3, 7, 8, 9, 10] [] (by kernel_rfl) ?_
 refine sn (sq ?_)
 refine st_dec (i_2 < (↑(nrm a).length:Int)) (by kernel_rfl) (by kernel_rfl) (fun h_7 => ?_) (fun h_7 => ?_)
 refine st_skip (by kernel_rfl) ?_
 refine sn (sq ?_)
 refine st_block 1 (by kernel_rfl) ?_
 refine sq ?_
 refine rg (A := ((0:Int) ≤ i_2) ∧ ((List.map c154 (nrm a))[i_2.toNat]? = some (c154 (nrm a)[i_2.toNat]!)) ∧ ((c154 (nrm a)[i_2.toNat]!).length = (2:Nat)) ∧ ((2:Nat) ≤ [AV.i .i64 (nrm a)[i_2.toNat]!.lo, AV.i .i64 (nrm a)[i_2.toNat]!.hi].length)) cx [(0, { row := (c154 (nrm a)[i_2.toNat]!) })] [3, 7, 8, 9, 5] [5] ⟨(by (with_reducible assumption)), (by (with_reducible refine get_map ?_; omega)), (by kernel_rfl), (by (simp only [List.length_append, List.length_cons, List.length_nil]; omega))⟩ ?_
 refine sn ?_
 refine rg (A := (AV.i .i64 (IntKind.i64.wrap ((nrm a)[i_2.toNat]!.hi - (nrm a)[i_2.toNat]!.lo)) = AV.i .i64 ((nrm a)[i_2.toNat]!.hi - (nrm a)[i_2.toNat]!.lo)) ∧ (AV.i .i64 (IntKind.i64.wrap ((nrm a)[i_2.toNat]!.hi - (nrm a)[i_2.toNat]!.lo + (1:Int))) = AV.i .i64 ((nrm a)[i_2.toNat]!.hi - (nrm a)[i_2.toNat]!.lo + (1:Int))) ∧ (AV.i .i64 (IntKind.i64.wrap (s_1 + ((nrm a)[i_2.toNat]!.hi - (nrm a)[i_2.toNat]!.lo + (1:Int)))) = AV.i .i64 (s_1 + ((nrm a)[i_2.toNat]!.hi - (nrm a)[i_2.toNat]!.lo + (1:Int))))) cx [(5, { tell := some (.i .i64 ((nrm a)[i_2.toNat]!.hi - (nrm a)[i_2.toNat]!.lo)) }), (6, { tell := some (.i .i64 ((nrm a)[i_2.toNat]!.hi - (nrm a)[i_2.toNat]!.lo + (1:Int))) }), (7, { tell := some (.i .i64 (s_1 + ((nrm a)[i_2.toNat]!.hi - (nrm a)[i_2.toNat]!.lo + (1:Int)))) })] [3, 7, 8, 9] [] ⟨(told_i64 ?g1 ?g2), (told_i64 ?g3 ?g4), (told_i64 ?g5 ?g6)⟩ ?_; rotate_left 6
 refine q_blk_normal ?_
 refine sn ?_
 refine rg (A := (AV.i .i64 (IntKind.i64.wrap (i_2 + (1:Int))) = AV.i .i64 (i_2 + (1:Int)))) cx [(0, { tell := some (.i .i64 (i_2 + (1:Int))) })] [3, 7, 8, 9] [] (told_i64 (by omega) (by omega)) ?_
 refine sn ?_
 refine loop_next ((s_1 + ((nrm a)[i_2.toNat]!.hi - (nrm a)[i_2.toNat]!.lo + (1:Int)), i_2 + (1:Int))) (by kernel_rfl) (show ((↑(nrm a).length:Int) - (i_2 + (1:Int))).toNat < ((↑(nrm a).length:Int) - i_2).toNat from (by omega)) (show invZ a (s_1 + ((nrm a)[i_2.toNat]!.hi - (nrm a)[i_2.toNat]!.lo + (1:Int))) (i_2 + (1:Int)) from ?g7); rotate_left 1
 refine st_exit 0 (by kernel_rfl) ?_
 refine q_seq_exit ?_
 refine q_seq_exit ?_
 refine q_blk_hit ?_
 refine sn (sq ?_)
 refine rg (A := True) cx [] [2] [] trivial ?_
 refine sn ?_
 refine st_ret (by kernel_rfl) ?_
 refine q_ret (r := .i .i64 (s_1)) (obl := []) (by kernel_rfl) trivial (AVle.eq (show AV.i .i64 s_1 = AV.i .i64 (sizeR (nrm a)) from ?g8)); rotate_left 1
 rotate_left
 revert s_1 i_2 h_4 h_5 h_6 h_7; rotate_left
 revert s_1 i_2 h_4 h_5 h_6 h_7; rotate_left
 revert s_1 i_2 h_4 h_5 h_6 h_7; rotate_left
 revert s_1 i_2 h_4 h_5 h_6 h_7; rotate_left
 revert s_1 i_2 h_4 h_5 h_6 h_7; rotate_left
 revert s_1 i_2 h_4 h_5 h_6 h_7; rotate_left
 revert s_1 i_2 h_4 h_5 h_6 h_7; rotate_left
 revert s_1 i_2 h_4 h_5 h_6 h_7; rotate_left
 case g0 => exact ⟨by omega, by omega, by simp [sizeR]⟩
 case g7 => intro s i h0 h1 h2 h3; exact ⟨by omega, by omega, by rw [h2, sizeR_next h0 h3]⟩
 case g8 => intro s i h0 h1 h2 h3; rw [h2, List.take_of_length_le (by omega)]
 all_goals (intro s i h0 h1 h2 h3; have := hr i h0 h3; have := hz i; omega)
theorem con145 (p : Past) (hb : p.cloud.length * 16 ≤ 140737488350000) : Con Tryz.prog 145 [.agg (c26 p)] (.i .i64 (sizeP p)) :=
 by
 have hz := sizeT_rng (openT [p])
 have hr : ∀ r, 0 ≤ sizeR (nrm (openT [p] r)) ∧ sizeR (nrm (openT [p] r)) ≤ 1000000000 := fun r => sizeR_rng (nrm_sep _)
 refine st_con tab_ok (by kernel_rfl) [.tmp 2] 21 Go.Proofs.Tryz.func145 (by kernel_rfl) (by kernel_rfl) ?_
 intro e0 cx
 refine sq ?_
 refine rg (A := True) cx [] [1] [1] trivial ?_
 refine sn (sq ?_)
 refine rg (A := True) cx [] [1, 3] [1] trivial ?_
 refine sn (sq ?_)
 refine sq ?_
 refine rg (A := _) cx [(2, { val := some (.ptr ((152:Nat)) (0) (0) (0)), row := (tabC c154 (16:Nat) (openT [p])) })] [3, 8, 10] [8] (con102 ([p]) ?g0) ?_; rotate_left 1
 refine sn ?_
 refine st_block 0 (by kernel_rfl) ?_
 refine st_loop (X := Int × Int × (Nat → List Run)) (fun x => ⟨[(3, .i .i64 (x.fst)), (8, .ptr (8) (0) (0) (0)), (10, .i .i64 (x.snd.fst))], [(8, ⟨0, 152, .arr (tabC c154 (16:Nat) x.snd.snd)⟩)]⟩) (fun x ↦ decSz p x.fst x.snd.fst x.snd.snd) (fun x ↦ invSz p x.fst x.snd.fst x.snd.snd) [3, 8, 10] [8] (((0:Int), (0:Int), openT [p])) (by kernel_rfl) (by kernel_rfl) (show invSz p (0:Int) (0:Int) (openT [p]) from ?g1) ?_; rotate_left 1
 rintro ⟨s_0, i_1, T_2⟩ h_3
 obtain ⟨h_4, h_5, h_6, h_7⟩ : T_2 = openT [p] ∧ (0:Int) ≤ i_1 ∧ i_1 ≤ (16:Int) ∧ s_0 = sizeT (openT [p]) i_1.toNat := h_3
 refine sq ?_
 refine rg (A := (AV.b (decide (i_1 < (16:Int))) = AV.b (decide (i_1 < (16:Int))))) cx [(0, { tell := some (.b (decide (i_1 < (16:Int)))) })] [3, 8, 10, 11] [8] (by kernel_rfl) ?_
 refine sn (sq ?_)
 refine st_dec (i_1 < (16:Int)) (by kernel_rfl) (by kernel_rfl) (fun h_8 => ?_) (fun h_8 => ?_)
 refine st_skip (by kernel_rfl) ?_
 refine sn (sq ?_)
 refine st_block 1 (by kernel_rfl) ?_
 refine sq ?_
 refine rg (A := ((0:Int) ≤ i_1) ∧ (i_1 < (↑(16:Nat):Int)) ∧ ((tabC c154 (16:Nat) T_2)[i_1.toNat * (1:Nat) + 0]? = some (AV.sl (List.map c154 (T_2 i_1.toNat))))) cx [(2, { row := [.sl (List.map c154 (T_2 i_1.toNat))] })] [3, 8, 10, 5] [8] ⟨(by (with_reducible assumption)), (by omega), (by (simp only [Nat.mul_one, Nat.add_zero, Nat.zero_add]; with_reducible refine get_tabC ?_; omega))⟩ ?_
 refine sn ?_
 have hl_9 := (rng_nrm (T_2 i_1.toNat))
 refine rg (A := _ ∧ (AV.i .i64 (IntKind.i64.wrap (s_0 + sizeR (nrm (T_2 i_1.toNat)))) = AV.i .i64 (s_0 + sizeR (nrm (T_2 i_1.toNat))))) cx [(2, { val := some (.i .i64 (sizeR (nrm (T_2 i_1.toNat)))) }), (3, { tell := some (.i .i64 (s_0 + sizeR (nrm (T_2 i_1.toNat)))) })] [3, 8, 10] [8] ⟨(con180 (T_2 i_1.toNat) ?g2), (told_i64 ?g3 ?g4)⟩ ?_; rotate_left 3
 refine q_blk_normal ?_
 refine sn ?_
 refine rg (A := (AV.i .i64 (IntKind.i64.wrap (i_1 + (1:Int))) = AV.i .i64 (i_1 + (1:Int)))) cx [(0, { tell := some (.i .i64 (i_1 + (1:Int))) })] [3, 8, 10] [8] (told_i64 (by omega) (by omega)) ?_
 refine sn ?_
 refine loop_next ((s_0 + sizeR (nrm (T_2 i_1.toNat)), i_1 + (1:Int), T_2)) (by kernel_rfl) (show ((16:Int) - (i_1 + (1:Int))).toNat < ((16:Int) - i_1).toNat from (by omega)) (show invSz p (s_0 + sizeR (nrm (T_2 i_1.toNat))) (i_1 + (1:Int)) T_2 from ?g5); rotate_left 1
 refine st_exit 0 (by kernel_rfl) ?_
 refine q_seq_exit ?_
 refine q_seq_exit ?_
 refine q_blk_hit ?_
 refine sn (sq ?_)
 refine rg (A := True) cx [] [2] [] trivial ?_
 refine sn ?_
 refine st_ret (by kernel_rfl) ?_
 refine q_ret (r := .i .i64 (s_0)) (obl := []) (by kernel_rfl) trivial (AVle.eq (show AV.i .i64 s_0 = AV.i .i64 (sizeP p) from ?g6)); rotate_left 1
 rotate_left
 rotate_left
 clear hl_9; revert s_0 i_1 T_2 h_4 h_5 h_6 h_7 h_8; rotate_left
 clear hl_9; revert s_0 i_1 T_2 h_4 h_5 h_6 h_7 h_8; rotate_left
 clear hl_9; revert s_0 i_1 T_2 h_4 h_5 h_6 h_7 h_8; rotate_left
 clear hl_9; revert s_0 i_1 T_2 h_4 h_5 h_6 h_7 h_8; rotate_left
 revert s_0 i_1 T_2 h_4 h_5 h_6 h_7 h_8; rotate_left
 case g0 => exact tot_le hb
 case g1 => exact ⟨rfl, by omega, by omega, rfl⟩
 case g2 => intro s i T h0 h1 h2 h3 h4; subst h0; exact open_le hb _
 case g3 => intro s i T h0 h1 h2 h3 h4; subst h0; have := hz i.toNat; have := hr i.toNat; omega
 case g4 => intro s i T h0 h1 h2 h3 h4; subst h0; have := hz i.toNat; have := hr i.toNat; omega
 case g5 => intro s i T h0 h1 h2 h3 h4; subst h0; exact ⟨rfl, by omega, by omega, by rw [show (i + 1).toNat = i.toNat + 1 by omega, sizeT, h3]⟩
 case g6 => intro s i T h0 h1 h2 h3 h4; rw [h3, show i.toNat = 16 by omega, sizeP_eq]
theorem con98 (p : Past) (hb : p.cloud.length * 16 ≤ 140737488350000) : Con Tryz.prog 98 [.agg (c26 p)] (.b (decide (sizeP p = 0))) :=
 by
 refine st_con tab_ok (by kernel_rfl) [.tmp 2] 6 Go.Proofs.Tryz.func98 (by kernel_rfl) (by kernel_rfl) ?_
 intro e0 cx
 refine sq ?_
 refine rg (A := True) cx [] [1] [1] trivial ?_
 refine sn (sq ?_)
 refine rg (A := _ ∧ (AV.b (sizeP p == (0:Int)) = AV.b (decide (sizeP p = (0:Int))))) cx [(1, { val := some (.i .i64 (sizeP p)) }), (2, { tell := some (.b (decide (sizeP p = (0:Int)))) })] [2] [] ⟨(con145 (p) (by (with_reducible assumption))), (by kernel_rfl)⟩ ?_
 refine sn ?_
 refine st_ret (by kernel_rfl) ?_
 exact q_ret (r := .b (decide (sizeP p = (0:Int)))) (obl := []) (by kernel_rfl) trivial (AVle.refl _)
end Go.Proofs.YtaiepnaokhpmcaaGreat
namespace Go.Proofs.YtaiepnaokhpmcaaGreat
open Go.E
set_option maxRecDepth 100000
set_option maxHeartbeats 4000000
def szR (r : Record) : Prop := r.past.cloud.length * 16 ≤ 140737488350000
def szRs (rs : List Record) : Prop := ∀ r ∈ rs, szR r
theorem szRs_at {rs : List Record} (h : szRs rs) {i : Int} (h0 : 0 ≤ i) (hi : i < rs.length) : szR rs[i.toNat]! := h _ (bang_in (by omega))
theorem szRs_at' {rs : List Record} (h : szRs rs) {i : Int} (h0 : 0 < i) (hi : i < rs.length) : szR rs[(i - 1).toNat]! := h _ (bang_in (by omega))
def invKc (rs : List Record) (i:Int) : Prop := 0 ≤ i ∧ i ≤ rs.length ∧ ∀ j : Nat, (j:Int) < i → okRs rs j = true
def decKc (rs : List Record) (i:Int) : Nat := (rs.length - i).toNat
theorem invKc_step {rs : List Record} {i : Int} (h0 : 0 ≤ i) (h1 : i < rs.length) (h2 : ∀ j : Nat, (j:Int) < i → okRs rs j = true) (h : okRs rs i.toNat = true) : invKc rs (i + 1) :=
 ⟨by omega, by omega, fun j hj => by
  by_cases e : j = i.toNat
  ·rw [e]; exact h
  ·exact h2 j (by omega)⟩
theorem con132 (r : Record) (hb : szR r) : Con Tryz.prog 132 [.agg (c81 r)] (.i .i64 (ckR r)) :=
 by
 have g : ∀ {b : Bool}, ¬ b = true → b = false := fun {b} h => by cases b <;> simp_all
 refine st_con tab_ok (by kernel_rfl) [.tmp 2] 21 Go.Proofs.Tryz.func132 (by kernel_rfl) (by kernel_rfl) ?_
 intro e0 cx
 refine sq ?_
 refine rg (A := True) cx [] [1] [1] trivial ?_
 refine sn (sq ?_)
 refine sq ?_
 refine st_join (σ' := ⟨[(1, .ptr (1) (0) (0) (0)), (11, .b (decide (¬r.sku = { data := #[] : ByteArray } ∧ ¬good r.sku = true)))], [(1, ⟨0, 81, .var [.s (r.sku), .sl (List.map c3 r.past.vec), .sl (List.map c104 r.past.cloud)]⟩)]⟩) ?_ ?_
 refine st_split (¬r.sku = { data := #[] : ByteArray }) (fun h_1 => ?_) (fun h_1 => ?_)
 refine rg (A := ((AV.b !r.sku.toList == { data := #[] : ByteArray }.toList) = AV.b true) ∧ _ ∧ ((AV.b !good r.sku) = AV.b (decide ¬good r.sku = true)) ∧ (AV.b (decide ¬good r.sku = true) = AV.b (decide (¬r.sku = { data := #[] : ByteArray } ∧ ¬good r.sku = true)))) cx [(2, { tell := some (.b (true)) }), (6, { val := some (.b (good r.sku)) }), (7, { tell := some (.b (decide ¬good r.sku = true)) }), (8, { tell := some (.b (decide (¬r.sku = { data := #[] : ByteArray } ∧ ¬good r.sku = true))) })] [1, 11] [1] ⟨(told_snet h_1), (con138 (r.sku)), (told_not), (by simp only [eq_false h_1, told_simp1, told_simp2, and_true, true_and, and_false, false_and, or_true, true_or, or_false, false_or, not_true_eq_false, not_false_eq_true, decide_true, decide_false, Bool.decide_eq_true])⟩ ?_
 exact ⟨rfl, by kernel_rfl⟩
 refine rg (A := ((AV.b !r.sku.toList == { data := #[] : ByteArray }.toList) = AV.b (decide ¬r.sku = { data := #[] : ByteArray })) ∧ _ ∧ (AV.b false = AV.b (decide (¬r.sku = { data := #[] : ByteArray } ∧ ¬good r.sku = true)))) cx [(2, { tell := some (.b (decide ¬r.sku = { data := #[] : ByteArray })) }), (3, { tell := some (.b (false)) }), (8, { tell := some (.b (decide (¬r.sku = { data := #[] : ByteArray } ∧ ¬good r.sku = true))) })] [1, 11] [1] ⟨(told_sne), (told_false h_1), (by simp only [eq_false h_1, told_simp1, told_simp2, and_true, true_and, and_false, false_and, or_true, true_or, or_false, false_or, not_true_eq_false, not_false_eq_true, decide_true, decide_false, Bool.decide_eq_true])⟩ ?_
 exact ⟨rfl, by kernel_rfl⟩
 refine sn ?_
 refine st_dec (¬r.sku = { data := #[] : ByteArray } ∧ ¬good r.sku = true) (by kernel_rfl) (by kernel_rfl) (fun h_2 => ?_) (fun h_2 => ?_)
 refine sq ?_
 refine rg (A := True) cx [] [2] [] trivial ?_
 refine sn ?_
 refine st_ret (by kernel_rfl) ?_
 refine q_seq_ret ?_
 refine q_ret (r := .i .i64 ((5:Int))) (obl := []) (by kernel_rfl) trivial (AVle.eq (show AV.i .i64 (5:Int) = AV.i .i64 (ckR r) from ?g0)); rotate_left 1
 refine st_skip (by kernel_rfl) ?_
 refine sn (sq ?_)
 refine sq ?_
 refine st_join (σ' := ⟨[(20, .b (decide (¬r.past = normP r.past ∨ sizeP r.past = (0:Int))))], []⟩) ?_ ?_
 refine st_split (¬r.past = normP r.past) (fun h_4 => ?_) (fun h_4 => ?_)
 refine rg (A := _ ∧ _ ∧ (AV.b true = AV.b (decide (¬r.past = normP r.past ∨ sizeP r.past = (0:Int))))) cx [(2, { val := some (.b (decide (r.past = normP r.past))), tell := some (.b (false)) }), (8, { tell := some (.b (decide (¬r.past = normP r.past ∨ sizeP r.past = (0:Int)))) })] [20] [] ⟨(told_false h_4), (con82 (r.past) ?g1), (by simp only [eq_false h_4, told_simp1, told_simp2, and_true, true_and, and_false, false_and, or_true, true_or, or_false, false_or, not_true_eq_false, not_false_eq_true, decide_true, decide_false, Bool.decide_eq_true])⟩ ?_; rotate_left 1
 exact ⟨rfl, by kernel_rfl⟩
 refine rg (A := _ ∧ ((AV.b !decide (r.past = normP r.past)) = AV.b (decide ¬r.past = normP r.past)) ∧ _ ∧ _ ∧ (AV.b (decide (sizeP r.past = (0:Int))) = AV.b (decide (¬r.past = normP r.past ∨ sizeP r.past = (0:Int))))) cx [(2, { val := some (.b (decide (r.past = normP r.past))) }), (3, { tell := some (.b (decide ¬r.past = normP r.past)) }), (4, { tell := some (.b (false)) }), (7, { val := some (.b (decide (sizeP r.past = (0:Int)))) }), (8, { tell := some (.b (decide (¬r.past = normP r.past ∨ sizeP r.past = (0:Int)))) })] [20] [] ⟨(con82 (r.past) ?g2), (told_notd), (told_false h_4), (con98 (r.past) ?g3), (by simp only [eq_false h_4, told_simp1, told_simp2, and_true, true_and, and_false, false_and, or_true, true_or, or_false, false_or, not_true_eq_false, not_false_eq_true, decide_true, decide_false, Bool.decide_eq_true])⟩ ?_; rotate_left 2
 exact ⟨rfl, by kernel_rfl⟩
 refine sn ?_
 refine st_dec (¬r.past = normP r.past ∨ sizeP r.past = (0:Int)) (by kernel_rfl) (by kernel_rfl) (fun h_5 => ?_) (fun h_5 => ?_)
 refine sq ?_
 refine rg (A := True) cx [] [2] [] trivial ?_
 refine sn ?_
 refine st_ret (by kernel_rfl) ?_
 refine q_seq_ret ?_
 refine q_ret (r := .i .i64 ((1:Int))) (obl := []) (by kernel_rfl) trivial (AVle.eq (show AV.i .i64 (1:Int) = AV.i .i64 (ckR r) from ?g4)); rotate_left 1
 refine st_skip (by kernel_rfl) ?_
 refine sn (sq ?_)
 refine rg (A := True) cx [] [2] [] trivial ?_
 refine sn ?_
 refine st_ret (by kernel_rfl) ?_
 refine q_ret (r := .i .i64 ((0:Int))) (obl := []) (by kernel_rfl) trivial (AVle.eq (show AV.i .i64 (0:Int) = AV.i .i64 (ckR r) from ?g5)); rotate_left 1
 revert h_2; rotate_left
 revert h_2 h_4; rotate_left
 revert h_2 h_4; rotate_left
 revert h_2 h_4; rotate_left
 revert h_2 h_5; rotate_left
 revert h_2 h_5; rotate_left
 case g0 => intro h; unfold ckR; rw [if_pos ⟨h.1, g h.2⟩]
 case g1 => intros; exact hb
 case g2 => intros; exact hb
 case g3 => intros; exact hb
 case g4 => intro h k; unfold ckR; rw [if_neg (fun c => h ⟨c.1, by rw [c.2]; simp⟩), if_pos k]
 case g5 => intro h k; unfold ckR; rw [if_neg (fun c => h ⟨c.1, by rw [c.2]; simp⟩), if_neg k]
theorem con106 (r s : Record) (hr : szR r) (hs : szR s) : Con Tryz.prog 106 [.agg (c81 r), .agg (c81 s)] (.i .i64 (cmpRec r s)) :=
 by
 refine st_con tab_ok (by kernel_rfl) [.tmp 4] 19 Go.Proofs.Tryz.func106 (by kernel_rfl) (by kernel_rfl) ?_
 intro e0 cx
 refine sq ?_
 refine rg (A := True) cx [] [2, 3] [2, 3] trivial ?_
 refine sn (sq ?_)
 refine sq ?_
 refine rg (A := _) cx [(4, { val := some (.i .i64 (cmpSt r.sku s.sku)) })] [2, 3, 5] [2, 3] (con151 (r.sku) (s.sku)) ?_
 refine sn (sq ?_)
 refine rg (A := (AV.b (cmpSt r.sku s.sku != (0:Int)) = AV.b (decide ¬cmpSt r.sku s.sku = (0:Int)))) cx [(1, { tell := some (.b (decide ¬cmpSt r.sku s.sku = (0:Int))) })] [2, 3, 5, 12] [2, 3] (told_neq) ?_
 refine sn ?_
 refine st_dec (¬cmpSt r.sku s.sku = (0:Int)) (by kernel_rfl) (by kernel_rfl) (fun h_0 => ?_) (fun h_0 => ?_)
 refine sq ?_
 refine rg (A := True) cx [] [4] [] trivial ?_
 refine sn ?_
 refine st_ret (by kernel_rfl) ?_
 refine q_seq_ret ?_
 refine q_ret (r := .i .i64 (cmpSt r.sku s.sku)) (obl := []) (by kernel_rfl) trivial (AVle.eq (show AV.i .i64 (cmpSt r.sku s.sku) = AV.i .i64 (cmpRec r s) from ?g0)); rotate_left 1
 refine st_skip (by kernel_rfl) ?_
 refine sn (sq ?_)
 refine rg (A := _) cx [(4, { val := some (.i .i64 (cmpP r.past s.past)) })] [4] [] (con152 (r.past) (s.past) ?g1 ?g2) ?_; rotate_left 2
 refine sn ?_
 refine st_ret (by kernel_rfl) ?_
 refine q_ret (r := .i .i64 (cmpP r.past s.past)) (obl := []) (by kernel_rfl) trivial (AVle.eq (show AV.i .i64 (cmpP r.past s.past) = AV.i .i64 (cmpRec r s) from ?g3)); rotate_left 1
 revert h_0; rotate_left
 revert h_0; rotate_left
 revert h_0; rotate_left
 revert h_0; rotate_left
 case g0 => intro h; unfold cmpRec; rw [if_pos h]
 case g1 => intro h; exact hr
 case g2 => intro h; exact hs
 case g3 => intro h; unfold cmpRec; rw [if_neg h]
theorem con83 (rs : List Record) (hb : szRs rs) : Con Tryz.prog 83 [.sl (rs.map c81)] (.i .i64 (recE rs)) :=
 by
 have e : ∀ {i : Int}, 0 ≤ i → (i - 1).toNat = i.toNat - 1 := fun {i} h => by omega
 refine con_lens 0 (c81) (rs) (by kernel_rfl) Go.Proofs.Tryz.func83 (by kernel_rfl) fun hl_0 => ?_
 refine st_con tab_ok (by kernel_rfl) [.tmp 2] 30 Go.Proofs.Tryz.func83 (by kernel_rfl) (by kernel_rfl) ?_
 intro e0 cx
 refine sq ?_
 refine rg (A := True) cx [] [0] [] trivial ?_
 refine sn (sq ?_)
 refine sq ?_
 refine rg (A := _) cx [(1, { tell := some (.i .i64 ((↑rs.length:Int))) })] [0, 5, 6, 7] [] (told_len c81 rs) ?_
 refine sn ?_
 refine st_block 0 (by kernel_rfl) ?_
 refine st_loop (X := Int) (fun x => ⟨[(0, .sl (List.map c81 rs)), (5, .sl (List.map c81 rs)), (6, .i .i64 ((↑rs.length:Int))), (7, .i .i64 (x))], []⟩) (fun x ↦ decKc rs x) (fun x ↦ invKc rs x) [0, 5, 6, 7] [] ((0:Int)) (by kernel_rfl) (by kernel_rfl) (show invKc rs (0:Int) from ?g0) ?_; rotate_left 1
 intro i_0 h_1
 obtain ⟨h_2, h_3, h_4⟩ : (0:Int) ≤ i_0 ∧ i_0 ≤ (↑rs.length:Int) ∧ ∀ (j:Nat), (↑j:Int) < i_0 → okRs rs j = true := h_1
 refine sq ?_
 refine rg (A := (AV.b (decide (i_0 < (↑rs.length:Int))) = AV.b (decide (i_0 < (↑rs.length:Int))))) cx [(0, { tell := some (.b (decide (i_0 < (↑rs.length:Int)))) })] [0, 5, 6, 7, 8] [] (by kernel_rfl) ?_
 refine sn (sq ?_)
 refine st_dec (i_0 < (↑rs.length:Int)) (by kernel_rfl) (by kernel_rfl) (fun h_5 => ?_) (fun h_5 => ?_)
 refine st_skip (by kernel_rfl) ?_
 refine sn (sq ?_)
 refine st_block 1 (by kernel_rfl) ?_
 refine sq ?_
 refine rg (A := ((0:Int) ≤ i_0) ∧ ((List.map c81 rs)[i_0.toNat]? = some (c81 rs[i_0.toNat]!)) ∧ ((c81 rs[i_0.toNat]!).length = (3:Nat)) ∧ ((3:Nat) ≤ [AV.s rs[i_0.toNat]!.sku, AV.sl (List.map c3 rs[i_0.toNat]!.past.vec), AV.sl (List.map c104 rs[i_0.toNat]!.past.cloud)].length)) cx [(1, { row := (c81 rs[i_0.toNat]!) })] [0, 5, 6, 7, 4, 3] [4] ⟨(by (with_reducible assumption)), (by (with_reducible refine get_map ?_; omega)), (by kernel_rfl), (by (simp only [List.length_append, List.length_cons, List.length_nil]; omega))⟩ ?_
 refine sn (sq ?_)
 refine st_join (σ' := ⟨[(0, .sl (List.map c81 rs)), (5, .sl (List.map c81 rs)), (6, .i .i64 ((↑rs.length:Int))), (7, .i .i64 (i_0)), (28, .b (decide (¬ckR rs[i_0.toNat]! = (0:Int) ∨ (0:Int) < i_0 ∧ (0:Int) ≤ cmpRec rs[(i_0 - (1:Int)).toNat]! rs[i_0.toNat]!)))], []⟩) ?_ ?_
 refine st_split (¬ckR rs[i_0.toNat]! = (0:Int)) (fun h_7 => ?_) (fun h_7 => ?_)
 refine ra (A := _ ∧ _ ∧ (AV.b true = AV.b (decide (¬ckR rs[i_0.toNat]! = (0:Int) ∨ (0:Int) < i_0 ∧ (0:Int) ≤ cmpRec rs[(i_0 - (1:Int)).toNat]! rs[i_0.toNat]!)))) cx [(1, { val := some (.i .i64 (ckR rs[i_0.toNat]!)) }), (2, { tell := some (.b (true)) }), (16, { tell := some (.b (decide (¬ckR rs[i_0.toNat]! = (0:Int) ∨ (0:Int) < i_0 ∧ (0:Int) ≤ cmpRec rs[(i_0 - (1:Int)).toNat]! rs[i_0.toNat]!))) })] [0, 5, 6, 7, 28] [] ⟨(con132 (rs[i_0.toNat]!) ?g1), (told_neqt h_7), (by simp only [eq_false h_7, told_simp1, told_simp2, and_true, true_and, and_false, false_and, or_true, true_or, or_false, false_or, not_true_eq_false, not_false_eq_true, decide_true, decide_false, Bool.decide_eq_true])⟩ ?_; rotate_left 1
 exact ⟨rfl, by kernel_rfl⟩
 refine st_split ((0:Int) < i_0) (fun h_8 => ?_) (fun h_8 => ?_)
 refine ra (A := _ ∧ (AV.b (ckR rs[i_0.toNat]! != (0:Int)) = AV.b (decide ¬ckR rs[i_0.toNat]! = (0:Int))) ∧ _ ∧ _ ∧ (AV.i .i64 (IntKind.i64.wrap (i_0 - (1:Int))) = AV.i .i64 (i_0 - (1:Int))) ∧ ((0:Int) ≤ i_0 - (1:Int)) ∧ ((List.map c81 rs)[(i_0 - (1:Int)).toNat]? = some (c81 rs[(i_0 - (1:Int)).toNat]!)) ∧ ((c81 rs[(i_0 - (1:Int)).toNat]!).length = (3:Nat)) ∧ ((3:Nat) ≤ [AV.s rs[(i_0 - (1:Int)).toNat]!.sku, AV.sl (List.map c3 rs[(i_0 - (1:Int)).toNat]!.past.vec), AV.sl (List.map c104 rs[(i_0 - (1:Int)).toNat]!.past.cloud)].length) ∧ _ ∧ (AV.b (decide (cmpRec rs[(i_0 - (1:Int)).toNat]! rs[i_0.toNat]! ≥ (0:Int))) = AV.b (decide ((0:Int) ≤ cmpRec rs[(i_0 - (1:Int)).toNat]! rs[i_0.toNat]!))) ∧ (AV.b (decide ((0:Int) ≤ cmpRec rs[(i_0 - (1:Int)).toNat]! rs[i_0.toNat]!)) = AV.b (decide (¬ckR rs[i_0.toNat]! = (0:Int) ∨ (0:Int) < i_0 ∧ (0:Int) ≤ cmpRec rs[(i_0 - (1:Int)).toNat]! rs[i_0.toNat]!)))) cx [(1, { val := some (.i .i64 (ckR rs[i_0.toNat]!)) }), (2, { tell := some (.b (decide ¬ckR rs[i_0.toNat]! = (0:Int))) }), (3, { tell := some (.b (false)) }), (5, { tell := some (.b (true)) }), (9, { tell := some (.i .i64 (i_0 - (1:Int))) }), (10, { row := (c81 rs[(i_0 - (1:Int)).toNat]!) }), (13, { val := some (.i .i64 (cmpRec rs[(i_0 - (1:Int)).toNat]! rs[i_0.toNat]!)) }), (14, { tell := some (.b (decide ((0:Int) ≤ cmpRec rs[(i_0 - (1:Int)).toNat]! rs[i_0.toNat]!))) }), (16, { tell := some (.b (decide (¬ckR rs[i_0.toNat]! = (0:Int) ∨ (0:Int) < i_0 ∧ (0:Int) ≤ cmpRec rs[(i_0 - (1:Int)).toNat]! rs[i_0.toNat]!))) })] [0, 5, 6, 7, 28] [] ⟨(con132 (rs[i_0.toNat]!) ?g2), (told_neq), (told_false h_7), (told_true h_8), (told_i64 (by omega) (by omega)), (by omega), (by (with_reducible refine get_map ?_; omega)), (by kernel_rfl), (by (simp only [List.length_append, List.length_cons, List.length_nil]; omega)), (con106 (rs[(i_0 - (1:Int)).toNat]!) (rs[i_0.toNat]!) ?g3 ?g4), (by kernel_rfl), (by simp only [eq_false h_7, eq_true h_8, told_simp1, told_simp2, and_true, true_and, and_false, false_and, or_true, true_or, or_false, false_or, not_true_eq_false, not_false_eq_true, decide_true, decide_false, Bool.decide_eq_true])⟩ ?_; rotate_left 3
 exact ⟨rfl, by kernel_rfl⟩
 refine ra (A := _ ∧ (AV.b (ckR rs[i_0.toNat]! != (0:Int)) = AV.b (decide ¬ckR rs[i_0.toNat]! = (0:Int))) ∧ _ ∧ _ ∧ (AV.b false = AV.b (decide (¬ckR rs[i_0.toNat]! = (0:Int) ∨ (0:Int) < i_0 ∧ (0:Int) ≤ cmpRec rs[(i_0 - (1:Int)).toNat]! rs[i_0.toNat]!)))) cx [(1, { val := some (.i .i64 (ckR rs[i_0.toNat]!)) }), (2, { tell := some (.b (decide ¬ckR rs[i_0.toNat]! = (0:Int))) }), (3, { tell := some (.b (false)) }), (5, { tell := some (.b (false)) }), (16, { tell := some (.b (decide (¬ckR rs[i_0.toNat]! = (0:Int) ∨ (0:Int) < i_0 ∧ (0:Int) ≤ cmpRec rs[(i_0 - (1:Int)).toNat]! rs[i_0.toNat]!))) })] [0, 5, 6, 7, 28] [] ⟨(con132 (rs[i_0.toNat]!) ?g5), (told_neq), (told_false h_7), (told_false h_8), (by simp only [eq_false h_7, eq_false h_8, told_simp1, told_simp2, and_true, true_and, and_false, false_and, or_true, true_or, or_false, false_or, not_true_eq_false, not_false_eq_true, decide_true, decide_false, Bool.decide_eq_true])⟩ ?_; rotate_left 1
 exact ⟨rfl, by kernel_rfl⟩
 refine sn ?_
 refine st_dec (¬ckR rs[i_0.toNat]! = (0:Int) ∨ (0:Int) < i_0 ∧ (0:Int) ≤ cmpRec rs[(i_0 - (1:Int)).toNat]! rs[i_0.toNat]!) (by kernel_rfl) (by kernel_rfl) (fun h_9 => ?_) (fun h_9 => ?_)
 refine sq ?_
 refine rg (A := True) cx [] [2] [] trivial ?_
 refine sn ?_
 refine st_ret (by kernel_rfl) ?_
 refine q_blk_ret ?_
 refine q_seq_ret ?_
 refine q_seq_ret ?_
 refine q_blk_ret ?_
 refine q_seq_ret ?_
 refine q_ret (r := .i .i64 ((1:Int))) (obl := []) (by kernel_rfl) trivial (AVle.eq (show AV.i .i64 (1:Int) = AV.i .i64 (recE rs) from ?g6)); rotate_left 1
 refine st_skip (by kernel_rfl) ?_
 refine q_blk_normal ?_
 refine sn ?_
 refine rg (A := (AV.i .i64 (IntKind.i64.wrap (i_0 + (1:Int))) = AV.i .i64 (i_0 + (1:Int)))) cx [(0, { tell := some (.i .i64 (i_0 + (1:Int))) })] [0, 5, 6, 7] [] (told_i64 (by omega) (by omega)) ?_
 refine sn ?_
 refine loop_next (i_0 + (1:Int)) (by kernel_rfl) (show ((↑rs.length:Int) - (i_0 + (1:Int))).toNat < ((↑rs.length:Int) - i_0).toNat from (by omega)) (show invKc rs (i_0 + (1:Int)) from ?g7); rotate_left 1
 refine st_exit 0 (by kernel_rfl) ?_
 refine q_seq_exit ?_
 refine q_seq_exit ?_
 refine q_blk_hit ?_
 refine sn (sq ?_)
 refine rg (A := True) cx [] [2] [] trivial ?_
 refine sn ?_
 refine st_ret (by kernel_rfl) ?_
 refine q_ret (r := .i .i64 ((0:Int))) (obl := []) (by kernel_rfl) trivial (AVle.eq (show AV.i .i64 (0:Int) = AV.i .i64 (recE rs) from ?g8)); rotate_left 1
 rotate_left
 revert i_0 h_2 h_3 h_4 h_5 h_7; rotate_left
 revert i_0 h_2 h_3 h_4 h_5 h_7 h_8; rotate_left
 revert i_0 h_2 h_3 h_4 h_5 h_7 h_8; rotate_left
 revert i_0 h_2 h_3 h_4 h_5 h_7 h_8; rotate_left
 revert i_0 h_2 h_3 h_4 h_5 h_7 h_8; rotate_left
 revert i_0 h_2 h_3 h_4 h_5 h_9; rotate_left
 revert i_0 h_2 h_3 h_4 h_5 h_9; rotate_left
 revert i_0 h_2 h_3 h_4 h_5; rotate_left
 case g0 => exact ⟨by omega, by omega, fun j hj => by omega⟩
 case g1 => intro i h0 h1 h2 h3 h4; exact szRs_at hb h0 h3
 case g2 => intro i h0 h1 h2 h3 h4 h5; exact szRs_at hb h0 h3
 case g3 => intro i h0 h1 h2 h3 h4 h5; exact szRs_at' hb h5 h3
 case g4 => intro i h0 h1 h2 h3 h4 h5; exact szRs_at hb h0 h3
 case g5 => intro i h0 h1 h2 h3 h4 h5; exact szRs_at hb h0 h3
 case g6 =>
  intro i h0 h1 h2 h3 h4
  rw [recE_bad (i := i.toNat) (by omega)]
  rw [e h0] at h4
  rw [okRs_iff]
  rintro ⟨a, b⟩
  rcases h4 with h4 | ⟨h4, h5⟩
  ·exact h4 a
  ·omega
 case g7 =>
  intro i h0 h1 h2 h3 h4
  rw [e h0] at h4
  refine invKc_step h0 h3 h2 ((okRs_iff _ _).2 ⟨Classical.byContradiction fun a => h4 (.inl a), ?_⟩)
  by_cases c : i.toNat = 0
  ·exact .inl c
  ·exact .inr (Classical.byContradiction fun a => h4 (.inr ⟨by omega, by omega⟩))
 case g8 => intro i h0 h1 h2 h3; rw [recE_ok fun j hj => h2 j (by omega)]
end Go.Proofs.YtaiepnaokhpmcaaGreat
namespace Go.Proofs.YtaiepnaokhpmcaaGreat
open Go.E
set_option maxRecDepth 100000
set_option maxHeartbeats 4000000
def invSV (a b : Past) (i:Int) (v : List Int) (c : List Span) (w : List Int) (e : List Span) : Prop := v = a.vec ∧ c = a.cloud ∧ w = b.vec ∧ e = b.cloud ∧ 0 ≤ i ∧ i ≤ a.vec.length ∧ ∀ j : Nat, (j:Int) < i → a.vec[j]! = b.vec[j]!
def decSV (a : Past) (i:Int) (v : List Int) (c : List Span) (w : List Int) (e : List Span) : Nat := (a.vec.length - i).toNat
def invSC (a b : Past) (i:Int) (v : List Int) (c : List Span) (w : List Int) (e : List Span) : Prop := v = a.vec ∧ c = a.cloud ∧ w = b.vec ∧ e = b.cloud ∧ 0 ≤ i ∧ i ≤ a.cloud.length ∧ ∀ j : Nat, (j:Int) < i → a.cloud[j]! = b.cloud[j]!
def decSC (a : Past) (i:Int) (v : List Int) (c : List Span) (w : List Int) (e : List Span) : Nat := (a.cloud.length - i).toNat
theorem con46 (a b : Past) (h1 : a.vec.length ≤ 9223372036854775807) (h2 : a.cloud.length ≤ 9223372036854775807) : Con Tryz.prog 46 [.agg (c26 a), .agg (c26 b)] (.b (decide (a = b))) :=
 by
 refine st_con tab_ok (by kernel_rfl) [.tmp 4] 59 Go.Proofs.Tryz.func46 (by kernel_rfl) (by kernel_rfl) ?_
 intro e0 cx
 refine sq ?_
 refine rg (A := True) cx [] [2, 3] [2, 3] trivial ?_
 refine sn (sq ?_)
 refine sq ?_
 refine st_join (σ' := ⟨[(2, .ptr (2) (0) (0) (0)), (3, .ptr (3) (0) (0) (0)), (22, .b (decide (¬(↑a.vec.length:Int) = (↑b.vec.length:Int) ∨ ¬(↑a.cloud.length:Int) = (↑b.cloud.length:Int))))], [(2, ⟨0, 26, .var [.sl (List.map c3 a.vec), .sl (List.map c104 a.cloud)]⟩), (3, ⟨0, 26, .var [.sl (List.map c3 b.vec), .sl (List.map c104 b.cloud)]⟩)]⟩) ?_ ?_
 refine st_split (¬(↑a.vec.length:Int) = (↑b.vec.length:Int)) (fun h_1 => ?_) (fun h_1 => ?_)
 refine rg (A := _ ∧ _ ∧ _ ∧ (AV.b true = AV.b (decide (¬(↑a.vec.length:Int) = (↑b.vec.length:Int) ∨ ¬(↑a.cloud.length:Int) = (↑b.cloud.length:Int))))) cx [(2, { tell := some (.i .i64 ((↑a.vec.length:Int))) }), (5, { tell := some (.i .i64 ((↑b.vec.length:Int))) }), (6, { tell := some (.b (true)) }), (15, { tell := some (.b (decide (¬(↑a.vec.length:Int) = (↑b.vec.length:Int) ∨ ¬(↑a.cloud.length:Int) = (↑b.cloud.length:Int)))) })] [2, 3, 22] [2, 3] ⟨(told_len c3 a.vec), (told_len c3 b.vec), (told_neqt h_1), (by simp only [eq_false h_1, told_simp1, told_simp2, and_true, true_and, and_false, false_and, or_true, true_or, or_false, false_or, not_true_eq_false, not_false_eq_true, decide_true, decide_false, Bool.decide_eq_true])⟩ ?_
 exact ⟨rfl, by kernel_rfl⟩
 refine rg (A := _ ∧ _ ∧ (AV.b ((↑a.vec.length:Int) != (↑b.vec.length:Int)) = AV.b (decide ¬(↑a.vec.length:Int) = (↑b.vec.length:Int))) ∧ _ ∧ _ ∧ _ ∧ (AV.b ((↑a.cloud.length:Int) != (↑b.cloud.length:Int)) = AV.b (decide ¬(↑a.cloud.length:Int) = (↑b.cloud.length:Int))) ∧ (AV.b (decide ¬(↑a.cloud.length:Int) = (↑b.cloud.length:Int)) = AV.b (decide (¬(↑a.vec.length:Int) = (↑b.vec.length:Int) ∨ ¬(↑a.cloud.length:Int) = (↑b.cloud.length:Int))))) cx [(2, { tell := some (.i .i64 ((↑a.vec.length:Int))) }), (5, { tell := some (.i .i64 ((↑b.vec.length:Int))) }), (6, { tell := some (.b (decide ¬(↑a.vec.length:Int) = (↑b.vec.length:Int))) }), (7, { tell := some (.b (false)) }), (10, { tell := some (.i .i64 ((↑a.cloud.length:Int))) }), (13, { tell := some (.i .i64 ((↑b.cloud.length:Int))) }), (14, { tell := some (.b (decide ¬(↑a.cloud.length:Int) = (↑b.cloud.length:Int))) }), (15, { tell := some (.b (decide (¬(↑a.vec.length:Int) = (↑b.vec.length:Int) ∨ ¬(↑a.cloud.length:Int) = (↑b.cloud.length:Int)))) })] [2, 3, 22] [2, 3] ⟨(told_len c3 a.vec), (told_len c3 b.vec), (told_neq), (told_false h_1), (told_len c104 a.cloud), (told_len c104 b.cloud), (told_neq), (by simp only [eq_false h_1, told_simp1, told_simp2, and_true, true_and, and_false, false_and, or_true, true_or, or_false, false_or, not_true_eq_false, not_false_eq_true, decide_true, decide_false, Bool.decide_eq_true])⟩ ?_
 exact ⟨rfl, by kernel_rfl⟩
 refine sn ?_
 refine st_dec (¬(↑a.vec.length:Int) = (↑b.vec.length:Int) ∨ ¬(↑a.cloud.length:Int) = (↑b.cloud.length:Int)) (by kernel_rfl) (by kernel_rfl) (fun h_2 => ?_) (fun h_2 => ?_)
 refine sq ?_
 refine rg (A := True) cx [] [4] [] trivial ?_
 refine sn ?_
 refine st_ret (by kernel_rfl) ?_
 refine q_seq_ret ?_
 refine q_ret (r := .b (false)) (obl := []) (by kernel_rfl) trivial (AVle.eq (show AV.b false = AV.b (decide (a = b)) from ?g0)); rotate_left 1
 refine st_skip (by kernel_rfl) ?_
 refine sn (sq ?_)
 refine sq ?_
 refine rg (A := True) cx [] [2, 3, 5] [2, 3] trivial ?_
 refine sn ?_
 refine st_block 0 (by kernel_rfl) ?_
 refine st_loop (X := Int × List Int × List Span × List Int × List Span) (fun x => ⟨[(2, .ptr (2) (0) (0) (0)), (3, .ptr (3) (0) (0) (0)), (5, .i .i64 (x.fst))], [(2, ⟨0, 26, .var [.sl (List.map c3 x.snd.fst), .sl (List.map c104 x.snd.snd.fst)]⟩), (3, ⟨0, 26, .var [.sl (List.map c3 x.snd.snd.snd.fst), .sl (List.map c104 x.snd.snd.snd.snd)]⟩)]⟩) (fun x ↦ decSV a x.fst x.snd.fst x.snd.snd.fst x.snd.snd.snd.fst x.snd.snd.snd.snd) (fun x ↦ invSV a b x.fst x.snd.fst x.snd.snd.fst x.snd.snd.snd.fst x.snd.snd.snd.snd) [2, 3, 5] [2, 3] (((0:Int), a.vec, a.cloud, b.vec, b.cloud)) (by kernel_rfl) (by kernel_rfl) (show invSV a b (0:Int) a.vec a.cloud b.vec b.cloud from ?g1) ?_; rotate_left 1
 rintro ⟨i_3, v_4, c_5, w_6, e_7⟩ h_8
 obtain ⟨h_9, h_10, h_11, h_12, h_13, h_14, h_15⟩ : v_4 = a.vec ∧ c_5 = a.cloud ∧ w_6 = b.vec ∧ e_7 = b.cloud ∧ (0:Int) ≤ i_3 ∧ i_3 ≤ (↑a.vec.length:Int) ∧ ∀ (j:Nat), (↑j:Int) < i_3 → a.vec[j]! = b.vec[j]! := h_8
 refine sq ?_
 refine sq ?_
 refine rg (A := _ ∧ (AV.b (decide (i_3 < (↑v_4.length:Int))) = AV.b (decide (i_3 < (↑v_4.length:Int))))) cx [(3, { tell := some (.i .i64 ((↑v_4.length:Int))) }), (4, { tell := some (.b (decide (i_3 < (↑v_4.length:Int)))) })] [2, 3, 5, 27] [2, 3] ⟨(told_len c3 v_4), (by kernel_rfl)⟩ ?_
 refine sn ?_
 refine st_dec (i_3 < (↑v_4.length:Int)) (by kernel_rfl) (by kernel_rfl) (fun h_16 => ?_) (fun h_16 => ?_)
 refine st_skip (by kernel_rfl) ?_
 refine sn (sq ?_)
 refine st_block 1 (by kernel_rfl) ?_
 refine sq ?_
 refine ra (A := ((0:Int) ≤ i_3) ∧ ((List.map c3 v_4)[i_3.toNat]? = some (c3 v_4[i_3.toNat]!)) ∧ ((c3 v_4[i_3.toNat]!).length = (1:Nat)) ∧ ((0:Int) ≤ i_3) ∧ ((List.map c3 w_6)[i_3.toNat]? = some (c3 w_6[i_3.toNat]!)) ∧ ((c3 w_6[i_3.toNat]!).length = (1:Nat)) ∧ (AV.b (v_4[i_3.toNat]! != w_6[i_3.toNat]!) = AV.b (decide ¬v_4[i_3.toNat]! = w_6[i_3.toNat]!))) cx [(3, { row := (c3 v_4[i_3.toNat]!) }), (8, { row := (c3 w_6[i_3.toNat]!) }), (10, { tell := some (.b (decide ¬v_4[i_3.toNat]! = w_6[i_3.toNat]!)) })] [2, 3, 5, 40] [2, 3] ⟨(by (with_reducible assumption)), (by (with_reducible refine get_map ?_; omega)), (by kernel_rfl), (by (with_reducible assumption)), ?g2, (by kernel_rfl), (told_neq)⟩ ?_; rotate_left 1
 refine sn ?_
 refine st_dec (¬v_4[i_3.toNat]! = w_6[i_3.toNat]!) (by kernel_rfl) (by kernel_rfl) (fun h_17 => ?_) (fun h_17 => ?_)
 refine sq ?_
 refine rg (A := True) cx [] [4] [] trivial ?_
 refine sn ?_
 refine st_ret (by kernel_rfl) ?_
 refine q_blk_ret ?_
 refine q_seq_ret ?_
 refine q_seq_ret ?_
 refine q_blk_ret ?_
 refine q_seq_ret ?_
 refine q_ret (r := .b (false)) (obl := []) (by kernel_rfl) trivial (AVle.eq (show AV.b false = AV.b (decide (a = b)) from ?g3)); rotate_left 1
 refine st_skip (by kernel_rfl) ?_
 refine q_blk_normal ?_
 refine sn ?_
 refine rg (A := (AV.i .i64 (IntKind.i64.wrap (i_3 + (1:Int))) = AV.i .i64 (i_3 + (1:Int)))) cx [(1, { tell := some (.i .i64 (i_3 + (1:Int))) })] [2, 3, 5] [2, 3] (told_i64 (by omega) ?g4) ?_; rotate_left 1
 refine sn ?_
 refine loop_next ((i_3 + (1:Int), v_4, c_5, w_6, e_7)) (by kernel_rfl) (show ((↑a.vec.length:Int) - (i_3 + (1:Int))).toNat < ((↑a.vec.length:Int) - i_3).toNat from ?g5) (show invSV a b (i_3 + (1:Int)) v_4 c_5 w_6 e_7 from ?g6); rotate_left 2
 refine st_exit 0 (by kernel_rfl) ?_
 refine q_seq_exit ?_
 refine q_seq_exit ?_
 refine q_blk_hit ?_
 refine sn (sq ?_)
 refine sq ?_
 refine rg (A := True) cx [] [2, 3, 6] [2, 3] trivial ?_
 refine sn ?_
 refine st_block 2 (by kernel_rfl) ?_
 refine st_loop (X := Int × List Int × List Span × List Int × List Span) (fun x => ⟨[(2, .ptr (2) (0) (0) (0)), (3, .ptr (3) (0) (0) (0)), (6, .i .i64 (x.fst))], [(2, ⟨0, 26, .var [.sl (List.map c3 x.snd.fst), .sl (List.map c104 x.snd.snd.fst)]⟩), (3, ⟨0, 26, .var [.sl (List.map c3 x.snd.snd.snd.fst), .sl (List.map c104 x.snd.snd.snd.snd)]⟩)]⟩) (fun x ↦ decSC a x.fst x.snd.fst x.snd.snd.fst x.snd.snd.snd.fst x.snd.snd.snd.snd) (fun x ↦ invSC a b x.fst x.snd.fst x.snd.snd.fst x.snd.snd.snd.fst x.snd.snd.snd.snd) [2, 3, 6] [2, 3] (((0:Int), v_4, c_5, w_6, e_7)) (by kernel_rfl) (by kernel_rfl) (show invSC a b (0:Int) v_4 c_5 w_6 e_7 from ?g7) ?_; rotate_left 1
 rintro ⟨i_18, v_19, c_20, w_21, e_22⟩ h_23
 obtain ⟨h_24, h_25, h_26, h_27, h_28, h_29, h_30⟩ : v_19 = a.vec ∧ c_20 = a.cloud ∧ w_21 = b.vec ∧ e_22 = b.cloud ∧ (0:Int) ≤ i_18 ∧ i_18 ≤ (↑a.cloud.length:Int) ∧ ∀ (j:Nat), (↑j:Int) < i_18 → a.cloud[j]! = b.cloud[j]! := h_23
 refine sq ?_
 refine sq ?_
 refine rg (A := _ ∧ (AV.b (decide (i_18 < (↑c_20.length:Int))) = AV.b (decide (i_18 < (↑c_20.length:Int))))) cx [(3, { tell := some (.i .i64 ((↑c_20.length:Int))) }), (4, { tell := some (.b (decide (i_18 < (↑c_20.length:Int)))) })] [2, 3, 6, 45] [2, 3] ⟨(told_len c104 c_20), (by kernel_rfl)⟩ ?_
 refine sn ?_
 refine st_dec (i_18 < (↑c_20.length:Int)) (by kernel_rfl) (by kernel_rfl) (fun h_31 => ?_) (fun h_31 => ?_)
 refine st_skip (by kernel_rfl) ?_
 refine sn (sq ?_)
 refine st_block 3 (by kernel_rfl) ?_
 refine sq ?_
 refine ra (A := ((0:Int) ≤ i_18) ∧ ((List.map c104 c_20)[i_18.toNat]? = some (c104 c_20[i_18.toNat]!)) ∧ ((c104 c_20[i_18.toNat]!).length = (3:Nat)) ∧ ((3:Nat) ≤ [AV.i .i64 c_20[i_18.toNat]!.rep, AV.i .i64 c_20[i_18.toNat]!.lo, AV.i .i64 c_20[i_18.toNat]!.hi].length) ∧ ((0:Int) ≤ i_18) ∧ ((List.map c104 e_22)[i_18.toNat]? = some (c104 e_22[i_18.toNat]!)) ∧ ((c104 e_22[i_18.toNat]!).length = (3:Nat)) ∧ ((3:Nat) ≤ [AV.i .i64 e_22[i_18.toNat]!.rep, AV.i .i64 e_22[i_18.toNat]!.lo, AV.i .i64 e_22[i_18.toNat]!.hi].length) ∧ (AggEq Tryz.prog (104:Nat) [AV.i .i64 c_20[i_18.toNat]!.rep, AV.i .i64 c_20[i_18.toNat]!.lo, AV.i .i64 c_20[i_18.toNat]!.hi] [AV.i .i64 e_22[i_18.toNat]!.rep, AV.i .i64 e_22[i_18.toNat]!.lo, AV.i .i64 e_22[i_18.toNat]!.hi] !decide ¬c_20[i_18.toNat]! = e_22[i_18.toNat]!)) cx [(3, { row := (c104 c_20[i_18.toNat]!) }), (8, { row := (c104 e_22[i_18.toNat]!) }), (10, { val := some (.b (decide ¬c_20[i_18.toNat]! = e_22[i_18.toNat]!)) })] [2, 3, 6, 58] [2, 3] ⟨(by (with_reducible assumption)), (by (with_reducible refine get_map ?_; omega)), (by kernel_rfl), (by (simp only [List.length_append, List.length_cons, List.length_nil]; omega)), (by (with_reducible assumption)), ?g8, (by kernel_rfl), (by (simp only [List.length_append, List.length_cons, List.length_nil]; omega)), (aggNe_dec (eq104 c_20[i_18.toNat]! e_22[i_18.toNat]!))⟩ ?_; rotate_left 1
 refine sn ?_
 refine st_dec (¬c_20[i_18.toNat]! = e_22[i_18.toNat]!) (by kernel_rfl) (by kernel_rfl) (fun h_32 => ?_) (fun h_32 => ?_)
 refine sq ?_
 refine rg (A := True) cx [] [4] [] trivial ?_
 refine sn ?_
 refine st_ret (by kernel_rfl) ?_
 refine q_blk_ret ?_
 refine q_seq_ret ?_
 refine q_seq_ret ?_
 refine q_blk_ret ?_
 refine q_seq_ret ?_
 refine q_ret (r := .b (false)) (obl := []) (by kernel_rfl) trivial (AVle.eq (show AV.b false = AV.b (decide (a = b)) from ?g9)); rotate_left 1
 refine st_skip (by kernel_rfl) ?_
 refine q_blk_normal ?_
 refine sn ?_
 refine rg (A := (AV.i .i64 (IntKind.i64.wrap (i_18 + (1:Int))) = AV.i .i64 (i_18 + (1:Int)))) cx [(1, { tell := some (.i .i64 (i_18 + (1:Int))) })] [2, 3, 6] [2, 3] (told_i64 (by omega) ?g10) ?_; rotate_left 1
 refine sn ?_
 refine loop_next ((i_18 + (1:Int), v_19, c_20, w_21, e_22)) (by kernel_rfl) (show ((↑a.cloud.length:Int) - (i_18 + (1:Int))).toNat < ((↑a.cloud.length:Int) - i_18).toNat from ?g11) (show invSC a b (i_18 + (1:Int)) v_19 c_20 w_21 e_22 from ?g12); rotate_left 2
 refine st_exit 2 (by kernel_rfl) ?_
 refine q_seq_exit ?_
 refine q_seq_exit ?_
 refine q_blk_hit ?_
 refine sn (sq ?_)
 refine rg (A := True) cx [] [4] [] trivial ?_
 refine sn ?_
 refine st_ret (by kernel_rfl) ?_
 refine q_ret (r := .b (true)) (obl := []) (by kernel_rfl) trivial (AVle.eq (show AV.b true = AV.b (decide (a = b)) from ?g13)); rotate_left 1
 revert h_2; rotate_left
 revert h_2; rotate_left
 revert h_2 i_3 v_4 c_5 w_6 e_7 h_9 h_10 h_11 h_12 h_13 h_14 h_15 h_16; rotate_left
 revert h_2 i_3 v_4 c_5 w_6 e_7 h_9 h_10 h_11 h_12 h_13 h_14 h_15 h_16 h_17; rotate_left
 revert h_2 i_3 v_4 c_5 w_6 e_7 h_9 h_10 h_11 h_12 h_13 h_14 h_15 h_16 h_17; rotate_left
 revert h_2 i_3 v_4 c_5 w_6 e_7 h_9 h_10 h_11 h_12 h_13 h_14 h_15 h_16 h_17; rotate_left
 revert h_2 i_3 v_4 c_5 w_6 e_7 h_9 h_10 h_11 h_12 h_13 h_14 h_15 h_16 h_17; rotate_left
 revert h_2 i_3 v_4 c_5 w_6 e_7 h_9 h_10 h_11 h_12 h_13 h_14 h_15 h_16; rotate_left
 revert h_2 i_3 v_4 c_5 w_6 e_7 h_9 h_10 h_11 h_12 h_13 h_14 h_15 h_16 i_18 v_19 c_20 w_21 e_22 h_24 h_25 h_26 h_27 h_28 h_29 h_30 h_31; rotate_left
 revert h_2 i_3 v_4 c_5 w_6 e_7 h_9 h_10 h_11 h_12 h_13 h_14 h_15 h_16 i_18 v_19 c_20 w_21 e_22 h_24 h_25 h_26 h_27 h_28 h_29 h_30 h_31 h_32; rotate_left
 revert h_2 i_3 v_4 c_5 w_6 e_7 h_9 h_10 h_11 h_12 h_13 h_14 h_15 h_16 i_18 v_19 c_20 w_21 e_22 h_24 h_25 h_26 h_27 h_28 h_29 h_30 h_31 h_32; rotate_left
 revert h_2 i_3 v_4 c_5 w_6 e_7 h_9 h_10 h_11 h_12 h_13 h_14 h_15 h_16 i_18 v_19 c_20 w_21 e_22 h_24 h_25 h_26 h_27 h_28 h_29 h_30 h_31 h_32; rotate_left
 revert h_2 i_3 v_4 c_5 w_6 e_7 h_9 h_10 h_11 h_12 h_13 h_14 h_15 h_16 i_18 v_19 c_20 w_21 e_22 h_24 h_25 h_26 h_27 h_28 h_29 h_30 h_31 h_32; rotate_left
 revert h_2 i_3 v_4 c_5 w_6 e_7 h_9 h_10 h_11 h_12 h_13 h_14 h_15 h_16 i_18 v_19 c_20 w_21 e_22 h_24 h_25 h_26 h_27 h_28 h_29 h_30 h_31; rotate_left
 case g0 => intro h; rw [decide_eq_false]; rintro rfl; exact h.elim (fun k => k rfl) (fun k => k rfl)
 case g1 => intro h; exact ⟨rfl, rfl, rfl, rfl, by omega, by omega, fun j hj => by omega⟩
 case g2 => intro h i v c w e k0 k1 k2 k3 k4 k5 k6 k7; subst k0 k1 k2 k3; exact get_map (by omega)
 case g3 => intro h i v c w e k0 k1 k2 k3 k4 k5 k6 k7 k8; subst k0 k1 k2 k3; rw [decide_eq_false]; rintro rfl; exact k8 rfl
 case g4 => intro h i v c w e k0 k1 k2 k3 k4 k5 k6 k7 k8; subst k0 k1 k2 k3; omega
 case g5 => intro h i v c w e k0 k1 k2 k3 k4 k5 k6 k7 k8; subst k0 k1 k2 k3; omega
 case g6 =>
  intro h i v c w e k0 k1 k2 k3 k4 k5 k6 k7 k8
  subst k0 k1 k2 k3
  refine ⟨rfl, rfl, rfl, rfl, by omega, by omega, fun j hj => ?_⟩
  by_cases e : j = i.toNat
  ·rw [e]; exact Classical.not_not.1 k8
  ·exact k6 j (by omega)
 case g7 => intro h i v c w e k0 k1 k2 k3 k4 k5 k6 k7; exact ⟨k0, k1, k2, k3, by omega, by omega, fun j hj => by omega⟩
 case g8 => intro h i v c w e k0 k1 k2 k3 k4 k5 k6 k7 j x y z u m0 m1 m2 m3 m4 m5 m6 m7; subst m0 m1 m2 m3; exact get_map (by omega)
 case g9 => intro h i v c w e k0 k1 k2 k3 k4 k5 k6 k7 j x y z u m0 m1 m2 m3 m4 m5 m6 m7 m8; subst m0 m1 m2 m3; rw [decide_eq_false]; rintro rfl; exact m8 rfl
 case g10 => intro h i v c w e k0 k1 k2 k3 k4 k5 k6 k7 j x y z u m0 m1 m2 m3 m4 m5 m6 m7 m8; subst m0 m1 m2 m3; omega
 case g11 => intro h i v c w e k0 k1 k2 k3 k4 k5 k6 k7 j x y z u m0 m1 m2 m3 m4 m5 m6 m7 m8; subst m0 m1 m2 m3; omega
 case g12 =>
  intro h i v c w e k0 k1 k2 k3 k4 k5 k6 k7 j x y z u m0 m1 m2 m3 m4 m5 m6 m7 m8
  subst m0 m1 m2 m3
  refine ⟨rfl, rfl, rfl, rfl, by omega, by omega, fun l hl => ?_⟩
  by_cases e : l = j.toNat
  ·rw [e]; exact Classical.not_not.1 m8
  ·exact m6 l (by omega)
 case g13 =>
  intro h i v c w e k0 k1 k2 k3 k4 k5 k6 k7 j x y z u m0 m1 m2 m3 m4 m5 m6 m7
  subst k0 m1
  have e1 : a.vec = b.vec := eq_of_all (by omega) fun j hj => k6 j (by omega)
  have e2 : a.cloud = b.cloud := eq_of_all (by omega) fun j hj => m6 j (by omega)
  rw [decide_eq_true]
  cases a; cases b
  simp only at e1 e2
  rw [e1, e2]
end Go.Proofs.YtaiepnaokhpmcaaGreat
namespace Go.Proofs.YtaiepnaokhpmcaaGreat
open Go.E
set_option maxRecDepth 100000
set_option maxHeartbeats 4000000
def leI (a b:Int) : Bool := decide (a ≤ b)
def isMrg (A B : List Int) (i j:Int) (s : List Int) : Prop := s ++ List.merge (A.drop i.toNat) (B.drop j.toNat) leI = List.merge A B leI
def inv37 (A B : List Int) (i j:Int) (s : List Int) : Prop := 0 ≤ i ∧ i ≤ A.length ∧ 0 ≤ j ∧ j ≤ B.length ∧ (s.length:Int) = i + j ∧ isMrg A B i j s
def dec37 (A B : List Int) (i j:Int) (s : List Int) : Nat := (A.length + B.length - i - j).toNat
def hA (l : List Int) : List Int := (List.take ((l.length:Int).tdiv 2).toNat l).mergeSort leI
def hB (l : List Int) : List Int := (List.drop ((l.length:Int).tdiv 2).toNat l).mergeSort leI
theorem hA_len (l : List Int) : (hA l).length = ((l.length:Int).tdiv 2).toNat := by
 unfold hA
 rw [List.length_mergeSort, List.length_take, Int.tdiv_eq_ediv_of_nonneg (by omega)]
 omega
theorem hB_len (l : List Int) : (hB l).length = l.length - ((l.length:Int).tdiv 2).toNat := by
 unfold hB
 rw [List.length_mergeSort, List.length_drop]
theorem half_bd (l : List Int) : 0 ≤ (l.length:Int).tdiv 2 ∧ 2 * (l.length:Int).tdiv 2 ≤ l.length ∧ (l.length:Int) ≤ 2 * (l.length:Int).tdiv 2 + 1 := by
 rw [Int.tdiv_eq_ediv_of_nonneg (by omega)]
 omega
theorem leI_tr (a b c:Int) (h1 : leI a b = true) (h2 : leI b c = true) : leI a c = true := by simp only [leI, decide_eq_true_eq] at *; omega
theorem leI_to (a b:Int) : (leI a b || leI b a) = true := by simp only [leI, Bool.or_eq_true, decide_eq_true_eq]; omega
theorem hAB_sort (l : List Int) : List.merge (hA l) (hB l) leI = l.mergeSort leI := by
 refine List.Perm.eq_of_pairwise (le := fun x y => leI x y = true) (fun a b _ _ h1 h2 => by simp only [leI, decide_eq_true_eq] at *; omega) ?_ (List.pairwise_mergeSort leI_tr leI_to l) ?_
 ·exact List.pairwise_merge leI_tr leI_to _ _ (List.pairwise_mergeSort leI_tr leI_to _) (List.pairwise_mergeSort leI_tr leI_to _)
 ·refine (List.merge_perm_append leI).trans (((List.mergeSort_perm _ _).append (List.mergeSort_perm _ _)).trans ?_)
  rw [List.take_append_drop]
  exact (List.mergeSort_perm _ _).symm
theorem drop_at {α : Type} [Inhabited α] {l : List α} {i : Int} (h0 : 0 ≤ i) (h : i < l.length) : l.drop i.toNat = l[i.toNat]! :: l.drop (i + 1).toNat := by
 rw [show (i + 1).toNat = i.toNat + 1 by omega, getElem!_pos l i.toNat (by omega), ← List.drop_eq_getElem_cons]
theorem mrgL {A B : List Int} {i j : Int} {s : List Int} (h0 : 0 ≤ i) (hi : i < A.length) (j0 : 0 ≤ j) (hj : j = B.length ∨ (j < B.length ∧ A[i.toNat]! ≤ B[j.toNat]!)) (h : isMrg A B i j s) : isMrg A B (i + 1) j (s ++ [A[i.toNat]!]) := by
 unfold isMrg at *
 rw [← h, List.append_assoc]
 congr 1
 rw [drop_at h0 hi]
 rcases hj with hj | ⟨hj, hle⟩
 ·rw [List.drop_of_length_le (l := B) (by omega)]; simp
 ·rw [drop_at j0 hj, List.cons_merge_cons, if_pos (by simpa [leI] using hle)]; simp
theorem mrgR {A B : List Int} {i j : Int} {s : List Int} (h0 : 0 ≤ i) (j0 : 0 ≤ j) (hj : j < B.length) (hi : ¬ i < A.length ∨ (i < A.length ∧ ¬ A[i.toNat]! ≤ B[j.toNat]!)) (h : isMrg A B i j s) : isMrg A B i (j + 1) (s ++ [B[j.toNat]!]) := by
 unfold isMrg at *
 rw [← h, List.append_assoc]
 congr 1
 rw [drop_at j0 hj]
 rcases hi with hi | ⟨hi, hle⟩
 ·rw [List.drop_of_length_le (l := A) (by omega)]; simp
 ·rw [drop_at h0 hi, List.cons_merge_cons, if_neg (by simpa [leI] using hle)]; simp
theorem mrgE {l : List Int} {i j : Int} {s : List Int} (hi : ¬ i < (hA l).length) (hj : ¬ j < (hB l).length) (h : isMrg (hA l) (hB l) i j s) : s = l.mergeSort leI := by
 unfold isMrg at h
 rw [List.drop_of_length_le (by omega), List.drop_of_length_le (by omega)] at h
 rw [← hAB_sort, ← h]
 simp
theorem srt_short {l : List Int} (h : (l.length:Int) < 2) : l.mergeSort leI = l := by
 match l with
 | [] => simp
 | [a] => simp
 | a :: b :: l => simp only [List.length_cons] at h; omega
theorem con200_r (l : List Int) (n:Nat) (hn : l.length ≤ n) (ih : ∀ m : List Int, m.length < n → m.length * 8 ≤ 140737488351232 → Con Tryz.prog 200 [.sl (m.map c3)] (.sl ((m.mergeSort leI).map c3))) (hb : l.length * 8 ≤ 140737488351232) : Con Tryz.prog 200 [.sl (l.map c3)] (.sl ((l.mergeSort leI).map c3)) :=
 by
 have b1 := half_bd l
 have b2 := hA_len l
 have b3 := hB_len l
 refine con_lens 0 (c3) (l) (by kernel_rfl) Go.Proofs.Tryz.func200 (by kernel_rfl) fun hl_0 => ?_
 refine st_con tab_ok (by kernel_rfl) [.tmp 2] 79 Go.Proofs.Tryz.func200 (by kernel_rfl) (by kernel_rfl) ?_
 intro e0 cx
 refine sq ?_
 refine rg (A := True) cx [] [0] [] trivial ?_
 refine sn (sq ?_)
 refine sq ?_
 refine rg (A := _ ∧ (AV.b (decide ((↑l.length:Int) < (2:Int))) = AV.b (decide ((↑l.length:Int) < (2:Int))))) cx [(1, { tell := some (.i .i64 ((↑l.length:Int))) }), (2, { tell := some (.b (decide ((↑l.length:Int) < (2:Int)))) })] [0, 10] [] ⟨(told_len c3 l), (by kernel_rfl)⟩ ?_
 refine sn ?_
 refine st_dec ((↑l.length:Int) < (2:Int)) (by kernel_rfl) (by kernel_rfl) (fun h_0 => ?_) (fun h_0 => ?_)
 refine sq ?_
 refine rg (A := (3 = (3:Nat)) ∧ ((1:Nat) = 1) ∧ ([AV.i .i64 (0:Int)].length = (1:Nat)) ∧ (∀ (r : List AV), r ∈ List.map c3 l → r.length = 1) ∧ ((List.map c3 []).length + (List.map c3 l).length ≤ maxLen) ∧ (((List.map c3 []).length + (List.map c3 l).length) * (8:Nat) ≤ (140737488355328:Nat)) ∧ (List.map c3 [] ++ List.map c3 l = List.map c3 ([] ++ l))) cx [(2, { rows := some (List.map c3 ([] ++ l)) })] [2] [11] ⟨(by kernel_rfl), (by kernel_rfl), (by kernel_rfl), (by (with_reducible refine len_map (fun _ => ?_) _; kernel_rfl)), (by (simp only [Go.maxLen, List.length_map, List.length_append, List.length_cons, List.length_nil]; omega)), (by (simp only [Go.maxLen, List.length_map, List.length_append, List.length_cons, List.length_nil]; omega)), (by (with_reducible refine app_map ?_; kernel_rfl))⟩ ?_
 refine sn ?_
 refine st_ret (by kernel_rfl) ?_
 refine q_seq_ret ?_
 refine q_ret (r := .sl (List.map c3 ([] ++ l))) (obl := []) (by kernel_rfl) trivial (AVle.eq (show AV.sl (List.map c3 ([] ++ l)) = AV.sl (List.map c3 (l.mergeSort leI)) from ?g0)); rotate_left 1
 refine st_skip (by kernel_rfl) ?_
 refine sn (sq ?_)
 refine rg (A := _ ∧ (AV.i .i64 (IntKind.i64.wrap ((↑l.length:Int).tdiv (2:Int))) = AV.i .i64 ((↑l.length:Int).tdiv (2:Int))) ∧ (AV.sl (List.drop (Int.toNat (0:Int)) (List.take ((↑l.length:Int).tdiv (2:Int)).toNat (List.map c3 l))) = AV.sl (List.map c3 (List.take ((↑l.length:Int).tdiv (2:Int)).toNat l))) ∧ ((0:Int) ≤ (0:Int)) ∧ ((0:Int) ≤ (↑l.length:Int).tdiv (2:Int)) ∧ ((↑l.length:Int).tdiv (2:Int) ≤ (↑(List.map c3 l).length:Int)) ∧ (∀ (r : List AV), r ∈ List.map c3 l → r.length = (1:Nat)) ∧ (Con Tryz.prog (200 : FuncId) [AV.sl (List.map c3 (List.take ((↑l.length:Int).tdiv (2:Int)).toNat l))] (AV.sl (List.map c3 ((List.take ((↑l.length:Int).tdiv (2:Int)).toNat l).mergeSort leI))))) cx [(2, { tell := some (.i .i64 ((↑l.length:Int))) }), (3, { tell := some (.i .i64 ((↑l.length:Int).tdiv (2:Int))) }), (4, { tell := some (.sl (List.map c3 (List.take ((↑l.length:Int).tdiv (2:Int)).toNat l))) }), (5, { val := some (.sl (List.map c3 ((List.take ((↑l.length:Int).tdiv (2:Int)).toNat l).mergeSort leI))) })] [0, 3] [] ⟨(told_len c3 l), (told_i64 ?g1 ?g2), (told_slT c3 l ((↑l.length:Int).tdiv (2:Int)).toNat), (by omega), ?g3, ?g4, (by (with_reducible refine len_map (fun _ => ?_) _; kernel_rfl)), (ih (List.take ((↑l.length:Int).tdiv (2:Int)).toNat l) ?g5 ?g6)⟩ ?_; rotate_left 6
 refine sn (sq ?_)
 refine rg (A := _ ∧ (AV.i .i64 (IntKind.i64.wrap ((↑l.length:Int).tdiv (2:Int))) = AV.i .i64 ((↑l.length:Int).tdiv (2:Int))) ∧ (AV.sl (List.drop ((↑l.length:Int).tdiv (2:Int)).toNat (List.take (none.getD (↑(List.map c3 l).length:Int)).toNat (List.map c3 l))) = AV.sl (List.map c3 (List.drop ((↑l.length:Int).tdiv (2:Int)).toNat l))) ∧ ((0:Int) ≤ (↑l.length:Int).tdiv (2:Int)) ∧ ((↑l.length:Int).tdiv (2:Int) ≤ none.getD (↑(List.map c3 l).length:Int)) ∧ (none.getD (↑(List.map c3 l).length:Int) ≤ (↑(List.map c3 l).length:Int)) ∧ (∀ (r : List AV), r ∈ List.map c3 l → r.length = (1:Nat)) ∧ (Con Tryz.prog (200 : FuncId) [AV.sl (List.map c3 (List.drop ((↑l.length:Int).tdiv (2:Int)).toNat l))] (AV.sl (List.map c3 ((List.drop ((↑l.length:Int).tdiv (2:Int)).toNat l).mergeSort leI))))) cx [(2, { tell := some (.i .i64 ((↑l.length:Int))) }), (3, { tell := some (.i .i64 ((↑l.length:Int).tdiv (2:Int))) }), (4, { tell := some (.sl (List.map c3 (List.drop ((↑l.length:Int).tdiv (2:Int)).toNat l))) }), (5, { val := some (.sl (List.map c3 ((List.drop ((↑l.length:Int).tdiv (2:Int)).toNat l).mergeSort leI))) })] [0, 3, 4] [] ⟨(told_len c3 l), (told_i64 ?g7 ?g8), (told_slN c3 l ((↑l.length:Int).tdiv (2:Int)).toNat), ?g9, ?g10, ?g11, (by (with_reducible refine len_map (fun _ => ?_) _; kernel_rfl)), (ih (List.drop ((↑l.length:Int).tdiv (2:Int)).toNat l) ?g12 ?g13)⟩ ?_; rotate_left 7
 refine sn (sq ?_)
 refine rg (A := _ ∧ ((0:Int) = (0:Int)) ∧ ((↑l.length:Int) = (↑l.length:Int)) ∧ ((8:Nat) * l.length ≤ (281474976710656:Nat)) ∧ (l.length ≤ maxLen)) cx [(1, { tell := some (.i .i64 ((↑l.length:Int))) }), (2, { n := l.length, flat := true })] [3, 4, 5] [28] ⟨(told_len c3 l), (by kernel_rfl), (by kernel_rfl), (by omega), (by (simp only [Go.maxLen]; omega))⟩ ?_
 refine sn (sq ?_)
 refine rg (A := True) cx [] [3, 4, 5, 6, 7] [28] trivial ?_
 refine sn (sq ?_)
 refine st_block 0 (by kernel_rfl) ?_
 refine st_loop (X := Int × Int × List Int) (fun x => ⟨[(3, .sl (List.map c3 ((List.take ((↑l.length:Int).tdiv (2:Int)).toNat l).mergeSort leI))), (4, .sl (List.map c3 ((List.drop ((↑l.length:Int).tdiv (2:Int)).toNat l).mergeSort leI))), (5, .own 28 0), (6, .i .i64 (x.fst)), (7, .i .i64 (x.snd.fst))], [(28, ⟨0, 3, .row 1 (List.map c3 x.snd.snd)⟩)]⟩) (fun x ↦ dec37 (hA l) (hB l) x.fst x.snd.fst x.snd.snd) (fun x ↦ inv37 (hA l) (hB l) x.fst x.snd.fst x.snd.snd) [3, 4, 5, 6, 7] [28] (((0:Int), (0:Int), [])) (by kernel_rfl) (by kernel_rfl) (show inv37 (hA l) (hB l) (0:Int) (0:Int) [] from ?g14) ?_; rotate_left 1
 rintro ⟨i_1, j_2, s_3⟩ h_4
 obtain ⟨h_5, h_6, h_7, h_8, h_9, h_10⟩ : (0:Int) ≤ i_1 ∧ i_1 ≤ (↑(hA l).length:Int) ∧ (0:Int) ≤ j_2 ∧ j_2 ≤ (↑(hB l).length:Int) ∧ (↑s_3.length:Int) = i_1 + j_2 ∧ isMrg (hA l) (hB l) i_1 j_2 s_3 := h_4
 refine sq ?_
 refine sq ?_
 refine st_join (σ' := ⟨[(3, .sl (List.map c3 ((List.take ((↑l.length:Int).tdiv (2:Int)).toNat l).mergeSort leI))), (4, .sl (List.map c3 ((List.drop ((↑l.length:Int).tdiv (2:Int)).toNat l).mergeSort leI))), (5, .own 28 0), (6, .i .i64 (i_1)), (7, .i .i64 (j_2)), (38, .b (decide (i_1 < (↑((List.take ((↑l.length:Int).tdiv (2:Int)).toNat l).mergeSort leI).length:Int) ∨ j_2 < (↑((List.drop ((↑l.length:Int).tdiv (2:Int)).toNat l).mergeSort leI).length:Int))))], [(28, ⟨0, 3, .row 1 (List.map c3 s_3)⟩)]⟩) ?_ ?_
 refine st_split (i_1 < (↑((List.take ((↑l.length:Int).tdiv (2:Int)).toNat l).mergeSort leI).length:Int)) (fun h_12 => ?_) (fun h_12 => ?_)
 refine rg (A := _ ∧ _ ∧ (AV.b true = AV.b (decide (i_1 < (↑((List.take ((↑l.length:Int).tdiv (2:Int)).toNat l).mergeSort leI).length:Int) ∨ j_2 < (↑((List.drop ((↑l.length:Int).tdiv (2:Int)).toNat l).mergeSort leI).length:Int))))) cx [(2, { tell := some (.i .i64 ((↑((List.take ((↑l.length:Int).tdiv (2:Int)).toNat l).mergeSort leI).length:Int))) }), (3, { tell := some (.b (true)) }), (9, { tell := some (.b (decide (i_1 < (↑((List.take ((↑l.length:Int).tdiv (2:Int)).toNat l).mergeSort leI).length:Int) ∨ j_2 < (↑((List.drop ((↑l.length:Int).tdiv (2:Int)).toNat l).mergeSort leI).length:Int)))) })] [3, 4, 5, 6, 7, 38] [28] ⟨(told_len c3 ((List.take ((↑l.length:Int).tdiv (2:Int)).toNat l).mergeSort leI)), (told_true h_12), (by simp only [eq_true h_12, told_simp1, told_simp2, and_true, true_and, and_false, false_and, or_true, true_or, or_false, false_or, not_true_eq_false, not_false_eq_true, decide_true, decide_false, Bool.decide_eq_true])⟩ ?_
 exact ⟨rfl, by kernel_rfl⟩
 refine rg (A := _ ∧ _ ∧ _ ∧ (AV.b (decide (j_2 < (↑((List.drop ((↑l.length:Int).tdiv (2:Int)).toNat l).mergeSort leI).length:Int))) = AV.b (decide (j_2 < (↑((List.drop ((↑l.length:Int).tdiv (2:Int)).toNat l).mergeSort leI).length:Int)))) ∧ (AV.b (decide (j_2 < (↑((List.drop ((↑l.length:Int).tdiv (2:Int)).toNat l).mergeSort leI).length:Int))) = AV.b (decide (i_1 < (↑((List.take ((↑l.length:Int).tdiv (2:Int)).toNat l).mergeSort leI).length:Int) ∨ j_2 < (↑((List.drop ((↑l.length:Int).tdiv (2:Int)).toNat l).mergeSort leI).length:Int))))) cx [(2, { tell := some (.i .i64 ((↑((List.take ((↑l.length:Int).tdiv (2:Int)).toNat l).mergeSort leI).length:Int))) }), (3, { tell := some (.b (false)) }), (7, { tell := some (.i .i64 ((↑((List.drop ((↑l.length:Int).tdiv (2:Int)).toNat l).mergeSort leI).length:Int))) }), (8, { tell := some (.b (decide (j_2 < (↑((List.drop ((↑l.length:Int).tdiv (2:Int)).toNat l).mergeSort leI).length:Int)))) }), (9, { tell := some (.b (decide (i_1 < (↑((List.take ((↑l.length:Int).tdiv (2:Int)).toNat l).mergeSort leI).length:Int) ∨ j_2 < (↑((List.drop ((↑l.length:Int).tdiv (2:Int)).toNat l).mergeSort leI).length:Int)))) })] [3, 4, 5, 6, 7, 38] [28] ⟨(told_len c3 ((List.take ((↑l.length:Int).tdiv (2:Int)).toNat l).mergeSort leI)), (told_false h_12), (told_len c3 ((List.drop ((↑l.length:Int).tdiv (2:Int)).toNat l).mergeSort leI)), (by kernel_rfl), (by simp only [eq_false h_12, told_simp1, told_simp2, and_true, true_and, and_false, false_and, or_true, true_or, or_false, false_or, not_true_eq_false, not_false_eq_true, decide_true, decide_false, Bool.decide_eq_true])⟩ ?_
 exact ⟨rfl, by kernel_rfl⟩
 refine sn ?_
 refine st_dec (i_1 < (↑((List.take ((↑l.length:Int).tdiv (2:Int)).toNat l).mergeSort leI).length:Int) ∨ j_2 < (↑((List.drop ((↑l.length:Int).tdiv (2:Int)).toNat l).mergeSort leI).length:Int)) (by kernel_rfl) (by kernel_rfl) (fun h_13 => ?_) (fun h_13 => ?_)
 refine st_skip (by kernel_rfl) ?_
 refine sn ?_
 refine st_block 1 (by kernel_rfl) ?_
 refine sq ?_
 refine st_join (σ' := ⟨[(3, .sl (List.map c3 ((List.take ((↑l.length:Int).tdiv (2:Int)).toNat l).mergeSort leI))), (4, .sl (List.map c3 ((List.drop ((↑l.length:Int).tdiv (2:Int)).toNat l).mergeSort leI))), (5, .own 28 0), (6, .i .i64 (i_1)), (7, .i .i64 (j_2)), (59, .b (decide (j_2 = (↑((List.drop ((↑l.length:Int).tdiv (2:Int)).toNat l).mergeSort leI).length:Int) ∨ i_1 < (↑((List.take ((↑l.length:Int).tdiv (2:Int)).toNat l).mergeSort leI).length:Int) ∧ ((List.take ((↑l.length:Int).tdiv (2:Int)).toNat l).mergeSort leI)[i_1.toNat]! ≤ ((List.drop ((↑l.length:Int).tdiv (2:Int)).toNat l).mergeSort leI)[j_2.toNat]!)))], [(28, ⟨0, 3, .row 1 (List.map c3 s_3)⟩)]⟩) ?_ ?_
 refine st_split (j_2 = (↑((List.drop ((↑l.length:Int).tdiv (2:Int)).toNat l).mergeSort leI).length:Int)) (fun h_15 => ?_) (fun h_15 => ?_)
 refine ra (A := _ ∧ _ ∧ (AV.b true = AV.b (decide (j_2 = (↑((List.drop ((↑l.length:Int).tdiv (2:Int)).toNat l).mergeSort leI).length:Int) ∨ i_1 < (↑((List.take ((↑l.length:Int).tdiv (2:Int)).toNat l).mergeSort leI).length:Int) ∧ ((List.take ((↑l.length:Int).tdiv (2:Int)).toNat l).mergeSort leI)[i_1.toNat]! ≤ ((List.drop ((↑l.length:Int).tdiv (2:Int)).toNat l).mergeSort leI)[j_2.toNat]!)))) cx [(2, { tell := some (.i .i64 ((↑((List.drop ((↑l.length:Int).tdiv (2:Int)).toNat l).mergeSort leI).length:Int))) }), (3, { tell := some (.b (true)) }), (20, { tell := some (.b (decide (j_2 = (↑((List.drop ((↑l.length:Int).tdiv (2:Int)).toNat l).mergeSort leI).length:Int) ∨ i_1 < (↑((List.take ((↑l.length:Int).tdiv (2:Int)).toNat l).mergeSort leI).length:Int) ∧ ((List.take ((↑l.length:Int).tdiv (2:Int)).toNat l).mergeSort leI)[i_1.toNat]! ≤ ((List.drop ((↑l.length:Int).tdiv (2:Int)).toNat l).mergeSort leI)[j_2.toNat]!))) })] [3, 4, 5, 6, 7, 59] [28] ⟨(told_len c3 ((List.drop ((↑l.length:Int).tdiv (2:Int)).toNat l).mergeSort leI)), (told_true h_15), (by simp only [eq_true h_15, told_simp1, told_simp2, and_true, true_and, and_false, false_and, or_true, true_or, or_false, false_or, not_true_eq_false, not_false_eq_true, decide_true, decide_false, Bool.decide_eq_true])⟩ ?_
 exact ⟨rfl, by kernel_rfl⟩
 refine st_split (i_1 < (↑((List.take ((↑l.length:Int).tdiv (2:Int)).toNat l).mergeSort leI).length:Int)) (fun h_16 => ?_) (fun h_16 => ?_)
 refine ra (A := _ ∧ _ ∧ _ ∧ _ ∧ ((0:Int) ≤ i_1) ∧ ((List.map c3 ((List.take ((↑l.length:Int).tdiv (2:Int)).toNat l).mergeSort leI))[i_1.toNat]? = some (c3 ((List.take ((↑l.length:Int).tdiv (2:Int)).toNat l).mergeSort leI)[i_1.toNat]!)) ∧ ((c3 ((List.take ((↑l.length:Int).tdiv (2:Int)).toNat l).mergeSort leI)[i_1.toNat]!).length = (1:Nat)) ∧ ((0:Int) ≤ j_2) ∧ ((List.map c3 ((List.drop ((↑l.length:Int).tdiv (2:Int)).toNat l).mergeSort leI))[j_2.toNat]? = some (c3 ((List.drop ((↑l.length:Int).tdiv (2:Int)).toNat l).mergeSort leI)[j_2.toNat]!)) ∧ ((c3 ((List.drop ((↑l.length:Int).tdiv (2:Int)).toNat l).mergeSort leI)[j_2.toNat]!).length = (1:Nat)) ∧ (AV.b (decide (((List.take ((↑l.length:Int).tdiv (2:Int)).toNat l).mergeSort leI)[i_1.toNat]! ≤ ((List.drop ((↑l.length:Int).tdiv (2:Int)).toNat l).mergeSort leI)[j_2.toNat]!)) = AV.b (decide (((List.take ((↑l.length:Int).tdiv (2:Int)).toNat l).mergeSort leI)[i_1.toNat]! ≤ ((List.drop ((↑l.length:Int).tdiv (2:Int)).toNat l).mergeSort leI)[j_2.toNat]!))) ∧ (AV.b (decide (((List.take ((↑l.length:Int).tdiv (2:Int)).toNat l).mergeSort leI)[i_1.toNat]! ≤ ((List.drop ((↑l.length:Int).tdiv (2:Int)).toNat l).mergeSort leI)[j_2.toNat]!)) = AV.b (decide (j_2 = (↑((List.drop ((↑l.length:Int).tdiv (2:Int)).toNat l).mergeSort leI).length:Int) ∨ i_1 < (↑((List.take ((↑l.length:Int).tdiv (2:Int)).toNat l).mergeSort leI).length:Int) ∧ ((List.take ((↑l.length:Int).tdiv (2:Int)).toNat l).mergeSort leI)[i_1.toNat]! ≤ ((List.drop ((↑l.length:Int).tdiv (2:Int)).toNat l).mergeSort leI)[j_2.toNat]!)))) cx [(2, { tell := some (.i .i64 ((↑((List.drop ((↑l.length:Int).tdiv (2:Int)).toNat l).mergeSort leI).length:Int))) }), (3, { tell := some (.b (false)) }), (7, { tell := some (.i .i64 ((↑((List.take ((↑l.length:Int).tdiv (2:Int)).toNat l).mergeSort leI).length:Int))) }), (8, { tell := some (.b (true)) }), (12, { row := (c3 ((List.take ((↑l.length:Int).tdiv (2:Int)).toNat l).mergeSort leI)[i_1.toNat]!) }), (16, { row := (c3 ((List.drop ((↑l.length:Int).tdiv (2:Int)).toNat l).mergeSort leI)[j_2.toNat]!) }), (18, { tell := some (.b (decide (((List.take ((↑l.length:Int).tdiv (2:Int)).toNat l).mergeSort leI)[i_1.toNat]! ≤ ((List.drop ((↑l.length:Int).tdiv (2:Int)).toNat l).mergeSort leI)[j_2.toNat]!))) }), (20, { tell := some (.b (decide (j_2 = (↑((List.drop ((↑l.length:Int).tdiv (2:Int)).toNat l).mergeSort leI).length:Int) ∨ i_1 < (↑((List.take ((↑l.length:Int).tdiv (2:Int)).toNat l).mergeSort leI).length:Int) ∧ ((List.take ((↑l.length:Int).tdiv (2:Int)).toNat l).mergeSort leI)[i_1.toNat]! ≤ ((List.drop ((↑l.length:Int).tdiv (2:Int)).toNat l).mergeSort leI)[j_2.toNat]!))) })] [3, 4, 5, 6, 7, 59] [28] ⟨(told_len c3 ((List.drop ((↑l.length:Int).tdiv (2:Int)).toNat l).mergeSort leI)), (told_false h_15), (told_len c3 ((List.take ((↑l.length:Int).tdiv (2:Int)).toNat l).mergeSort leI)), (told_true h_16), (by (with_reducible assumption)), (by (with_reducible refine get_map ?_; omega)), (by kernel_rfl), (by (with_reducible assumption)), ?g15, (by kernel_rfl), (by kernel_rfl), (by simp only [eq_false h_15, eq_true h_16, told_simp1, told_simp2, and_true, true_and, and_false, false_and, or_true, true_or, or_false, false_or, not_true_eq_false, not_false_eq_true, decide_true, decide_false, Bool.decide_eq_true])⟩ ?_; rotate_left 1
 exact ⟨rfl, by kernel_rfl⟩
 refine ra (A := _ ∧ _ ∧ _ ∧ _ ∧ (AV.b false = AV.b (decide (j_2 = (↑((List.drop ((↑l.length:Int).tdiv (2:Int)).toNat l).mergeSort leI).length:Int) ∨ i_1 < (↑((List.take ((↑l.length:Int).tdiv (2:Int)).toNat l).mergeSort leI).length:Int) ∧ ((List.take ((↑l.length:Int).tdiv (2:Int)).toNat l).mergeSort leI)[i_1.toNat]! ≤ ((List.drop ((↑l.length:Int).tdiv (2:Int)).toNat l).mergeSort leI)[j_2.toNat]!)))) cx [(2, { tell := some (.i .i64 ((↑((List.drop ((↑l.length:Int).tdiv (2:Int)).toNat l).mergeSort leI).length:Int))) }), (3, { tell := some (.b (false)) }), (7, { tell := some (.i .i64 ((↑((List.take ((↑l.length:Int).tdiv (2:Int)).toNat l).mergeSort leI).length:Int))) }), (8, { tell := some (.b (false)) }), (20, { tell := some (.b (decide (j_2 = (↑((List.drop ((↑l.length:Int).tdiv (2:Int)).toNat l).mergeSort leI).length:Int) ∨ i_1 < (↑((List.take ((↑l.length:Int).tdiv (2:Int)).toNat l).mergeSort leI).length:Int) ∧ ((List.take ((↑l.length:Int).tdiv (2:Int)).toNat l).mergeSort leI)[i_1.toNat]! ≤ ((List.drop ((↑l.length:Int).tdiv (2:Int)).toNat l).mergeSort leI)[j_2.toNat]!))) })] [3, 4, 5, 6, 7, 59] [28] ⟨(told_len c3 ((List.drop ((↑l.length:Int).tdiv (2:Int)).toNat l).mergeSort leI)), (told_false h_15), (told_len c3 ((List.take ((↑l.length:Int).tdiv (2:Int)).toNat l).mergeSort leI)), (told_false h_16), (by simp only [eq_false h_15, eq_false h_16, told_simp1, told_simp2, and_true, true_and, and_false, false_and, or_true, true_or, or_false, false_or, not_true_eq_false, not_false_eq_true, decide_true, decide_false, Bool.decide_eq_true])⟩ ?_
 exact ⟨rfl, by kernel_rfl⟩
 refine sn ?_
 refine st_dec (j_2 = (↑((List.drop ((↑l.length:Int).tdiv (2:Int)).toNat l).mergeSort leI).length:Int) ∨ i_1 < (↑((List.take ((↑l.length:Int).tdiv (2:Int)).toNat l).mergeSort leI).length:Int) ∧ ((List.take ((↑l.length:Int).tdiv (2:Int)).toNat l).mergeSort leI)[i_1.toNat]! ≤ ((List.drop ((↑l.length:Int).tdiv (2:Int)).toNat l).mergeSort leI)[j_2.toNat]!) (by kernel_rfl) (by kernel_rfl) (fun h_17 => ?_) (fun h_17 => ?_)
 refine sq ?_
 refine rg (A := ((0:Int) ≤ i_1) ∧ ((List.map c3 ((List.take ((↑l.length:Int).tdiv (2:Int)).toNat l).mergeSort leI))[i_1.toNat]? = some (c3 ((List.take ((↑l.length:Int).tdiv (2:Int)).toNat l).mergeSort leI)[i_1.toNat]!)) ∧ ((c3 ((List.take ((↑l.length:Int).tdiv (2:Int)).toNat l).mergeSort leI)[i_1.toNat]!).length = (1:Nat)) ∧ (3 = (3:Nat)) ∧ ((1:Nat) = 1) ∧ ([AV.i .i64 (0:Int)].length = (1:Nat)) ∧ (∀ (r : List AV), r ∈ List.map c3 [((List.take ((↑l.length:Int).tdiv (2:Int)).toNat l).mergeSort leI)[i_1.toNat]!] → r.length = 1) ∧ ((List.map c3 s_3).length + (List.map c3 [((List.take ((↑l.length:Int).tdiv (2:Int)).toNat l).mergeSort leI)[i_1.toNat]!]).length ≤ maxLen) ∧ (((List.map c3 s_3).length + (List.map c3 [((List.take ((↑l.length:Int).tdiv (2:Int)).toNat l).mergeSort leI)[i_1.toNat]!]).length) * (8:Nat) ≤ (140737488355328:Nat)) ∧ (List.map c3 s_3 ++ List.map c3 [((List.take ((↑l.length:Int).tdiv (2:Int)).toNat l).mergeSort leI)[i_1.toNat]!] = List.map c3 (s_3 ++ [((List.take ((↑l.length:Int).tdiv (2:Int)).toNat l).mergeSort leI)[i_1.toNat]!]))) cx [(3, { row := (c3 ((List.take ((↑l.length:Int).tdiv (2:Int)).toNat l).mergeSort leI)[i_1.toNat]!) }), (6, { rows := some (List.map c3 (s_3 ++ [((List.take ((↑l.length:Int).tdiv (2:Int)).toNat l).mergeSort leI)[i_1.toNat]!])) })] [3, 4, 5, 6, 7] [28] ⟨(by (with_reducible assumption)), (by (with_reducible refine get_map ?_; omega)), (by kernel_rfl), (by kernel_rfl), (by kernel_rfl), (by kernel_rfl), (by (with_reducible refine len_map (fun _ => ?_) _; kernel_rfl)), ?g16, ?g17, (by (with_reducible refine app_map ?_; kernel_rfl))⟩ ?_; rotate_left 2
 refine sn ?_
 refine rg (A := (AV.i .i64 (IntKind.i64.wrap (i_1 + (1:Int))) = AV.i .i64 (i_1 + (1:Int)))) cx [(1, { tell := some (.i .i64 (i_1 + (1:Int))) })] [3, 4, 5, 6, 7] [28] (told_i64 (by omega) ?g18) ?_; rotate_left 1
 refine q_blk_normal ?_
 refine sn ?_
 refine loop_next ((i_1 + (1:Int), j_2, s_3 ++ [((List.take ((↑l.length:Int).tdiv (2:Int)).toNat l).mergeSort leI)[i_1.toNat]!])) (by kernel_rfl) (show ((↑(hA l).length:Int) + (↑(hB l).length:Int) - (i_1 + (1:Int)) - j_2).toNat < ((↑(hA l).length:Int) + (↑(hB l).length:Int) - i_1 - j_2).toNat from ?g19) (show inv37 (hA l) (hB l) (i_1 + (1:Int)) j_2 (s_3 ++ [((List.take ((↑l.length:Int).tdiv (2:Int)).toNat l).mergeSort leI)[i_1.toNat]!]) from ?g20); rotate_left 2
 refine sq ?_
 refine rg (A := ((0:Int) ≤ j_2) ∧ ((List.map c3 ((List.drop ((↑l.length:Int).tdiv (2:Int)).toNat l).mergeSort leI))[j_2.toNat]? = some (c3 ((List.drop ((↑l.length:Int).tdiv (2:Int)).toNat l).mergeSort leI)[j_2.toNat]!)) ∧ ((c3 ((List.drop ((↑l.length:Int).tdiv (2:Int)).toNat l).mergeSort leI)[j_2.toNat]!).length = (1:Nat)) ∧ (3 = (3:Nat)) ∧ ((1:Nat) = 1) ∧ ([AV.i .i64 (0:Int)].length = (1:Nat)) ∧ (∀ (r : List AV), r ∈ List.map c3 [((List.drop ((↑l.length:Int).tdiv (2:Int)).toNat l).mergeSort leI)[j_2.toNat]!] → r.length = 1) ∧ ((List.map c3 s_3).length + (List.map c3 [((List.drop ((↑l.length:Int).tdiv (2:Int)).toNat l).mergeSort leI)[j_2.toNat]!]).length ≤ maxLen) ∧ (((List.map c3 s_3).length + (List.map c3 [((List.drop ((↑l.length:Int).tdiv (2:Int)).toNat l).mergeSort leI)[j_2.toNat]!]).length) * (8:Nat) ≤ (140737488355328:Nat)) ∧ (List.map c3 s_3 ++ List.map c3 [((List.drop ((↑l.length:Int).tdiv (2:Int)).toNat l).mergeSort leI)[j_2.toNat]!] = List.map c3 (s_3 ++ [((List.drop ((↑l.length:Int).tdiv (2:Int)).toNat l).mergeSort leI)[j_2.toNat]!]))) cx [(3, { row := (c3 ((List.drop ((↑l.length:Int).tdiv (2:Int)).toNat l).mergeSort leI)[j_2.toNat]!) }), (6, { rows := some (List.map c3 (s_3 ++ [((List.drop ((↑l.length:Int).tdiv (2:Int)).toNat l).mergeSort leI)[j_2.toNat]!])) })] [3, 4, 5, 6, 7] [28] ⟨(by (with_reducible assumption)), ?g21, (by kernel_rfl), (by kernel_rfl), (by kernel_rfl), (by kernel_rfl), (by (with_reducible refine len_map (fun _ => ?_) _; kernel_rfl)), ?g22, ?g23, (by (with_reducible refine app_map ?_; kernel_rfl))⟩ ?_; rotate_left 3
 refine sn ?_
 refine rg (A := (AV.i .i64 (IntKind.i64.wrap (j_2 + (1:Int))) = AV.i .i64 (j_2 + (1:Int)))) cx [(1, { tell := some (.i .i64 (j_2 + (1:Int))) })] [3, 4, 5, 6, 7] [28] (told_i64 (by omega) ?g24) ?_; rotate_left 1
 refine q_blk_normal ?_
 refine sn ?_
 refine loop_next ((i_1, j_2 + (1:Int), s_3 ++ [((List.drop ((↑l.length:Int).tdiv (2:Int)).toNat l).mergeSort leI)[j_2.toNat]!])) (by kernel_rfl) (show ((↑(hA l).length:Int) + (↑(hB l).length:Int) - i_1 - (j_2 + (1:Int))).toNat < ((↑(hA l).length:Int) + (↑(hB l).length:Int) - i_1 - j_2).toNat from ?g25) (show inv37 (hA l) (hB l) i_1 (j_2 + (1:Int)) (s_3 ++ [((List.drop ((↑l.length:Int).tdiv (2:Int)).toNat l).mergeSort leI)[j_2.toNat]!]) from ?g26); rotate_left 2
 refine st_exit 0 (by kernel_rfl) ?_
 refine q_seq_exit ?_
 refine q_seq_exit ?_
 refine q_blk_hit ?_
 refine sn (sq ?_)
 refine rg (A := True) cx [] [2] [28] trivial ?_
 refine sn ?_
 refine st_ret (by kernel_rfl) ?_
 refine q_ret (r := .sl (List.map c3 s_3)) (obl := []) (by kernel_rfl) trivial (AVle.eq (show AV.sl (List.map c3 s_3) = AV.sl (List.map c3 (l.mergeSort leI)) from ?g27)); rotate_left 1
 revert h_0; rotate_left
 revert h_0; rotate_left
 revert h_0; rotate_left
 revert h_0; rotate_left
 revert h_0; rotate_left
 revert h_0; rotate_left
 revert h_0; rotate_left
 revert h_0; rotate_left
 revert h_0; rotate_left
 revert h_0; rotate_left
 revert h_0; rotate_left
 revert h_0; rotate_left
 revert h_0; rotate_left
 revert h_0; rotate_left
 revert h_0; rotate_left
 revert h_0 i_1 j_2 s_3 h_5 h_6 h_7 h_8 h_9 h_10 h_13 h_15 h_16; rotate_left
 revert h_0 i_1 j_2 s_3 h_5 h_6 h_7 h_8 h_9 h_10 h_13 h_17; rotate_left
 revert h_0 i_1 j_2 s_3 h_5 h_6 h_7 h_8 h_9 h_10 h_13 h_17; rotate_left
 revert h_0 i_1 j_2 s_3 h_5 h_6 h_7 h_8 h_9 h_10 h_13 h_17; rotate_left
 revert h_0 i_1 j_2 s_3 h_5 h_6 h_7 h_8 h_9 h_10 h_13 h_17; rotate_left
 revert h_0 i_1 j_2 s_3 h_5 h_6 h_7 h_8 h_9 h_10 h_13 h_17; rotate_left
 revert h_0 i_1 j_2 s_3 h_5 h_6 h_7 h_8 h_9 h_10 h_13 h_17; rotate_left
 revert h_0 i_1 j_2 s_3 h_5 h_6 h_7 h_8 h_9 h_10 h_13 h_17; rotate_left
 revert h_0 i_1 j_2 s_3 h_5 h_6 h_7 h_8 h_9 h_10 h_13 h_17; rotate_left
 revert h_0 i_1 j_2 s_3 h_5 h_6 h_7 h_8 h_9 h_10 h_13 h_17; rotate_left
 revert h_0 i_1 j_2 s_3 h_5 h_6 h_7 h_8 h_9 h_10 h_13 h_17; rotate_left
 revert h_0 i_1 j_2 s_3 h_5 h_6 h_7 h_8 h_9 h_10 h_13 h_17; rotate_left
 revert h_0 i_1 j_2 s_3 h_5 h_6 h_7 h_8 h_9 h_10 h_13; rotate_left
 case g0 => intro h; rw [srt_short h]; rfl
 case g1 => intro h; omega
 case g2 => intro h; omega
 case g3 => intro h; omega
 case g4 => intro h; rw [List.length_map]; omega
 case g5 => intro h; show (List.take ((l.length:Int).tdiv 2).toNat l).length < n; rw [List.length_take]; omega
 case g6 => intro h; show (List.take ((l.length:Int).tdiv 2).toNat l).length * 8 ≤ 140737488351232; rw [List.length_take]; omega
 case g7 => intro h; omega
 case g8 => intro h; omega
 case g9 => intro h; omega
 case g10 => intro h; show _ ≤ ((List.map c3 l).length:Int); rw [List.length_map]; omega
 case g11 => intro h; exact Int.le_refl _
 case g12 => intro h; rw [List.length_drop]; omega
 case g13 => intro h; rw [List.length_drop]; omega
 case g14 => intro h; exact ⟨by omega, by omega, by omega, by omega, rfl, rfl⟩
 case g15 => intro h i j s k0 k1 k2 k3 k4 k5 k6 k7 k8; exact get_map (xs := hB l) (by have : ¬ j = (hB l).length := k7; omega)
 case g16 => intro h i j s k0 k1 k2 k3 k4 k5 k6 k7; simp only [List.length_map, List.length_cons, List.length_nil, Go.maxLen]; omega
 case g17 => intro h i j s k0 k1 k2 k3 k4 k5 k6 k7; simp only [List.length_map, List.length_cons, List.length_nil]; omega
 case g18 => intro h i j s k0 k1 k2 k3 k4 k5 k6 k7; omega
 case g19 => intro h i j s k0 k1 k2 k3 k4 k5 k6 k7; have k6' : i < (hA l).length ∨ j < (hB l).length := k6; have k7' : j = (hB l).length ∨ i < (hA l).length ∧ (hA l)[i.toNat]! ≤ (hB l)[j.toNat]! := k7; omega
 case g20 =>
  intro h i j s k0 k1 k2 k3 k4 k5 k6 k7
  have k6' : i < (hA l).length ∨ j < (hB l).length := k6
  have k7' : j = (hB l).length ∨ i < (hA l).length ∧ (hA l)[i.toNat]! ≤ (hB l)[j.toNat]! := k7
  have hi : i < (hA l).length := by omega
  refine ⟨by omega, by omega, by omega, by omega, by rw [List.length_append]; simp only [List.length_cons, List.length_nil]; omega, mrgL k0 hi k2 ?_ k5⟩
  by_cases e : j = (hB l).length
  ·exact .inl e
  ·exact .inr ⟨by omega, (k7'.resolve_left e).2⟩
 case g21 => intro h i j s k0 k1 k2 k3 k4 k5 k6 k7; have k6' : i < (hA l).length ∨ j < (hB l).length := k6; have k7' : ¬ (j = (hB l).length ∨ i < (hA l).length ∧ (hA l)[i.toNat]! ≤ (hB l)[j.toNat]!) := k7; exact get_map (xs := hB l) (by omega)
 case g22 => intro h i j s k0 k1 k2 k3 k4 k5 k6 k7; simp only [List.length_map, List.length_cons, List.length_nil, Go.maxLen]; omega
 case g23 => intro h i j s k0 k1 k2 k3 k4 k5 k6 k7; simp only [List.length_map, List.length_cons, List.length_nil]; omega
 case g24 => intro h i j s k0 k1 k2 k3 k4 k5 k6 k7; omega
 case g25 => intro h i j s k0 k1 k2 k3 k4 k5 k6 k7; have k6' : i < (hA l).length ∨ j < (hB l).length := k6; have k7' : ¬ (j = (hB l).length ∨ i < (hA l).length ∧ (hA l)[i.toNat]! ≤ (hB l)[j.toNat]!) := k7; omega
 case g26 =>
  intro h i j s k0 k1 k2 k3 k4 k5 k6 k7
  have k6' : i < (hA l).length ∨ j < (hB l).length := k6
  have k7' : ¬ (j = (hB l).length ∨ i < (hA l).length ∧ (hA l)[i.toNat]! ≤ (hB l)[j.toNat]!) := k7
  have hj : j < (hB l).length := by omega
  refine ⟨by omega, by omega, by omega, by omega, by rw [List.length_append]; simp only [List.length_cons, List.length_nil]; omega, mrgR k0 k2 hj ?_ k5⟩
  by_cases e : i < (hA l).length
  ·exact .inr ⟨e, fun k => k7' (.inr ⟨e, k⟩)⟩
  ·exact .inl e
 case g27 =>
  intro h i j s k0 k1 k2 k3 k4 k5 k6
  have k6' : ¬ (i < (hA l).length ∨ j < (hB l).length) := k6
  rw [mrgE (fun k => k6' (.inl k)) (fun k => k6' (.inr k)) k5]
theorem con_srt : ∀ (n:Nat) (l : List Int), l.length ≤ n → l.length * 8 ≤ 140737488351232 → Con Tryz.prog 200 [.sl (l.map c3)] (.sl ((l.mergeSort leI).map c3))
 | 0, l, h, hb => con200_r l 0 h (fun m hm => by omega) hb
 | n + 1, l, h, hb => con200_r l (n + 1) h (fun m hm hb' => con_srt n m (by omega) hb') hb
theorem con200 (l : List Int) (hb : l.length * 8 ≤ 140737488351232) : Con Tryz.prog 200 [.sl (l.map c3)] (.sl ((l.mergeSort leI).map c3)) := con_srt l.length l (Nat.le_refl _) hb
end Go.Proofs.YtaiepnaokhpmcaaGreat
namespace Go.Proofs.YtaiepnaokhpmcaaGreat
open Go.E
set_option maxRecDepth 100000
set_option maxHeartbeats 4000000
def cntI (l : List Int) (n:Int) : Nat := l.countP (fun x => decide (x ≤ n))
def turnsR (l : List Run) : List Int := l.flatMap fun r => [r.lo, r.hi + 1]
def sw : List Int → List Int → Nat → List Int
 | [], [], _ => []
 | [], b :: B, d => (if d = 1 then [b] else []) ++ sw [] B (d - 1)
 | a :: A, [], d => (if d = 0 then [a] else []) ++ sw A [] (d + 1)
 | a :: A, b :: B, d => if a ≤ b then (if d = 0 then [a] else []) ++ sw A (b :: B) (d + 1) else (if d = 1 then [b] else []) ++ sw (a :: A) B (d - 1)
termination_by A B _ => A.length + B.length
theorem cnt_nil (n:Int) : cntI [] n = 0 := rfl
theorem cnt_cons (a:Int) (l : List Int) (n:Int) : cntI (a :: l) n = cntI l n + if a ≤ n then 1 else 0 := by
 unfold cntI
 rw [List.countP_cons]
 by_cases h : a ≤ n <;> simp [h]
theorem cnt_zero {l : List Int} {n : Int} (h : ∀ x ∈ l, n < x) : cntI l n = 0 := by
 unfold cntI
 rw [List.countP_eq_zero]
 intro x hx
 have := h x hx
 simp
 omega
theorem cnt_len (l : List Int) (n:Int) : cntI l n ≤ l.length := List.countP_le_length
structure VW (A B : List Int) (d:Nat) : Prop where
 sA : A.Pairwise (fun x y => x ≤ y)
 sB : B.Pairwise (fun x y => x ≤ y)
 len : d + A.length = B.length
 cov : ∀ n : Int, cntI B (n + 1) ≤ d + cntI A n
theorem VW.in_ {a b : Int} {A B : List Int} {d : Nat} (h : VW (a :: A) (b :: B) d) (hab : a ≤ b) : VW A (b :: B) (d + 1) := by
 refine ⟨(List.pairwise_cons.1 h.sA).2, h.sB, by have := h.len; simp only [List.length_cons] at *; omega, fun n => ?_⟩
 have := h.cov n
 rw [cnt_cons a A] at this
 split at this <;> omega
theorem VW.pos {a b : Int} {A B : List Int} {d : Nat} (h : VW (a :: A) (b :: B) d) (hab : b < a) : 1 ≤ d := by
 have h1 := h.cov (b - 1)
 have h2 := (List.pairwise_cons.1 h.sA).1
 rw [show b - 1 + 1 = b by omega, cnt_cons b B, if_pos (Int.le_refl b)] at h1
 rw [cnt_zero (l := a :: A) fun x hx => by
  rcases List.mem_cons.1 hx with rfl | hx
  ·omega
  ·have := h2 x hx; omega] at h1
 omega
theorem VW.out {a b : Int} {A B : List Int} {d : Nat} (h : VW (a :: A) (b :: B) d) (hab : b < a) : VW (a :: A) B (d - 1) := by
 have hp := h.pos hab
 have hB := List.pairwise_cons.1 h.sB
 refine ⟨h.sA, hB.2, by have := h.len; simp only [List.length_cons] at *; omega, fun n => ?_⟩
 have := h.cov n
 rw [cnt_cons b B] at this
 by_cases e : b ≤ n + 1
 ·rw [if_pos e] at this; omega
 ·rw [cnt_zero (l := B) fun x hx => by have := hB.1 x hx; omega]
  omega
theorem VW.end_ {b : Int} {B : List Int} {d : Nat} (h : VW [] (b :: B) d) : 1 ≤ d ∧ VW [] B (d - 1) := by
 have hl := h.len
 simp only [List.length_cons, List.length_nil] at hl
 have hB := List.pairwise_cons.1 h.sB
 exact ⟨by omega, h.sA, hB.2, by simp only [List.length_nil]; omega, fun n => by have := cnt_len B (n + 1); omega⟩
theorem VW.strict {a b : Int} {A B : List Int} (h : VW (a :: A) (b :: B) 0) : a < b := by
 have h1 := h.cov (a - 1)
 have h2 := (List.pairwise_cons.1 h.sA).1
 rw [show a - 1 + 1 = a by omega, cnt_zero (l := a :: A) fun x hx => by
  rcases List.mem_cons.1 hx with rfl | hx
  ·omega
  ·have := h2 x hx; omega, cnt_cons b B] at h1
 by_cases e : b ≤ a
 ·rw [if_pos e] at h1; omega
 ·omega
def SwZ (A B : List Int) : Prop := ∃ R : List Run, sw A B 0 = turnsR R ∧ R.Pairwise (fun x y => x.hi + 1 < y.lo) ∧ (∀ r ∈ R, r.lo ≤ r.hi ∧ r.lo ∈ A ∧ r.hi + 1 ∈ B) ∧ ∀ n, inR R n ↔ cntI B n < cntI A n
def SwP (A B : List Int) (d:Nat) : Prop := ∃ (x:Int) (R : List Run), sw A B d = x :: turnsR R ∧ x ∈ B ∧ R.Pairwise (fun x y => x.hi + 1 < y.lo) ∧ (∀ r ∈ R, x < r.lo ∧ r.lo ≤ r.hi ∧ r.lo ∈ A ∧ r.hi + 1 ∈ B) ∧ ∀ n, (n < x ∨ inR R n) ↔ cntI B n < d + cntI A n
theorem sw_main : ∀ (k:Nat) (A B : List Int) (d:Nat), A.length + B.length = k → VW A B d → (d = 0 → SwZ A B) ∧ (0 < d → SwP A B d)
 | k, [], [], d, _, h => by
  have hd := h.len
  simp only [List.length_nil] at hd
  refine ⟨fun _ => ⟨[], ?_, List.Pairwise.nil, fun r hr => (by cases hr), fun n => ?_⟩, fun h0 => by omega⟩
  ·rw [sw]; try rfl
  ·rw [cnt_nil]; simp [inR]
 | k, a :: A, [], d, _, h => by have := h.len; simp only [List.length_cons, List.length_nil] at this; omega
 | 0, [], b :: B, d, hk, h => by simp only [List.length_cons] at hk; omega
 | 0, a :: A, b :: B, d, hk, h => by simp only [List.length_cons] at hk; omega
 | k + 1, [], b :: B, d, hk, h => by
  obtain ⟨hd, h'⟩ := h.end_
  have ih := sw_main k [] B (d - 1) (by simp only [List.length_cons, List.length_nil] at *; omega) h'
  have hB := List.pairwise_cons.1 h.sB
  have low : ∀ n : Int, n < b → cntI (b :: B) n = 0 ∧ cntI B n = 0 := fun n hn => by
   have : cntI B n = 0 := cnt_zero fun x hx => by have := hB.1 x hx; omega
   rw [cnt_cons, if_neg (by omega)]; omega
  refine ⟨fun h0 => by omega, fun _ => ?_⟩
  by_cases e : d = 1
  ·obtain ⟨R, r1, r2, r3, r4⟩ := ih.1 (by omega)
   refine ⟨b, R, ?_, by simp, r2, fun r hr => absurd (r3 r hr).2.1 (by simp), fun n => ?_⟩
   ·rw [sw, if_pos e, show d - 1 = 0 by omega, r1]; rfl
   ·rw [r4 n, cnt_cons, cnt_nil]
    by_cases hn : b ≤ n
    ·rw [if_pos hn]; omega
    ·have := low n (by omega); rw [if_neg hn]; omega
  ·obtain ⟨x, R, r1, r2, r3, r4, r5⟩ := ih.2 (by omega)
   refine ⟨x, R, ?_, by simp [r2], r3, fun r hr => absurd (r4 r hr).2.2.1 (by simp), fun n => ?_⟩
   ·rw [sw, if_neg e, r1]; rfl
   ·rw [r5 n, cnt_cons, cnt_nil]
    by_cases hn : b ≤ n
    ·rw [if_pos hn]; omega
    ·have := low n (by omega); rw [if_neg hn]; omega
 | k + 1, a :: A, b :: B, d, hk, h => by
  have hA := List.pairwise_cons.1 h.sA
  have hB := List.pairwise_cons.1 h.sB
  have lowA : ∀ n : Int, n < a → cntI (a :: A) n = 0 ∧ cntI A n = 0 := fun n hn => by
   have : cntI A n = 0 := cnt_zero fun x hx => by have := hA.1 x hx; omega
   rw [cnt_cons, if_neg (by omega)]; omega
  have lowB : ∀ n : Int, n < b → cntI (b :: B) n = 0 ∧ cntI B n = 0 := fun n hn => by
   have : cntI B n = 0 := cnt_zero fun x hx => by have := hB.1 x hx; omega
   rw [cnt_cons, if_neg (by omega)]; omega
  by_cases hab : a ≤ b
  ·obtain ⟨x, R, r1, r2, r3, r4, r5⟩ := (sw_main k A (b :: B) (d + 1) (by simp only [List.length_cons] at *; omega) (h.in_ hab)).2 (by omega)
   have hx : b ≤ x := by
    rcases List.mem_cons.1 r2 with rfl | r2
    ·omega
    ·exact hB.1 x r2
   constructor
   ·rintro rfl
    have hs := h.strict
    refine ⟨⟨a, x - 1⟩ :: R, ?_, List.pairwise_cons.2 ⟨fun r hr => ?_, r3⟩, fun r hr => ?_, fun n => ?_⟩
    ·rw [sw, if_pos hab, if_pos rfl, r1]; simp [turnsR]
    ·have := (r4 r hr).1; simp only; omega
    ·rcases List.mem_cons.1 hr with rfl | hr
     ·simp only; exact ⟨by omega, by simp, by rw [show x - 1 + 1 = x by omega]; exact r2⟩
     ·have := r4 r hr; exact ⟨this.2.1, by simp [this.2.2.1], this.2.2.2⟩
    ·have h5 := r5 n
     rw [inR_cons, cnt_cons a A]
     simp only
     by_cases hn : a ≤ n
     ·rw [if_pos hn]
      constructor
      ·rintro (g | g)
       ·have := h5.1 (.inl (by omega)); omega
       ·have := h5.1 (.inr g); omega
      ·intro g
       rcases h5.2 (by omega) with g | g
       ·exact .inl ⟨hn, by omega⟩
       ·exact .inr g
     ·rw [if_neg hn]
      have l1 := lowA n (by omega)
      constructor
      ·rintro (g | ⟨r, hr, g1, g2⟩)
       ·omega
       ·have := hA.1 _ (r4 r hr).2.2.1; omega
      ·intro g; omega
   ·intro h0
    refine ⟨x, R, ?_, r2, r3, fun r hr => ?_, fun n => ?_⟩
    ·rw [sw, if_pos hab, if_neg (by omega), r1]; rfl
    ·have := r4 r hr; exact ⟨this.1, this.2.1, by simp [this.2.2.1], this.2.2.2⟩
    ·rw [r5 n, cnt_cons a A]
     by_cases hn : a ≤ n
     ·rw [if_pos hn]; omega
     ·have l1 := lowA n (by omega)
      have l2 := lowB n (by omega)
      rw [if_neg hn]; omega
  ·have hd := h.pos (by omega)
   have ih := sw_main k (a :: A) B (d - 1) (by simp only [List.length_cons] at *; omega) (h.out (by omega))
   refine ⟨fun h0 => by omega, fun _ => ?_⟩
   by_cases e : d = 1
   ·obtain ⟨R, r1, r2, r3, r4⟩ := ih.1 (by omega)
    refine ⟨b, R, ?_, by simp, r2, fun r hr => ?_, fun n => ?_⟩
    ·rw [sw, if_neg hab, if_pos e, show d - 1 = 0 by omega, r1]; rfl
    ·have := r3 r hr
     refine ⟨?_, this.1, this.2.1, by simp [this.2.2]⟩
     rcases List.mem_cons.1 this.2.1 with g | g
     ·omega
     ·have := hA.1 _ g; omega
    ·rw [r4 n, cnt_cons b B]
     by_cases hn : b ≤ n
     ·rw [if_pos hn]; omega
     ·have := lowB n (by omega); rw [if_neg hn]; omega
   ·obtain ⟨x, R, r1, r2, r3, r4, r5⟩ := ih.2 (by omega)
    refine ⟨x, R, ?_, by simp [r2], r3, fun r hr => ?_, fun n => ?_⟩
    ·rw [sw, if_neg hab, if_neg e, r1]; rfl
    ·have := r4 r hr; exact ⟨this.1, this.2.1, this.2.2.1, by simp [this.2.2.2]⟩
    ·rw [r5 n, cnt_cons b B]
     by_cases hn : b ≤ n
     ·rw [if_pos hn]; omega
     ·have := lowB n (by omega); have := lowA n (by omega); rw [if_neg hn]; omega
def insR (l : List Run) : List Int := (keepR l).map fun r => r.lo
def outsR (l : List Run) : List Int := (keepR l).map fun r => r.hi + 1
def insS (l : List Run) : List Int := (insR l).mergeSort leI
def outsS (l : List Run) : List Int := (outsR l).mergeSort leI
theorem leI_sorted (l : List Int) : (l.mergeSort leI).Pairwise (fun x y => x ≤ y) := by
 have := List.pairwise_mergeSort leI_tr leI_to l
 exact this.imp fun h => by simpa [leI] using h
theorem cnt_sort (l : List Int) (n:Int) : cntI (l.mergeSort leI) n = cntI l n := (List.mergeSort_perm l leI).countP_eq _
theorem countP_lt {α : Type} {p q : α → Bool} : ∀ {l : List α}, (∀ x ∈ l, p x = true → q x = true) → (l.countP p < l.countP q ↔ ∃ x ∈ l, q x = true ∧ ¬ p x = true)
 | [], _ => by simp
 | x :: l, h => by
  have ih := countP_lt (p := p) (q := q) (l := l) fun y hy => h y (by simp [hy])
  have hle := List.countP_mono_left (l := l) (p := p) (q := q) fun y hy => h y (by simp [hy])
  have hx := h x (by simp)
  rw [List.countP_cons, List.countP_cons]
  have ex : (∃ y ∈ x :: l, q y = true ∧ ¬ p y = true) ↔ (q x = true ∧ ¬ p x = true) ∨ ∃ y ∈ l, q y = true ∧ ¬ p y = true := by simp
  rw [ex, ← ih]
  by_cases h1 : p x = true
  ·have h2 := hx h1
   rw [if_pos h1, if_pos h2]
   constructor
   ·intro g; exact .inr (by omega)
   ·rintro (g | g)
    ·exact absurd h1 g.2
    ·omega
  ·by_cases h2 : q x = true
   ·rw [if_neg h1, if_pos h2]
    constructor
    ·intro _; exact .inl ⟨h2, h1⟩
    ·intro _; omega
   ·rw [if_neg h1, if_neg h2]
    constructor
    ·intro g; exact .inr (by omega)
    ·rintro (g | g)
     ·exact absurd g.1 h2
     ·omega
theorem keep_in (l : List Run) (n:Int) : inR (keepR l) n ↔ 1 ≤ n ∧ n ≤ 1000000000 ∧ inR l n := by
 constructor
 ·rintro ⟨r, hr, h1, h2⟩
  unfold keepR at hr
  obtain ⟨hr, _⟩ := List.mem_filter.1 hr
  obtain ⟨x, hx, rfl⟩ := List.mem_map.1 hr
  simp only [clipR] at h1 h2
  exact ⟨by omega, by omega, x, hx, by omega, by omega⟩
 ·rintro ⟨h1, h2, x, hx, h3, h4⟩
  refine ⟨clipR x, ?_, ?_, ?_⟩
  ·unfold keepR
   refine List.mem_filter.2 ⟨List.mem_map.2 ⟨x, hx, rfl⟩, ?_⟩
   show decide ((clipR x).lo ≤ (clipR x).hi) = true
   rw [decide_eq_true_iff]
   show max x.lo 1 ≤ min x.hi 1000000000
   omega
  ·simp only [clipR]; omega
  ·simp only [clipR]; omega
theorem cnt_ins (l : List Run) (n:Int) : cntI (insS l) n = (keepR l).countP fun r => decide (r.lo ≤ n) := by
 unfold insS insR
 rw [cnt_sort, cntI, List.countP_map]
 rfl
theorem cnt_outs (l : List Run) (n:Int) : cntI (outsS l) n = (keepR l).countP fun r => decide (r.hi + 1 ≤ n) := by
 unfold outsS outsR
 rw [cnt_sort, cntI, List.countP_map]
 rfl
theorem sweep_ok (l : List Run) : VW (insS l) (outsS l) 0 := by
 refine ⟨leI_sorted _, leI_sorted _, ?_, fun n => ?_⟩
 ·unfold insS outsS insR outsR
  rw [List.length_mergeSort, List.length_mergeSort]
  simp
 ·rw [cnt_ins, cnt_outs, Nat.zero_add]
  refine List.countP_mono_left fun r hr h => ?_
  have := keep_good r hr
  unfold good1 at this
  simp only [decide_eq_true_eq] at *
  omega
theorem sweep_nrm (l : List Run) : sw (insS l) (outsS l) 0 = turnsR (nrm l) := by
 obtain ⟨R, r1, r2, r3, r4⟩ := (sw_main _ _ _ _ rfl (sweep_ok l)).1 rfl
 rw [r1]
 congr 1
 have bd : ∀ r ∈ R, 1 ≤ r.lo ∧ r.hi ≤ 1000000000 := fun r hr => by
  obtain ⟨_, h1, h2⟩ := r3 r hr
  have h1 := (List.mergeSort_perm _ _).subset h1
  have h2 := (List.mergeSort_perm _ _).subset h2
  obtain ⟨x, hx, ex⟩ := List.mem_map.1 h1
  obtain ⟨y, hy, ey⟩ := List.mem_map.1 h2
  have gx := keep_good x hx
  have gy := keep_good y hy
  unfold good1 okR at gx gy
  omega
 refine sep_unique ⟨r2, fun r hr => ?_⟩ (nrm_sep l) fun n => ?_
 ·have := bd r hr; have := (r3 r hr).1; omega
 ·rw [r4 n, nrm_in, cnt_ins, cnt_outs, ← keep_in, countP_lt fun r hr h => by
   have := keep_good r hr
   unfold good1 at this
   simp only [decide_eq_true_eq] at *
   omega]
  unfold inR
  constructor
  ·rintro ⟨r, hr, h1, h2⟩
   simp only [decide_eq_true_eq] at h1 h2
   exact ⟨r, hr, h1, by omega⟩
  ·rintro ⟨r, hr, h1, h2⟩
   exact ⟨r, hr, by simp only [decide_eq_true_eq]; exact h1, by simp only [decide_eq_true_eq]; omega⟩
end Go.Proofs.YtaiepnaokhpmcaaGreat
namespace Go.Proofs.YtaiepnaokhpmcaaGreat
open Go.E
set_option maxRecDepth 100000
set_option maxHeartbeats 4000000
theorem turns_lenK (l : List Run) : (turnsR l).length = 2 * l.length := by
 unfold turnsR
 induction l with
 | nil => rfl
 | cons r l ih => simp only [List.flatMap_cons, List.length_append, List.length_cons, List.length_nil, ih]; omega
end Go.Proofs.YtaiepnaokhpmcaaGreat
namespace Go.Proofs.YtaiepnaokhpmcaaGreat
open Go.E
set_option maxRecDepth 100000
set_option maxHeartbeats 4000000
def combL (f : Bool → Bool → Bool) : List Int → List Int → Bool → Bool → Bool → List Int
 | p :: a, q :: b, x, y, w =>
  if p < q then (if f (!x) y = w then [] else [p]) ++ combL f a (q :: b) (!x) y (f (!x) y)
  else if p = q then (if f (!x) (!y) = w then [] else [p]) ++ combL f a b (!x) (!y) (f (!x) (!y))
  else (if f x (!y) = w then [] else [q]) ++ combL f (p :: a) b x (!y) (f x (!y))
 | p :: a, [], x, y, w => (if f (!x) y = w then [] else [p]) ++ combL f a [] (!x) y (f (!x) y)
 | [], q :: b, x, y, w => (if f x (!y) = w then [] else [q]) ++ combL f [] b x (!y) (f x (!y))
 | [], [], _, _, _ => []
termination_by a b => a.length + b.length
theorem combL_nil (f : Bool → Bool → Bool) (x y w : Bool) : combL f [] [] x y w = [] := by rw [combL]
theorem combL_l (f : Bool → Bool → Bool) (p:Int) (a : List Int) (x y w : Bool) : combL f (p :: a) [] x y w = (if f (!x) y = w then [] else [p]) ++ combL f a [] (!x) y (f (!x) y) := by rw [combL]
theorem combL_r (f : Bool → Bool → Bool) (q:Int) (b : List Int) (x y w : Bool) : combL f [] (q :: b) x y w = (if f x (!y) = w then [] else [q]) ++ combL f [] b x (!y) (f x (!y)) := by rw [combL]
theorem combL_cc (f : Bool → Bool → Bool) (p q:Int) (a b : List Int) (x y w : Bool) : combL f (p :: a) (q :: b) x y w =
  if p < q then (if f (!x) y = w then [] else [p]) ++ combL f a (q :: b) (!x) y (f (!x) y)
  else if p = q then (if f (!x) (!y) = w then [] else [p]) ++ combL f a b (!x) (!y) (f (!x) (!y))
  else (if f x (!y) = w then [] else [q]) ++ combL f (p :: a) b x (!y) (f x (!y)) := by rw [combL]
def parL : List Int → Int → Bool
 | [], _ => false
 | p :: a, n => decide (p ≤ n) ^^ parL a n
def riseL (a : List Int) : Prop := a.Pairwise fun x y => x < y
theorem par_lt {n : Int} : ∀ {a : List Int}, (∀ p ∈ a, n < p) → parL a n = false
 | [], _ => rfl
 | p :: a, h => by
  have h1 := h p (by simp)
  rw [parL, par_lt (a := a) fun q hq => h q (by simp [hq])]
  simp
  omega
theorem par_all {n : Int} : ∀ {a : List Int}, (∀ p ∈ a, p ≤ n) → parL a n = decide (a.length % 2 = 1)
 | [], _ => rfl
 | p :: a, h => by
  have h1 := h p (by simp)
  rw [parL, par_all (a := a) fun q hq => h q (by simp [hq]), decide_eq_true h1, List.length_cons]
  by_cases k : a.length % 2 = 1
  ·have k2 : ¬ (a.length + 1) % 2 = 1 := by omega
   rw [decide_eq_true k, decide_eq_false k2]; rfl
  ·have k2 : (a.length + 1) % 2 = 1 := by omega
   rw [decide_eq_false k, decide_eq_true k2]; rfl
theorem par_one (c w w' : Bool) (p n:Int) (r : List Int) (hp : p ≤ n) (hc : (w' ^^ parL r n) = c) : (w ^^ parL ((if w' = w then [] else [p]) ++ r) n) = c := by
 rw [← hc]
 split
 ·rename_i e; rw [e]; rfl
 ·rename_i e
  show (w ^^ (decide (p ≤ n) ^^ parL r n)) = _
  rw [decide_eq_true hp]
  cases w <;> cases w' <;> simp_all
theorem comb_mem (f : Bool → Bool → Bool) : ∀ (k:Nat) (a b : List Int), a.length + b.length ≤ k → ∀ (x y w : Bool), ∀ e ∈ combL f a b x y w, e ∈ a ∨ e ∈ b := by
 intro k
 induction k with
 | zero =>
  intro a b hk x y w e he
  have h1 : a = [] := List.eq_nil_of_length_eq_zero (by omega)
  have h2 : b = [] := List.eq_nil_of_length_eq_zero (by omega)
  subst h1 h2
  rw [combL_nil] at he
  cases he
 | succ k ih =>
  have hd : ∀ (c : Prop) [Decidable c] (p e:Int) (m : List Int), e ∈ (if c then [] else [p]) ++ m → e = p ∨ e ∈ m := by
   intro c _ p e m h
   rcases List.mem_append.1 h with h | h
   ·split at h
    ·cases h
    ·exact .inl (by simpa using h)
   ·exact .inr h
  intro a b hk x y w e he
  cases a with
  | nil =>
   cases b with
   | nil => rw [combL_nil] at he; cases he
   | cons q b =>
    rw [combL_r] at he
    rcases hd _ _ _ _ he with rfl | he
    ·exact .inr (by simp)
    ·rcases ih _ _ (by simp only [List.length_cons, List.length_nil] at hk ⊢; omega) _ _ _ e he with h | h
     ·exact .inl h
     ·exact .inr (by simp [h])
  | cons p a =>
   cases b with
   | nil =>
    rw [combL_l] at he
    rcases hd _ _ _ _ he with rfl | he
    ·exact .inl (by simp)
    ·rcases ih _ _ (by simp only [List.length_cons, List.length_nil] at hk ⊢; omega) _ _ _ e he with h | h
     ·exact .inl (by simp [h])
     ·exact .inr h
   | cons q b =>
    simp only [List.length_cons] at hk
    rw [combL_cc] at he
    split at he
    ·rcases hd _ _ _ _ he with rfl | he
     ·exact .inl (by simp)
     ·rcases ih _ _ (by simp only [List.length_cons]; omega) _ _ _ e he with h | h
      ·exact .inl (by simp [h])
      ·exact .inr h
    ·split at he
     ·rcases hd _ _ _ _ he with rfl | he
      ·exact .inl (by simp)
      ·rcases ih _ _ (by omega) _ _ _ e he with h | h
       ·exact .inl (by simp [h])
       ·exact .inr (by simp [h])
     ·rcases hd _ _ _ _ he with rfl | he
      ·exact .inr (by simp)
      ·rcases ih _ _ (by simp only [List.length_cons]; omega) _ _ _ e he with h | h
       ·exact .inl h
       ·exact .inr (by simp [h])
theorem comb_rise (f : Bool → Bool → Bool) : ∀ (k:Nat) (a b : List Int), a.length + b.length ≤ k → riseL a → riseL b → ∀ (x y w : Bool), riseL (combL f a b x y w) := by
 intro k
 induction k with
 | zero =>
  intro a b hk _ _ x y w
  have h1 : a = [] := List.eq_nil_of_length_eq_zero (by omega)
  have h2 : b = [] := List.eq_nil_of_length_eq_zero (by omega)
  subst h1 h2
  rw [combL_nil]
  exact List.Pairwise.nil
 | succ k ih =>
  have hd : ∀ (c : Prop) [Decidable c] (p:Int) (m : List Int), riseL m → (∀ e ∈ m, p < e) → riseL ((if c then [] else [p]) ++ m) := by
   intro c _ p m hm hp
   split
   ·exact hm
   ·exact List.pairwise_cons.2 ⟨hp, hm⟩
  intro a b hk ha hb x y w
  cases a with
  | nil =>
   cases b with
   | nil => rw [combL_nil]; exact List.Pairwise.nil
   | cons q b =>
    have pb := List.pairwise_cons.1 hb
    rw [combL_r]
    refine hd _ _ _ (ih _ _ (by simp only [List.length_cons, List.length_nil] at hk ⊢; omega) ha pb.2 _ _ _) fun e he => ?_
    rcases comb_mem f _ _ _ (Nat.le_refl _) _ _ _ e he with h | h
    ·cases h
    ·exact pb.1 e h
  | cons p a =>
   have pa := List.pairwise_cons.1 ha
   cases b with
   | nil =>
    rw [combL_l]
    refine hd _ _ _ (ih _ _ (by simp only [List.length_cons, List.length_nil] at hk ⊢; omega) pa.2 hb _ _ _) fun e he => ?_
    rcases comb_mem f _ _ _ (Nat.le_refl _) _ _ _ e he with h | h
    ·exact pa.1 e h
    ·cases h
   | cons q b =>
    have pb := List.pairwise_cons.1 hb
    simp only [List.length_cons] at hk
    rw [combL_cc]
    split
    ·refine hd _ _ _ (ih _ _ (by simp only [List.length_cons]; omega) pa.2 hb _ _ _) fun e he => ?_
     rcases comb_mem f _ _ _ (Nat.le_refl _) _ _ _ e he with h | h
     ·exact pa.1 e h
     ·rcases List.mem_cons.1 h with rfl | h
      ·assumption
      ·have := pb.1 e h; omega
    ·split
     ·rename_i e0
      refine hd _ _ _ (ih _ _ (by omega) pa.2 pb.2 _ _ _) fun e he => ?_
      rcases comb_mem f _ _ _ (Nat.le_refl _) _ _ _ e he with h | h
      ·exact pa.1 e h
      ·have := pb.1 e h; omega
     ·refine hd _ _ _ (ih _ _ (by simp only [List.length_cons]; omega) ha pb.2 _ _ _) fun e he => ?_
      rcases comb_mem f _ _ _ (Nat.le_refl _) _ _ _ e he with h | h
      ·rcases List.mem_cons.1 h with rfl | h
       ·omega
       ·have := pa.1 e h; omega
      ·exact pb.1 e h
theorem comb_par (f : Bool → Bool → Bool) : ∀ (k:Nat) (a b : List Int), a.length + b.length ≤ k → riseL a → riseL b → ∀ (x y : Bool) (n:Int), (f x y ^^ parL (combL f a b x y (f x y)) n) = f (x ^^ parL a n) (y ^^ parL b n) := by
 intro k
 induction k with
 | zero =>
  intro a b hk _ _ x y n
  have h1 : a = [] := List.eq_nil_of_length_eq_zero (by omega)
  have h2 : b = [] := List.eq_nil_of_length_eq_zero (by omega)
  subst h1 h2
  rw [combL_nil]
  simp [parL]
 | succ k ih =>
  intro a b hk ha hb x y n
  -- below everything nothing turns
  by_cases hlow : (∀ e ∈ a, n < e) ∧ ∀ e ∈ b, n < e
  ·rw [par_lt hlow.1, par_lt hlow.2, par_lt fun e he => by
    rcases comb_mem f _ _ _ (Nat.le_refl _) _ _ _ e he with h | h
    ·exact hlow.1 e h
    ·exact hlow.2 e h]
   simp
  ·have flip : ∀ (p:Int) (m : List Int) (z : Bool), p ≤ n → (z ^^ parL (p :: m) n) = ((!z) ^^ parL m n) := by
    intro p m z hp
    rw [parL, decide_eq_true hp]
    cases z <;> simp
   cases a with
   | nil =>
    cases b with
    | nil => exact absurd ⟨fun e he => (by cases he), fun e he => (by cases he)⟩ hlow
    | cons q b =>
     have pb := List.pairwise_cons.1 hb
     have hq : q ≤ n := Int.not_lt.1 fun h => hlow ⟨fun e he => (by cases he), fun e he => by
      rcases List.mem_cons.1 he with rfl | he
      ·exact h
      ·have := pb.1 e he; omega⟩
     rw [combL_r, flip q b y hq]
     exact par_one _ _ _ _ _ _ hq (ih _ _ (by simp only [List.length_cons, List.length_nil] at hk ⊢; omega) ha pb.2 _ _ n)
   | cons p a =>
    have pa := List.pairwise_cons.1 ha
    cases b with
    | nil =>
     have hp : p ≤ n := Int.not_lt.1 fun h => hlow ⟨fun e he => by
      rcases List.mem_cons.1 he with rfl | he
      ·exact h
      ·have := pa.1 e he; omega, fun e he => (by cases he)⟩
     rw [combL_l, flip p a x hp]
     exact par_one _ _ _ _ _ _ hp (ih _ _ (by simp only [List.length_cons, List.length_nil] at hk ⊢; omega) pa.2 hb _ _ n)
    | cons q b =>
     have pb := List.pairwise_cons.1 hb
     simp only [List.length_cons] at hk
     have hm : p ≤ n ∨ q ≤ n := by
      apply Classical.byContradiction
      intro h
      refine hlow ⟨fun e he => ?_, fun e he => ?_⟩
      ·rcases List.mem_cons.1 he with rfl | he
       ·omega
       ·have := pa.1 e he; omega
      ·rcases List.mem_cons.1 he with rfl | he
       ·omega
       ·have := pb.1 e he; omega
     rw [combL_cc]
     split
     ·have hp : p ≤ n := by omega
      rw [flip p a x hp]
      exact par_one _ _ _ _ _ _ hp (ih _ _ (by simp only [List.length_cons]; omega) pa.2 hb _ _ n)
     ·split
      ·rename_i e0
       have hp : p ≤ n := by omega
       rw [flip p a x hp, flip q b y (by omega)]
       exact par_one _ _ _ _ _ _ hp (ih _ _ (by omega) pa.2 pb.2 _ _ n)
      ·have hq : q ≤ n := by omega
       rw [flip q b y hq]
       exact par_one _ _ _ _ _ _ hq (ih _ _ (by simp only [List.length_cons]; omega) ha pb.2 _ _ n)
def pairsL : List Int → List Run
 | p :: q :: t => ⟨p, q - 1⟩ :: pairsL t
 | _ => []
theorem turns_cons (r : Run) (l : List Run) : turnsR (r :: l) = r.lo :: (r.hi + 1) :: turnsR l := rfl
theorem turns_pairs : ∀ t : List Int, t.length % 2 = 0 → turnsR (pairsL t) = t
 | [], _ => rfl
 | [p], h => by simp at h
 | p :: q :: t, h => by
  rw [pairsL, turns_cons, turns_pairs t (by simp only [List.length_cons] at h; omega)]
  simp only
  rw [show q - 1 + 1 = q by omega]
theorem pairs_sub : ∀ t : List Int, ∀ r ∈ pairsL t, r.lo ∈ t ∧ r.hi + 1 ∈ t
 | [], r, hr => by cases hr
 | [p], r, hr => by cases hr
 | p :: q :: t, r, hr => by
  rw [pairsL] at hr
  rcases List.mem_cons.1 hr with rfl | hr
  ·simp
  ·have := pairs_sub t r hr
   exact ⟨by simp [this.1], by simp [this.2]⟩
theorem pairs_sep : ∀ t : List Int, riseL t → (∀ e ∈ t, 1 ≤ e ∧ e ≤ 1000000001) → sepR (pairsL t)
 | [], _, _ => sepR_nil
 | [p], _, _ => sepR_nil
 | p :: q :: t, h, hb => by
  have h1 := List.pairwise_cons.1 h
  have h2 := List.pairwise_cons.1 h1.2
  have ih := pairs_sep t h2.2 fun e he => hb e (by simp [he])
  have hp := hb p (by simp)
  have hq := hb q (by simp)
  have hpq := h1.1 q (by simp)
  rw [pairsL]
  refine ⟨List.pairwise_cons.2 ⟨fun r hr => ?_, ih.1⟩, fun r hr => ?_⟩
  ·have := h2.1 _ (pairs_sub t r hr).1
   simp only
   omega
  ·rcases List.mem_cons.1 hr with rfl | hr
   ·simp only; omega
   ·exact ih.2 r hr
theorem turns_mem : ∀ {l : List Run} {e : Int}, e ∈ turnsR l → ∃ r ∈ l, e = r.lo ∨ e = r.hi + 1
 | [], e, h => by cases h
 | r :: l, e, h => by
  rw [turns_cons] at h
  rcases List.mem_cons.1 h with rfl | h
  ·exact ⟨r, by simp, .inl rfl⟩
  ·rcases List.mem_cons.1 h with rfl | h
   ·exact ⟨r, by simp, .inr rfl⟩
   ·obtain ⟨x, hx, k⟩ := turns_mem h
    exact ⟨x, by simp [hx], k⟩
theorem turns_rise : ∀ {l : List Run}, sepR l → riseL (turnsR l)
 | [], _ => List.Pairwise.nil
 | r :: l, h => by
  have hr := h.2 r (by simp)
  have pa := (List.pairwise_cons.1 h.1).1
  rw [turns_cons]
  have big : ∀ e ∈ turnsR l, r.hi + 1 < e := by
   intro e he
   obtain ⟨x, hx, k⟩ := turns_mem he
   have h1 := pa x hx
   have h2 := h.2 x (by simp [hx])
   omega
  refine List.pairwise_cons.2 ⟨fun e he => ?_, List.pairwise_cons.2 ⟨big, turns_rise (sepR_tail h)⟩⟩
  rcases List.mem_cons.1 he with rfl | he
  ·omega
  ·have := big e he; omega
theorem par_turns : ∀ {l : List Run}, sepR l → ∀ n, parL (turnsR l) n = true ↔ inR l n
 | [], _, n => by simp [turnsR, parL, inR]
 | r :: l, h, n => by
  have hr := h.2 r (by simp)
  have ih := par_turns (sepR_tail h) n
  have lt : inR l n → r.hi + 1 < n := sepR_lt h
  rw [turns_cons, inR_cons, ← ih]
  rw [← ih] at lt
  simp only [parL]
  by_cases h1 : r.lo ≤ n
  ·by_cases h2 : r.hi + 1 ≤ n
   ·rw [decide_eq_true h1, decide_eq_true h2]
    simp only [Bool.true_bne, Bool.not_not, Bool.true_xor]
    constructor
    ·exact fun k => .inr k
    ·rintro (k | k)
     ·omega
     ·exact k
   ·rw [decide_eq_true h1, decide_eq_false h2]
    cases e : parL (turnsR l) n with
    | true => have := lt e; omega
    | false => simp; omega
  ·have h2 : ¬ r.hi + 1 ≤ n := by omega
   rw [decide_eq_false h1, decide_eq_false h2]
   cases e : parL (turnsR l) n with
   | true => have := lt e; omega
   | false => simp; omega
theorem turns_bound {l : List Run} (h : sepR l) : ∀ e ∈ turnsR l, 1 ≤ e ∧ e ≤ 1000000001 := by
 intro e he
 obtain ⟨r, hr, k⟩ := turns_mem he
 have := h.2 r hr
 omega
def hasL (l : List Run) (n:Int) : Bool := l.any fun r => decide (r.lo ≤ n ∧ n ≤ r.hi)
theorem hasL_iff {l : List Run} {n : Int} : hasL l n = true ↔ inR l n := by
 unfold hasL inR
 rw [List.any_eq_true]
 simp only [decide_eq_true_eq]
theorem comb_turns (f : Bool → Bool → Bool) (hf : f false false = false) {A B C : List Run} (hA : sepR A) (hB : sepR B) (hC : sepR C) (h : ∀ n, inR C n ↔ f (hasL A n) (hasL B n) = true) :
  combL f (turnsR A) (turnsR B) false false false = turnsR C := by
 have hp := fun n => comb_par f _ (turnsR A) (turnsR B) (Nat.le_refl _) (turns_rise hA) (turns_rise hB) false false n
 rw [hf] at hp
 have hr := comb_rise f _ (turnsR A) (turnsR B) (Nat.le_refl _) (turns_rise hA) (turns_rise hB) false false false
 have hm := comb_mem f _ (turnsR A) (turnsR B) (Nat.le_refl _) false false false
 generalize combL f (turnsR A) (turnsR B) false false false = t at hp hr hm ⊢
 have hb : ∀ e ∈ t, 1 ≤ e ∧ e ≤ 1000000001 := fun e he => by
  rcases hm e he with k | k
  ·exact turns_bound hA e k
  ·exact turns_bound hB e k
 simp only [Bool.false_xor, Bool.false_bne] at hp
 have he : t.length % 2 = 0 := by
  have h1 := hp 1000000001
  rw [par_all fun e he => (hb e he).2, par_all fun e he => (turns_bound hA e he).2, par_all fun e he => (turns_bound hB e he).2, turns_lenK, turns_lenK, decide_eq_false (by omega : ¬ 2 * A.length % 2 = 1), decide_eq_false (by omega : ¬ 2 * B.length % 2 = 1), hf, decide_eq_false_iff_not] at h1
  omega
 have hs := pairs_sep t hr hb
 rw [← turns_pairs t he]
 congr 1
 refine sep_unique hs hC fun n => ?_
 rw [h, ← par_turns hs, turns_pairs t he, hp]
 have d : ∀ {l : List Run}, sepR l → parL (turnsR l) n = hasL l n := fun {l} hl => by
  rw [Bool.eq_iff_iff, hasL_iff]; exact par_turns hl n
 rw [d hA, d hB]
def ruleB (rule:Int) (x y : Bool) : Bool := decide (rule = 1) && x && y || decide (rule = 2) && x && !y
def oddI (i:Int) : Bool := decide (i % 2 = 1)
def isComb (f : Bool → Bool → Bool) (a b : List Int) (i j:Int) (w : Bool) (t : List Int) : Prop := t ++ combL f (a.drop i.toNat) (b.drop j.toNat) (oddI i) (oddI j) w = combL f a b false false false
theorem odd_next {i : Int} (h : 0 ≤ i) : oddI (i + 1) = !oddI i := by
 unfold oddI
 by_cases k : i % 2 = 1
 ·rw [decide_eq_true k, decide_eq_false (by omega)]; rfl
 ·rw [decide_eq_false k, decide_eq_true (by omega)]; rfl
theorem dropI {a : List Int} {i : Int} (h0 : 0 ≤ i) (h : i < a.length) : a.drop i.toNat = a[i.toNat]! :: a.drop (i + 1).toNat := by
 rw [show (i + 1).toNat = i.toNat + 1 by omega, getElem!_pos a i.toNat (by omega)]
 exact List.drop_eq_getElem_cons (by omega)
theorem dropIn {a : List Int} {i : Int} (h : ¬ i < a.length) : a.drop i.toNat = [] := List.drop_of_length_le (by omega)
theorem comb_step {f : Bool → Bool → Bool} {a b : List Int} {i j i' j' u : Int} {w w' : Bool} {t t' : List Int} (h0 : 0 ≤ i) (j0 : 0 ≤ j) (ho : i < a.length ∨ j < b.length)
  (hu : u = if ¬ j < b.length ∨ (i < a.length ∧ a[i.toNat]! < b[j.toNat]!) then a[i.toNat]! else b[j.toNat]!)
  (hi : i' = if i < a.length ∧ a[i.toNat]! = u then i + 1 else i) (hj : j' = if j < b.length ∧ b[j.toNat]! = u then j + 1 else j)
  (hw : w' = f (oddI i') (oddI j')) (ht : t' = if w' = w then t else t ++ [u]) (h : isComb f a b i j w t) : isComb f a b i' j' w' t' := by
 have fin : ∀ r : List Int, t' ++ r = t ++ ((if w' = w then [] else [u]) ++ r) := by
  intro r
  rw [ht]
  split <;> simp
 unfold isComb at *
 rw [fin, ← h]
 congr 1
 by_cases hi1 : i < a.length
 ·by_cases hj1 : j < b.length
  ·rw [dropI h0 hi1, dropI j0 hj1, combL_cc]
   by_cases k : a[i.toNat]! < b[j.toNat]!
   ·rw [if_pos (.inr ⟨hi1, k⟩)] at hu
    rw [hu, if_pos ⟨hi1, rfl⟩] at hi
    rw [hu, if_neg (fun c => by omega)] at hj
    rw [if_pos k, hi, hj, hw, hi, hj, odd_next h0, hu, dropI j0 hj1]
   ·rw [if_neg (fun c => by omega)] at hu
    rw [if_neg k]
    by_cases e : a[i.toNat]! = b[j.toNat]!
    ·rw [hu, if_pos ⟨hi1, e⟩] at hi
     rw [hu, if_pos ⟨hj1, rfl⟩] at hj
     rw [if_pos e, hi, hj, hw, hi, hj, odd_next h0, odd_next j0, hu, e]
    ·rw [hu, if_neg (fun c => e c.2)] at hi
     rw [hu, if_pos ⟨hj1, rfl⟩] at hj
     rw [if_neg e, hi, hj, hw, hi, hj, odd_next j0, hu, dropI h0 hi1]
  ·rw [dropI h0 hi1, dropIn hj1, combL_l]
   rw [if_pos (.inl hj1)] at hu
   rw [hu, if_pos ⟨hi1, rfl⟩] at hi
   rw [hu, if_neg (fun c => hj1 c.1)] at hj
   rw [hi, hj, hw, hi, hj, odd_next h0, hu, dropIn hj1]
 ·have hj1 : j < b.length := by omega
  rw [dropIn hi1, dropI j0 hj1, combL_r]
  rw [if_neg (fun c => by omega)] at hu
  rw [if_neg (fun c => hi1 c.1)] at hi
  rw [hu, if_pos ⟨hj1, rfl⟩] at hj
  rw [hi, hj, hw, hi, hj, odd_next j0, hu, dropIn hi1]
theorem comb_end {f : Bool → Bool → Bool} {a b : List Int} {i j : Int} {w : Bool} {t : List Int} (h1 : ¬ i < a.length) (h2 : ¬ j < b.length) (h : isComb f a b i j w t) : t = combL f a b false false false := by
 unfold isComb at h
 rw [dropIn h1, dropIn h2, combL_nil, List.append_nil] at h
 exact h
end Go.Proofs.YtaiepnaokhpmcaaGreat
namespace Go.Proofs.YtaiepnaokhpmcaaGreat
open Go.E
set_option maxRecDepth 100000
set_option maxHeartbeats 4000000
def zipR (lo hi : List Int) : List Run := List.zipWith (fun a b => ⟨a, b⟩) lo hi
def isIns (lo hi : List Int) (i:Int) (l : List Int) : Prop := l = insR ((zipR lo hi).take i.toNat)
def isOuts (lo hi : List Int) (i:Int) (l : List Int) : Prop := l = outsR ((zipR lo hi).take i.toNat)
def invTa (lo hi : List Int) (i:Int) (a b : List Int) : Prop := 0 ≤ i ∧ i ≤ lo.length ∧ (a.length:Int) ≤ i ∧ (b.length:Int) = a.length ∧ isIns lo hi i a ∧ isOuts lo hi i b
def decTa (lo : List Int) (i:Int) (a b : List Int) : Nat := (lo.length - i).toNat
def isSw (A B : List Int) (i j:Int) (t : List Int) : Prop := VW (A.drop i.toNat) (B.drop j.toNat) (i - j).toNat ∧ j ≤ i ∧ t ++ sw (A.drop i.toNat) (B.drop j.toNat) (i - j).toNat = sw A B 0
def invTb (A B : List Int) (d j i:Int) (t : List Int) : Prop := 0 ≤ i ∧ i ≤ A.length ∧ 0 ≤ j ∧ j ≤ B.length ∧ d = i - j ∧ (t.length:Int) ≤ i + j ∧ isSw A B i j t
def decTb (A B : List Int) (d j i:Int) (t : List Int) : Nat := (A.length + B.length - i - j).toNat
theorem isSw_len {A B : List Int} {i j : Int} {t : List Int} (h0 : 0 ≤ i) (hi : i ≤ A.length) (j0 : 0 ≤ j) (jl : j ≤ B.length) (h : isSw A B i j t) : A.length = B.length := by
 have := h.1.len
 have := h.2.1
 simp only [List.length_drop] at *
 omega
theorem isSw_in {A B : List Int} {i j : Int} {t : List Int} (h0 : 0 ≤ i) (hi : i < A.length) (j0 : 0 ≤ j) (jl : j ≤ B.length) (hle : A[i.toNat]! ≤ B[j.toNat]!) (h : isSw A B i j t) :
  isSw A B (i + 1) j (if i - j = 0 then t ++ [A[i.toNat]!] else t) := by
 have hl := isSw_len h0 (by omega) j0 jl h
 obtain ⟨v, hji, e⟩ := h
 have hj : j < B.length := by omega
 rw [drop_at h0 hi, drop_at j0 hj] at v e
 rw [sw, if_pos hle] at e
 refine ⟨?_, by omega, ?_⟩
 ·rw [drop_at j0 hj, show (i + 1 - j).toNat = (i - j).toNat + 1 by omega]; exact v.in_ hle
 ·rw [← e, drop_at j0 hj, show (i + 1 - j).toNat = (i - j).toNat + 1 by omega]
  by_cases z : i - j = 0
  ·rw [if_pos z, if_pos (show (i - j).toNat = 0 by omega), List.append_assoc]
  ·rw [if_neg z, if_neg (show ¬ (i - j).toNat = 0 by omega)]; rfl
theorem isSw_out {A B : List Int} {i j : Int} {t : List Int} (h0 : 0 ≤ i) (hi : i ≤ A.length) (j0 : 0 ≤ j) (jl : j ≤ B.length) (ho : i < A.length ∨ j < B.length) (hn : ¬ (i < A.length ∧ A[i.toNat]! ≤ B[j.toNat]!)) (h : isSw A B i j t) :
  j < B.length ∧ j < i ∧ isSw A B i (j + 1) (if i - j - 1 = 0 then t ++ [B[j.toNat]!] else t) := by
 have hl := isSw_len h0 hi j0 jl h
 obtain ⟨v, hji, e⟩ := h
 have hj : j < B.length := by omega
 rw [drop_at j0 hj] at v e
 by_cases hA : i < A.length
 ·have hba : B[j.toNat]! < A[i.toNat]! := by have : ¬ A[i.toNat]! ≤ B[j.toNat]! := fun k => hn ⟨hA, k⟩; omega
  rw [drop_at h0 hA] at v e
  have hp := v.pos hba
  rw [sw, if_neg (by omega)] at e
  refine ⟨hj, by omega, ?_, by omega, ?_⟩
  ·rw [drop_at h0 hA, show (i - (j + 1)).toNat = (i - j).toNat - 1 by omega]; exact v.out hba
  ·rw [← e, drop_at h0 hA, show (i - (j + 1)).toNat = (i - j).toNat - 1 by omega]
   by_cases z : i - j - 1 = 0
   ·rw [if_pos z, if_pos (show (i - j).toNat = 1 by omega), List.append_assoc]
   ·rw [if_neg z, if_neg (show ¬ (i - j).toNat = 1 by omega)]; rfl
 ·rw [List.drop_of_length_le (l := A) (by omega)] at v e
  have hp := v.end_
  rw [sw] at e
  refine ⟨hj, by omega, ?_, by omega, ?_⟩
  ·rw [List.drop_of_length_le (l := A) (by omega), show (i - (j + 1)).toNat = (i - j).toNat - 1 by omega]; exact hp.2
  ·rw [← e, List.drop_of_length_le (l := A) (by omega), show (i - (j + 1)).toNat = (i - j).toNat - 1 by omega]
   by_cases z : i - j - 1 = 0
   ·rw [if_pos z, if_pos (show (i - j).toNat = 1 by omega), List.append_assoc]
   ·rw [if_neg z, if_neg (show ¬ (i - j).toNat = 1 by omega)]; rfl
theorem isSw_end {A B : List Int} {i j : Int} {t : List Int} (ho : ¬ (i < A.length ∨ j < B.length)) (h : isSw A B i j t) : t = sw A B 0 := by
 have e := h.2.2
 rw [List.drop_of_length_le (by omega), List.drop_of_length_le (by omega), sw, List.append_nil] at e
 exact e
theorem zip_len {lo hi : List Int} (h : lo.length = hi.length) : (zipR lo hi).length = lo.length := by
 unfold zipR; rw [List.length_zipWith]; omega
theorem zip_step {lo hi : List Int} {i : Int} (h : lo.length = hi.length) (h0 : 0 ≤ i) (hi' : i < lo.length) : (zipR lo hi).take (i + 1).toNat = (zipR lo hi).take i.toNat ++ [⟨lo[i.toNat]!, hi[i.toNat]!⟩] := by
 rw [← take_step h0 (by rw [zip_len h]; exact hi')]
 congr 2
 have := zip_len h
 rw [getElem!_pos (zipR lo hi) i.toNat (by omega), getElem!_pos lo i.toNat (by omega), getElem!_pos hi i.toNat (by omega)]
 simp [zipR]
theorem ins_app (a : List Run) (r : Run) : insR (a ++ [r]) = insR a ++ if (clipR r).lo ≤ (clipR r).hi then [(clipR r).lo] else [] := by
 unfold insR
 rw [keepR_app, keepR_one, List.map_append]
 split <;> rfl
theorem outs_app (a : List Run) (r : Run) : outsR (a ++ [r]) = outsR a ++ if (clipR r).lo ≤ (clipR r).hi then [(clipR r).hi + 1] else [] := by
 unfold outsR
 rw [keepR_app, keepR_one, List.map_append]
 split <;> rfl
theorem isIns_in {lo hi : List Int} {i : Int} {a b : List Int} (h : lo.length = hi.length) (h0 : 0 ≤ i) (hl : i < lo.length) (hc : max lo[i.toNat]! 1 ≤ min hi[i.toNat]! 1000000000) (ha : isIns lo hi i a) (hb : isOuts lo hi i b) :
  isIns lo hi (i + 1) (a ++ [max lo[i.toNat]! 1]) ∧ isOuts lo hi (i + 1) (b ++ [min hi[i.toNat]! 1000000000 + 1]) := by
 unfold isIns isOuts at *
 have hc' : (clipR ⟨lo[i.toNat]!, hi[i.toNat]!⟩).lo ≤ (clipR ⟨lo[i.toNat]!, hi[i.toNat]!⟩).hi := hc
 rw [zip_step h h0 hl, ins_app, outs_app, ← ha, ← hb, if_pos hc', if_pos hc']
 exact ⟨rfl, rfl⟩
theorem isIns_out {lo hi : List Int} {i : Int} {a b : List Int} (h : lo.length = hi.length) (h0 : 0 ≤ i) (hl : i < lo.length) (hc : ¬ max lo[i.toNat]! 1 ≤ min hi[i.toNat]! 1000000000) (ha : isIns lo hi i a) (hb : isOuts lo hi i b) :
  isIns lo hi (i + 1) a ∧ isOuts lo hi (i + 1) b := by
 unfold isIns isOuts at *
 have hc' : ¬ (clipR ⟨lo[i.toNat]!, hi[i.toNat]!⟩).lo ≤ (clipR ⟨lo[i.toNat]!, hi[i.toNat]!⟩).hi := hc
 rw [zip_step h h0 hl, ins_app, outs_app, ← ha, ← hb, if_neg hc', if_neg hc', List.append_nil, List.append_nil]
 exact ⟨rfl, rfl⟩
theorem isIns_end {lo hi : List Int} {i : Int} {a b : List Int} (h : lo.length = hi.length) (hl : ¬ i < lo.length) (ha : isIns lo hi i a) (hb : isOuts lo hi i b) : a.mergeSort leI = insS (zipR lo hi) ∧ b.mergeSort leI = outsS (zipR lo hi) := by
 unfold isIns isOuts at *
 have := zip_len h
 rw [ha, hb, List.take_of_length_le (by omega)]
 exact ⟨rfl, rfl⟩
theorem isSw_start (l : List Run) : isSw (insS l) (outsS l) 0 0 [] := ⟨sweep_ok l, by omega, by simp⟩
theorem con171 (lo hi : List Int) (h : lo.length = hi.length) (hb : lo.length * 16 ≤ 140737488351232) : Con Tryz.prog 171 [.sl (lo.map c3), .sl (hi.map c3)] (.sl ((turnsR (nrm (zipR lo hi))).map c3)) :=
 by
 refine con_lens 0 (c3) (lo) (by kernel_rfl) Go.Proofs.Tryz.func171 (by kernel_rfl) fun hl_0 => ?_
 refine con_lens 1 (c3) (hi) (by kernel_rfl) Go.Proofs.Tryz.func171 (by kernel_rfl) fun hl_1 => ?_
 refine st_con tab_ok (by kernel_rfl) [.tmp 4] 98 Go.Proofs.Tryz.func171 (by kernel_rfl) (by kernel_rfl) ?_
 intro e0 cx
 refine sq ?_
 refine rg (A := True) cx [] [0, 1] [] trivial ?_
 refine sn (sq ?_)
 refine rg (A := True) cx [] [0, 1, 5, 6] [] trivial ?_
 refine sn (sq ?_)
 refine sq ?_
 refine rg (A := True) cx [] [0, 1, 5, 6, 7] [] trivial ?_
 refine sn ?_
 refine st_block 0 (by kernel_rfl) ?_
 refine awp_adopt 5 1005 3 1 (σ' := ⟨[(0, .sl (List.map c3 lo)), (1, .sl (List.map c3 hi)), (5, .own 1005 0), (6, .nl), (7, .i .i64 ((0:Int)))], [(1005, ⟨0, 3, .row 1 (List.map c3 [])⟩)]⟩) (by kernel_rfl) ?_
 refine awp_adopt 6 1006 3 1 (σ' := ⟨[(0, .sl (List.map c3 lo)), (1, .sl (List.map c3 hi)), (5, .own 1005 0), (6, .own 1006 0), (7, .i .i64 ((0:Int)))], [(1005, ⟨0, 3, .row 1 (List.map c3 [])⟩), (1006, ⟨0, 3, .row 1 (List.map c3 [])⟩)]⟩) (by kernel_rfl) ?_
 refine st_loop (X := Int × List Int × List Int) (fun x => ⟨[(0, .sl (List.map c3 lo)), (1, .sl (List.map c3 hi)), (5, .own 1005 0), (6, .own 1006 0), (7, .i .i64 (x.fst))], [(1005, ⟨0, 3, .row 1 (List.map c3 x.snd.fst)⟩), (1006, ⟨0, 3, .row 1 (List.map c3 x.snd.snd)⟩)]⟩) (fun x ↦ decTa lo x.fst x.snd.fst x.snd.snd) (fun x ↦ invTa lo hi x.fst x.snd.fst x.snd.snd) [0, 1, 5, 6, 7] [1005, 1006] (((0:Int), [], [])) (by kernel_rfl) (by kernel_rfl) (show invTa lo hi (0:Int) [] [] from ?g0) ?_; rotate_left 1
 rintro ⟨i_0, a_1, b_2⟩ h_3
 obtain ⟨h_4, h_5, h_6, h_7, h_8, h_9⟩ : (0:Int) ≤ i_0 ∧ i_0 ≤ (↑lo.length:Int) ∧ (↑a_1.length:Int) ≤ i_0 ∧ (↑b_2.length:Int) = (↑a_1.length:Int) ∧ isIns lo hi i_0 a_1 ∧ isOuts lo hi i_0 b_2 := h_3
 refine sq ?_
 refine sq ?_
 refine rg (A := _ ∧ (AV.b (decide (i_0 < (↑lo.length:Int))) = AV.b (decide (i_0 < (↑lo.length:Int))))) cx [(2, { tell := some (.i .i64 ((↑lo.length:Int))) }), (3, { tell := some (.b (decide (i_0 < (↑lo.length:Int)))) })] [0, 1, 5, 6, 7, 17] [1005, 1006] ⟨(told_len c3 lo), (by kernel_rfl)⟩ ?_
 refine sn ?_
 refine st_dec (i_0 < (↑lo.length:Int)) (by kernel_rfl) (by kernel_rfl) (fun h_10 => ?_) (fun h_10 => ?_)
 refine st_skip (by kernel_rfl) ?_
 refine sn (sq ?_)
 refine st_block 1 (by kernel_rfl) ?_
 refine sq ?_
 refine ra (A := ((0:Int) ≤ i_0) ∧ ((List.map c3 lo)[i_0.toNat]? = some (c3 lo[i_0.toNat]!)) ∧ ((c3 lo[i_0.toNat]!).length = (1:Nat)) ∧ (AV.i .i64 (if (1:Int) > lo[i_0.toNat]! then (1:Int) else lo[i_0.toNat]!) = AV.i .i64 (max lo[i_0.toNat]! (1:Int))) ∧ ((0:Int) ≤ i_0) ∧ ((List.map c3 hi)[i_0.toNat]? = some (c3 hi[i_0.toNat]!)) ∧ ((c3 hi[i_0.toNat]!).length = (1:Nat)) ∧ (AV.i .i64 (if (1000000000:Int) < hi[i_0.toNat]! then (1000000000:Int) else hi[i_0.toNat]!) = AV.i .i64 (min hi[i_0.toNat]! (1000000000:Int)))) cx [(2, { row := (c3 lo[i_0.toNat]!) }), (4, { tell := some (.i .i64 (max lo[i_0.toNat]! (1:Int))) }), (7, { row := (c3 hi[i_0.toNat]!) }), (9, { tell := some (.i .i64 (min hi[i_0.toNat]! (1000000000:Int))) })] [0, 1, 5, 6, 7, 8, 9] [1005, 1006] ⟨(by (with_reducible assumption)), (by (with_reducible refine get_map ?_; omega)), (by kernel_rfl), (told_max), (by (with_reducible assumption)), (by (with_reducible refine get_map ?_; omega)), (by kernel_rfl), (told_min)⟩ ?_
 refine sn (sq ?_)
 refine rg (A := (AV.b (decide (max lo[i_0.toNat]! (1:Int) ≤ min hi[i_0.toNat]! (1000000000:Int))) = AV.b (decide (max lo[i_0.toNat]! (1:Int) ≤ min hi[i_0.toNat]! (1000000000:Int))))) cx [(2, { tell := some (.b (decide (max lo[i_0.toNat]! (1:Int) ≤ min hi[i_0.toNat]! (1000000000:Int)))) })] [0, 1, 5, 6, 7, 8, 9, 32] [1005, 1006] (by kernel_rfl) ?_
 refine sn ?_
 refine st_dec (max lo[i_0.toNat]! (1:Int) ≤ min hi[i_0.toNat]! (1000000000:Int)) (by kernel_rfl) (by kernel_rfl) (fun h_11 => ?_) (fun h_11 => ?_)
 refine sq ?_
 refine rg (A := (3 = (3:Nat)) ∧ ((1:Nat) = 1) ∧ ([AV.i .i64 (0:Int)].length = (1:Nat)) ∧ (∀ (r : List AV), r ∈ List.map c3 [max lo[i_0.toNat]! (1:Int)] → r.length = 1) ∧ ((List.map c3 a_1).length + (List.map c3 [max lo[i_0.toNat]! (1:Int)]).length ≤ maxLen) ∧ (((List.map c3 a_1).length + (List.map c3 [max lo[i_0.toNat]! (1:Int)]).length) * (8:Nat) ≤ (140737488355328:Nat)) ∧ (List.map c3 a_1 ++ List.map c3 [max lo[i_0.toNat]! (1:Int)] = List.map c3 (a_1 ++ [max lo[i_0.toNat]! (1:Int)]))) cx [(3, { rows := some (List.map c3 (a_1 ++ [max lo[i_0.toNat]! (1:Int)])) })] [0, 1, 5, 6, 7, 9] [1005, 1006] ⟨(by kernel_rfl), (by kernel_rfl), (by kernel_rfl), (by (with_reducible refine len_map (fun _ => ?_) _; kernel_rfl)), (by (simp only [Go.maxLen, List.length_map, List.length_append, List.length_cons, List.length_nil]; omega)), (by (simp only [Go.maxLen, List.length_map, List.length_append, List.length_cons, List.length_nil]; omega)), (by (with_reducible refine app_map ?_; kernel_rfl))⟩ ?_
 refine sn ?_
 refine rg (A := (AV.i .i64 (IntKind.i64.wrap (min hi[i_0.toNat]! (1000000000:Int) + (1:Int))) = AV.i .i64 (min hi[i_0.toNat]! (1000000000:Int) + (1:Int))) ∧ (3 = (3:Nat)) ∧ ((1:Nat) = 1) ∧ ([AV.i .i64 (0:Int)].length = (1:Nat)) ∧ (∀ (r : List AV), r ∈ List.map c3 [min hi[i_0.toNat]! (1000000000:Int) + (1:Int)] → r.length = 1) ∧ ((List.map c3 b_2).length + (List.map c3 [min hi[i_0.toNat]! (1000000000:Int) + (1:Int)]).length ≤ maxLen) ∧ (((List.map c3 b_2).length + (List.map c3 [min hi[i_0.toNat]! (1000000000:Int) + (1:Int)]).length) * (8:Nat) ≤ (140737488355328:Nat)) ∧ (List.map c3 b_2 ++ List.map c3 [min hi[i_0.toNat]! (1000000000:Int) + (1:Int)] = List.map c3 (b_2 ++ [min hi[i_0.toNat]! (1000000000:Int) + (1:Int)]))) cx [(2, { tell := some (.i .i64 (min hi[i_0.toNat]! (1000000000:Int) + (1:Int))) }), (4, { rows := some (List.map c3 (b_2 ++ [min hi[i_0.toNat]! (1000000000:Int) + (1:Int)])) })] [0, 1, 5, 6, 7] [1005, 1006] ⟨(told_i64 (by omega) (by omega)), (by kernel_rfl), (by kernel_rfl), (by kernel_rfl), (by (with_reducible refine len_map (fun _ => ?_) _; kernel_rfl)), (by (simp only [Go.maxLen, List.length_map, List.length_append, List.length_cons, List.length_nil]; omega)), (by (simp only [Go.maxLen, List.length_map, List.length_append, List.length_cons, List.length_nil]; omega)), (by (with_reducible refine app_map ?_; kernel_rfl))⟩ ?_
 refine q_blk_normal ?_
 refine sn ?_
 refine rg (A := (AV.i .i64 (IntKind.i64.wrap (i_0 + (1:Int))) = AV.i .i64 (i_0 + (1:Int)))) cx [(1, { tell := some (.i .i64 (i_0 + (1:Int))) })] [0, 1, 5, 6, 7] [1005, 1006] (told_i64 (by omega) (by omega)) ?_
 refine sn ?_
 refine loop_next ((i_0 + (1:Int), a_1 ++ [max lo[i_0.toNat]! (1:Int)], b_2 ++ [min hi[i_0.toNat]! (1000000000:Int) + (1:Int)])) (by kernel_rfl) (show ((↑lo.length:Int) - (i_0 + (1:Int))).toNat < ((↑lo.length:Int) - i_0).toNat from (by omega)) (show invTa lo hi (i_0 + (1:Int)) (a_1 ++ [max lo[i_0.toNat]! (1:Int)]) (b_2 ++ [min hi[i_0.toNat]! (1000000000:Int) + (1:Int)]) from ?g1); rotate_left 1
 refine st_skip (by kernel_rfl) ?_
 refine q_blk_normal ?_
 refine sn ?_
 refine rg (A := (AV.i .i64 (IntKind.i64.wrap (i_0 + (1:Int))) = AV.i .i64 (i_0 + (1:Int)))) cx [(1, { tell := some (.i .i64 (i_0 + (1:Int))) })] [0, 1, 5, 6, 7] [1005, 1006] (told_i64 (by omega) (by omega)) ?_
 refine sn ?_
 refine loop_next ((i_0 + (1:Int), a_1, b_2)) (by kernel_rfl) (show ((↑lo.length:Int) - (i_0 + (1:Int))).toNat < ((↑lo.length:Int) - i_0).toNat from (by omega)) (show invTa lo hi (i_0 + (1:Int)) a_1 b_2 from ?g2); rotate_left 1
 refine st_exit 0 (by kernel_rfl) ?_
 refine q_seq_exit ?_
 refine q_seq_exit ?_
 refine q_blk_hit ?_
 refine sn (sq ?_)
 refine rg (A := _) cx [(1, { val := some (.sl (List.map c3 (a_1.mergeSort leI))) })] [5, 6] [1006] (con200 (a_1) (by omega)) ?_
 refine sn (sq ?_)
 refine rg (A := _) cx [(1, { val := some (.sl (List.map c3 (b_2.mergeSort leI))) })] [5, 6] [] (con200 (b_2) (by omega)) ?_
 refine sn (sq ?_)
 refine rg (A := True) cx [] [5, 6, 10] [] trivial ?_
 refine sn (sq ?_)
 refine rg (A := True) cx [] [5, 6, 10, 11, 12] [] trivial ?_
 refine sn (sq ?_)
 refine sq ?_
 refine rg (A := True) cx [] [5, 6, 10, 11, 12, 13] [] trivial ?_
 refine sn ?_
 refine st_block 2 (by kernel_rfl) ?_
 refine awp_adopt 10 1010 3 1 (σ' := ⟨[(5, .sl (List.map c3 (a_1.mergeSort leI))), (6, .sl (List.map c3 (b_2.mergeSort leI))), (10, .own 1010 0), (11, .i .i64 ((0:Int))), (12, .i .i64 ((0:Int))), (13, .i .i64 ((0:Int)))], [(1010, ⟨0, 3, .row 1 (List.map c3 [])⟩)]⟩) (by kernel_rfl) ?_
 refine st_loop (X := Int × Int × Int × List Int) (fun x => ⟨[(5, .sl (List.map c3 (a_1.mergeSort leI))), (6, .sl (List.map c3 (b_2.mergeSort leI))), (10, .own 1010 0), (11, .i .i64 (x.fst)), (12, .i .i64 (x.snd.fst)), (13, .i .i64 (x.snd.snd.fst))], [(1010, ⟨0, 3, .row 1 (List.map c3 x.snd.snd.snd)⟩)]⟩) (fun x ↦ decTb (a_1.mergeSort leI) (b_2.mergeSort leI) x.fst x.snd.fst x.snd.snd.fst x.snd.snd.snd) (fun x ↦ invTb (a_1.mergeSort leI) (b_2.mergeSort leI) x.fst x.snd.fst x.snd.snd.fst x.snd.snd.snd) [5, 6, 10, 11, 12, 13] [1010] (((0:Int), (0:Int), (0:Int), [])) (by kernel_rfl) (by kernel_rfl) (show invTb (a_1.mergeSort leI) (b_2.mergeSort leI) (0:Int) (0:Int) (0:Int) [] from ?g3) ?_; rotate_left 1
 rintro ⟨d_12, j_13, i_14, t_15⟩ h_16
 obtain ⟨h_17, h_18, h_19, h_20, h_21, h_22, h_23⟩ : (0:Int) ≤ i_14 ∧ i_14 ≤ (↑(a_1.mergeSort leI).length:Int) ∧ (0:Int) ≤ j_13 ∧ j_13 ≤ (↑(b_2.mergeSort leI).length:Int) ∧ d_12 = i_14 - j_13 ∧ (↑t_15.length:Int) ≤ i_14 + j_13 ∧ isSw (a_1.mergeSort leI) (b_2.mergeSort leI) i_14 j_13 t_15 := h_16
 refine sq ?_
 refine sq ?_
 refine st_join (σ' := ⟨[(5, .sl (List.map c3 (a_1.mergeSort leI))), (6, .sl (List.map c3 (b_2.mergeSort leI))), (10, .own 1010 0), (11, .i .i64 (d_12)), (12, .i .i64 (j_13)), (13, .i .i64 (i_14)), (55, .b (decide (i_14 < (↑(a_1.mergeSort leI).length:Int) ∨ j_13 < (↑(b_2.mergeSort leI).length:Int))))], [(1010, ⟨0, 3, .row 1 (List.map c3 t_15)⟩)]⟩) ?_ ?_
 refine st_split (i_14 < (↑(a_1.mergeSort leI).length:Int)) (fun h_25 => ?_) (fun h_25 => ?_)
 refine rg (A := _ ∧ _ ∧ (AV.b true = AV.b (decide (i_14 < (↑(a_1.mergeSort leI).length:Int) ∨ j_13 < (↑(b_2.mergeSort leI).length:Int))))) cx [(2, { tell := some (.i .i64 ((↑(a_1.mergeSort leI).length:Int))) }), (3, { tell := some (.b (true)) }), (9, { tell := some (.b (decide (i_14 < (↑(a_1.mergeSort leI).length:Int) ∨ j_13 < (↑(b_2.mergeSort leI).length:Int)))) })] [5, 6, 10, 11, 12, 13, 55] [1010] ⟨(told_len c3 (a_1.mergeSort leI)), (told_true h_25), (by simp only [eq_true h_25, told_simp1, told_simp2, and_true, true_and, and_false, false_and, or_true, true_or, or_false, false_or, not_true_eq_false, not_false_eq_true, decide_true, decide_false, Bool.decide_eq_true])⟩ ?_
 exact ⟨rfl, by kernel_rfl⟩
 refine rg (A := _ ∧ _ ∧ _ ∧ (AV.b (decide (j_13 < (↑(b_2.mergeSort leI).length:Int))) = AV.b (decide (j_13 < (↑(b_2.mergeSort leI).length:Int)))) ∧ (AV.b (decide (j_13 < (↑(b_2.mergeSort leI).length:Int))) = AV.b (decide (i_14 < (↑(a_1.mergeSort leI).length:Int) ∨ j_13 < (↑(b_2.mergeSort leI).length:Int))))) cx [(2, { tell := some (.i .i64 ((↑(a_1.mergeSort leI).length:Int))) }), (3, { tell := some (.b (false)) }), (7, { tell := some (.i .i64 ((↑(b_2.mergeSort leI).length:Int))) }), (8, { tell := some (.b (decide (j_13 < (↑(b_2.mergeSort leI).length:Int)))) }), (9, { tell := some (.b (decide (i_14 < (↑(a_1.mergeSort leI).length:Int) ∨ j_13 < (↑(b_2.mergeSort leI).length:Int)))) })] [5, 6, 10, 11, 12, 13, 55] [1010] ⟨(told_len c3 (a_1.mergeSort leI)), (told_false h_25), (told_len c3 (b_2.mergeSort leI)), (by kernel_rfl), (by simp only [eq_false h_25, told_simp1, told_simp2, and_true, true_and, and_false, false_and, or_true, true_or, or_false, false_or, not_true_eq_false, not_false_eq_true, decide_true, decide_false, Bool.decide_eq_true])⟩ ?_
 exact ⟨rfl, by kernel_rfl⟩
 refine sn ?_
 refine st_dec (i_14 < (↑(a_1.mergeSort leI).length:Int) ∨ j_13 < (↑(b_2.mergeSort leI).length:Int)) (by kernel_rfl) (by kernel_rfl) (fun h_26 => ?_) (fun h_26 => ?_)
 refine st_skip (by kernel_rfl) ?_
 refine sn ?_
 refine st_block 3 (by kernel_rfl) ?_
 refine sq ?_
 refine st_join (σ' := ⟨[(5, .sl (List.map c3 (a_1.mergeSort leI))), (6, .sl (List.map c3 (b_2.mergeSort leI))), (10, .own 1010 0), (11, .i .i64 (d_12)), (12, .i .i64 (j_13)), (13, .i .i64 (i_14)), (70, .b (decide (i_14 < (↑(a_1.mergeSort leI).length:Int) ∧ (a_1.mergeSort leI)[i_14.toNat]! ≤ (b_2.mergeSort leI)[j_13.toNat]!)))], [(1010, ⟨0, 3, .row 1 (List.map c3 t_15)⟩)]⟩) ?_ ?_
 refine st_split (i_14 < (↑(a_1.mergeSort leI).length:Int)) (fun h_28 => ?_) (fun h_28 => ?_)
 refine ra (A := _ ∧ _ ∧ ((0:Int) ≤ i_14) ∧ ((List.map c3 (a_1.mergeSort leI))[i_14.toNat]? = some (c3 (a_1.mergeSort leI)[i_14.toNat]!)) ∧ ((c3 (a_1.mergeSort leI)[i_14.toNat]!).length = (1:Nat)) ∧ ((0:Int) ≤ j_13) ∧ ((List.map c3 (b_2.mergeSort leI))[j_13.toNat]? = some (c3 (b_2.mergeSort leI)[j_13.toNat]!)) ∧ ((c3 (b_2.mergeSort leI)[j_13.toNat]!).length = (1:Nat)) ∧ (AV.b (decide ((a_1.mergeSort leI)[i_14.toNat]! ≤ (b_2.mergeSort leI)[j_13.toNat]!)) = AV.b (decide ((a_1.mergeSort leI)[i_14.toNat]! ≤ (b_2.mergeSort leI)[j_13.toNat]!))) ∧ (AV.b (decide ((a_1.mergeSort leI)[i_14.toNat]! ≤ (b_2.mergeSort leI)[j_13.toNat]!)) = AV.b (decide (i_14 < (↑(a_1.mergeSort leI).length:Int) ∧ (a_1.mergeSort leI)[i_14.toNat]! ≤ (b_2.mergeSort leI)[j_13.toNat]!)))) cx [(2, { tell := some (.i .i64 ((↑(a_1.mergeSort leI).length:Int))) }), (3, { tell := some (.b (true)) }), (7, { row := (c3 (a_1.mergeSort leI)[i_14.toNat]!) }), (11, { row := (c3 (b_2.mergeSort leI)[j_13.toNat]!) }), (13, { tell := some (.b (decide ((a_1.mergeSort leI)[i_14.toNat]! ≤ (b_2.mergeSort leI)[j_13.toNat]!))) }), (14, { tell := some (.b (decide (i_14 < (↑(a_1.mergeSort leI).length:Int) ∧ (a_1.mergeSort leI)[i_14.toNat]! ≤ (b_2.mergeSort leI)[j_13.toNat]!))) })] [5, 6, 10, 11, 12, 13, 70] [1010] ⟨(told_len c3 (a_1.mergeSort leI)), (told_true h_28), (by (with_reducible assumption)), (by (with_reducible refine get_map ?_; omega)), (by kernel_rfl), (by (with_reducible assumption)), ?g4, (by kernel_rfl), (by kernel_rfl), (by simp only [eq_true h_28, told_simp1, told_simp2, and_true, true_and, and_false, false_and, or_true, true_or, or_false, false_or, not_true_eq_false, not_false_eq_true, decide_true, decide_false, Bool.decide_eq_true])⟩ ?_; rotate_left 1
 exact ⟨rfl, by kernel_rfl⟩
 refine ra (A := _ ∧ _ ∧ (AV.b false = AV.b (decide (i_14 < (↑(a_1.mergeSort leI).length:Int) ∧ (a_1.mergeSort leI)[i_14.toNat]! ≤ (b_2.mergeSort leI)[j_13.toNat]!)))) cx [(2, { tell := some (.i .i64 ((↑(a_1.mergeSort leI).length:Int))) }), (3, { tell := some (.b (false)) }), (14, { tell := some (.b (decide (i_14 < (↑(a_1.mergeSort leI).length:Int) ∧ (a_1.mergeSort leI)[i_14.toNat]! ≤ (b_2.mergeSort leI)[j_13.toNat]!))) })] [5, 6, 10, 11, 12, 13, 70] [1010] ⟨(told_len c3 (a_1.mergeSort leI)), (told_false h_28), (by simp only [eq_false h_28, told_simp1, told_simp2, and_true, true_and, and_false, false_and, or_true, true_or, or_false, false_or, not_true_eq_false, not_false_eq_true, decide_true, decide_false, Bool.decide_eq_true])⟩ ?_
 exact ⟨rfl, by kernel_rfl⟩
 refine sn ?_
 refine st_dec (i_14 < (↑(a_1.mergeSort leI).length:Int) ∧ (a_1.mergeSort leI)[i_14.toNat]! ≤ (b_2.mergeSort leI)[j_13.toNat]!) (by kernel_rfl) (by kernel_rfl) (fun h_29 => ?_) (fun h_29 => ?_)
 refine sq ?_
 refine sq ?_
 refine rg (A := (AV.b (d_12 == (0:Int)) = AV.b (decide (d_12 = (0:Int))))) cx [(1, { tell := some (.b (decide (d_12 = (0:Int)))) })] [5, 6, 10, 11, 12, 13, 72] [1010] (by kernel_rfl) ?_
 refine sn ?_
 refine st_dec (d_12 = (0:Int)) (by kernel_rfl) (by kernel_rfl) (fun h_30 => ?_) (fun h_30 => ?_)
 refine rg (A := ((0:Int) ≤ i_14) ∧ ((List.map c3 (a_1.mergeSort leI))[i_14.toNat]? = some (c3 (a_1.mergeSort leI)[i_14.toNat]!)) ∧ ((c3 (a_1.mergeSort leI)[i_14.toNat]!).length = (1:Nat)) ∧ (3 = (3:Nat)) ∧ ((1:Nat) = 1) ∧ ([AV.i .i64 (0:Int)].length = (1:Nat)) ∧ (∀ (r : List AV), r ∈ List.map c3 [(a_1.mergeSort leI)[i_14.toNat]!] → r.length = 1) ∧ ((List.map c3 t_15).length + (List.map c3 [(a_1.mergeSort leI)[i_14.toNat]!]).length ≤ maxLen) ∧ (((List.map c3 t_15).length + (List.map c3 [(a_1.mergeSort leI)[i_14.toNat]!]).length) * (8:Nat) ≤ (140737488355328:Nat)) ∧ (List.map c3 t_15 ++ List.map c3 [(a_1.mergeSort leI)[i_14.toNat]!] = List.map c3 (t_15 ++ [(a_1.mergeSort leI)[i_14.toNat]!]))) cx [(3, { row := (c3 (a_1.mergeSort leI)[i_14.toNat]!) }), (6, { rows := some (List.map c3 (t_15 ++ [(a_1.mergeSort leI)[i_14.toNat]!])) })] [5, 6, 10, 11, 12, 13] [1010] ⟨(by (with_reducible assumption)), (by (with_reducible refine get_map ?_; omega)), (by kernel_rfl), (by kernel_rfl), (by kernel_rfl), (by kernel_rfl), (by (with_reducible refine len_map (fun _ => ?_) _; kernel_rfl)), ?g5, ?g6, (by (with_reducible refine app_map ?_; kernel_rfl))⟩ ?_; rotate_left 2
 refine sn (sq ?_)
 refine rg (A := (AV.i .i64 (IntKind.i64.wrap (d_12 + (1:Int))) = AV.i .i64 (d_12 + (1:Int)))) cx [(1, { tell := some (.i .i64 (d_12 + (1:Int))) })] [5, 6, 10, 11, 12, 13] [1010] (told_i64 (by omega) (by omega)) ?_
 refine sn ?_
 refine rg (A := (AV.i .i64 (IntKind.i64.wrap (i_14 + (1:Int))) = AV.i .i64 (i_14 + (1:Int)))) cx [(1, { tell := some (.i .i64 (i_14 + (1:Int))) })] [5, 6, 10, 11, 12, 13] [1010] (told_i64 (by omega) ?g7) ?_; rotate_left 1
 refine q_blk_normal ?_
 refine sn ?_
 refine loop_next ((d_12 + (1:Int), j_13, i_14 + (1:Int), t_15 ++ [(a_1.mergeSort leI)[i_14.toNat]!])) (by kernel_rfl) (show ((↑(a_1.mergeSort leI).length:Int) + (↑(b_2.mergeSort leI).length:Int) - (i_14 + (1:Int)) - j_13).toNat < ((↑(a_1.mergeSort leI).length:Int) + (↑(b_2.mergeSort leI).length:Int) - i_14 - j_13).toNat from (by omega)) (show invTb (a_1.mergeSort leI) (b_2.mergeSort leI) (d_12 + (1:Int)) j_13 (i_14 + (1:Int)) (t_15 ++ [(a_1.mergeSort leI)[i_14.toNat]!]) from ?g8); rotate_left 1
 refine st_skip (by kernel_rfl) ?_
 refine sn (sq ?_)
 refine rg (A := (AV.i .i64 (IntKind.i64.wrap (d_12 + (1:Int))) = AV.i .i64 (d_12 + (1:Int)))) cx [(1, { tell := some (.i .i64 (d_12 + (1:Int))) })] [5, 6, 10, 11, 12, 13] [1010] (told_i64 ?g9 ?g10) ?_; rotate_left 2
 refine sn ?_
 refine rg (A := (AV.i .i64 (IntKind.i64.wrap (i_14 + (1:Int))) = AV.i .i64 (i_14 + (1:Int)))) cx [(1, { tell := some (.i .i64 (i_14 + (1:Int))) })] [5, 6, 10, 11, 12, 13] [1010] (told_i64 (by omega) ?g11) ?_; rotate_left 1
 refine q_blk_normal ?_
 refine sn ?_
 refine loop_next ((d_12 + (1:Int), j_13, i_14 + (1:Int), t_15)) (by kernel_rfl) (show ((↑(a_1.mergeSort leI).length:Int) + (↑(b_2.mergeSort leI).length:Int) - (i_14 + (1:Int)) - j_13).toNat < ((↑(a_1.mergeSort leI).length:Int) + (↑(b_2.mergeSort leI).length:Int) - i_14 - j_13).toNat from (by omega)) (show invTb (a_1.mergeSort leI) (b_2.mergeSort leI) (d_12 + (1:Int)) j_13 (i_14 + (1:Int)) t_15 from ?g12); rotate_left 1
 refine sq ?_
 refine rg (A := (AV.i .i64 (IntKind.i64.wrap (d_12 - (1:Int))) = AV.i .i64 (d_12 - (1:Int)))) cx [(1, { tell := some (.i .i64 (d_12 - (1:Int))) })] [5, 6, 10, 11, 12, 13] [1010] (told_i64 ?g13 ?g14) ?_; rotate_left 2
 refine sn (sq ?_)
 refine sq ?_
 refine rg (A := (AV.b (d_12 - (1:Int) == (0:Int)) = AV.b (decide (d_12 - (1:Int) = (0:Int))))) cx [(1, { tell := some (.b (decide (d_12 - (1:Int) = (0:Int)))) })] [5, 6, 10, 11, 12, 13, 87] [1010] (by kernel_rfl) ?_
 refine sn ?_
 refine st_dec (d_12 - (1:Int) = (0:Int)) (by kernel_rfl) (by kernel_rfl) (fun h_31 => ?_) (fun h_31 => ?_)
 refine rg (A := ((0:Int) ≤ j_13) ∧ ((List.map c3 (b_2.mergeSort leI))[j_13.toNat]? = some (c3 (b_2.mergeSort leI)[j_13.toNat]!)) ∧ ((c3 (b_2.mergeSort leI)[j_13.toNat]!).length = (1:Nat)) ∧ (3 = (3:Nat)) ∧ ((1:Nat) = 1) ∧ ([AV.i .i64 (0:Int)].length = (1:Nat)) ∧ (∀ (r : List AV), r ∈ List.map c3 [(b_2.mergeSort leI)[j_13.toNat]!] → r.length = 1) ∧ ((List.map c3 t_15).length + (List.map c3 [(b_2.mergeSort leI)[j_13.toNat]!]).length ≤ maxLen) ∧ (((List.map c3 t_15).length + (List.map c3 [(b_2.mergeSort leI)[j_13.toNat]!]).length) * (8:Nat) ≤ (140737488355328:Nat)) ∧ (List.map c3 t_15 ++ List.map c3 [(b_2.mergeSort leI)[j_13.toNat]!] = List.map c3 (t_15 ++ [(b_2.mergeSort leI)[j_13.toNat]!]))) cx [(3, { row := (c3 (b_2.mergeSort leI)[j_13.toNat]!) }), (6, { rows := some (List.map c3 (t_15 ++ [(b_2.mergeSort leI)[j_13.toNat]!])) })] [5, 6, 10, 11, 12, 13] [1010] ⟨(by (with_reducible assumption)), ?g15, (by kernel_rfl), (by kernel_rfl), (by kernel_rfl), (by kernel_rfl), (by (with_reducible refine len_map (fun _ => ?_) _; kernel_rfl)), ?g16, ?g17, (by (with_reducible refine app_map ?_; kernel_rfl))⟩ ?_; rotate_left 3
 refine sn ?_
 refine rg (A := (AV.i .i64 (IntKind.i64.wrap (j_13 + (1:Int))) = AV.i .i64 (j_13 + (1:Int)))) cx [(1, { tell := some (.i .i64 (j_13 + (1:Int))) })] [5, 6, 10, 11, 12, 13] [1010] (told_i64 (by omega) ?g18) ?_; rotate_left 1
 refine q_blk_normal ?_
 refine sn ?_
 refine loop_next ((d_12 - (1:Int), j_13 + (1:Int), i_14, t_15 ++ [(b_2.mergeSort leI)[j_13.toNat]!])) (by kernel_rfl) (show ((↑(a_1.mergeSort leI).length:Int) + (↑(b_2.mergeSort leI).length:Int) - i_14 - (j_13 + (1:Int))).toNat < ((↑(a_1.mergeSort leI).length:Int) + (↑(b_2.mergeSort leI).length:Int) - i_14 - j_13).toNat from (by omega)) (show invTb (a_1.mergeSort leI) (b_2.mergeSort leI) (d_12 - (1:Int)) (j_13 + (1:Int)) i_14 (t_15 ++ [(b_2.mergeSort leI)[j_13.toNat]!]) from ?g19); rotate_left 1
 refine st_skip (by kernel_rfl) ?_
 refine sn ?_
 refine rg (A := (AV.i .i64 (IntKind.i64.wrap (j_13 + (1:Int))) = AV.i .i64 (j_13 + (1:Int)))) cx [(1, { tell := some (.i .i64 (j_13 + (1:Int))) })] [5, 6, 10, 11, 12, 13] [1010] (told_i64 (by omega) ?g20) ?_; rotate_left 1
 refine q_blk_normal ?_
 refine sn ?_
 refine loop_next ((d_12 - (1:Int), j_13 + (1:Int), i_14, t_15)) (by kernel_rfl) (show ((↑(a_1.mergeSort leI).length:Int) + (↑(b_2.mergeSort leI).length:Int) - i_14 - (j_13 + (1:Int))).toNat < ((↑(a_1.mergeSort leI).length:Int) + (↑(b_2.mergeSort leI).length:Int) - i_14 - j_13).toNat from (by omega)) (show invTb (a_1.mergeSort leI) (b_2.mergeSort leI) (d_12 - (1:Int)) (j_13 + (1:Int)) i_14 t_15 from ?g21); rotate_left 1
 refine st_exit 2 (by kernel_rfl) ?_
 refine q_seq_exit ?_
 refine q_seq_exit ?_
 refine q_blk_hit ?_
 refine sn (sq ?_)
 refine rg (A := True) cx [] [4] [1010] trivial ?_
 refine sn ?_
 refine st_ret (by kernel_rfl) ?_
 refine q_ret (r := .sl (List.map c3 t_15)) (obl := []) (by kernel_rfl) trivial (AVle.eq (show AV.sl (List.map c3 t_15) = AV.sl (List.map c3 (turnsR (nrm (zipR lo hi)))) from ?g22)); rotate_left 1
 rotate_left
 revert i_0 a_1 b_2 h_4 h_5 h_6 h_7 h_8 h_9 h_10 h_11; rotate_left
 revert i_0 a_1 b_2 h_4 h_5 h_6 h_7 h_8 h_9 h_10 h_11; rotate_left
 revert i_0 a_1 b_2 h_4 h_5 h_6 h_7 h_8 h_9 h_10; rotate_left
 revert i_0 a_1 b_2 h_4 h_5 h_6 h_7 h_8 h_9 h_10 d_12 j_13 i_14 t_15 h_17 h_18 h_19 h_20 h_21 h_22 h_23 h_26 h_28; rotate_left
 revert i_0 a_1 b_2 h_4 h_5 h_6 h_7 h_8 h_9 h_10 d_12 j_13 i_14 t_15 h_17 h_18 h_19 h_20 h_21 h_22 h_23 h_26 h_29 h_30; rotate_left
 revert i_0 a_1 b_2 h_4 h_5 h_6 h_7 h_8 h_9 h_10 d_12 j_13 i_14 t_15 h_17 h_18 h_19 h_20 h_21 h_22 h_23 h_26 h_29 h_30; rotate_left
 revert i_0 a_1 b_2 h_4 h_5 h_6 h_7 h_8 h_9 h_10 d_12 j_13 i_14 t_15 h_17 h_18 h_19 h_20 h_21 h_22 h_23 h_26 h_29 h_30; rotate_left
 revert i_0 a_1 b_2 h_4 h_5 h_6 h_7 h_8 h_9 h_10 d_12 j_13 i_14 t_15 h_17 h_18 h_19 h_20 h_21 h_22 h_23 h_26 h_29 h_30; rotate_left
 revert i_0 a_1 b_2 h_4 h_5 h_6 h_7 h_8 h_9 h_10 d_12 j_13 i_14 t_15 h_17 h_18 h_19 h_20 h_21 h_22 h_23 h_26 h_29 h_30; rotate_left
 revert i_0 a_1 b_2 h_4 h_5 h_6 h_7 h_8 h_9 h_10 d_12 j_13 i_14 t_15 h_17 h_18 h_19 h_20 h_21 h_22 h_23 h_26 h_29 h_30; rotate_left
 revert i_0 a_1 b_2 h_4 h_5 h_6 h_7 h_8 h_9 h_10 d_12 j_13 i_14 t_15 h_17 h_18 h_19 h_20 h_21 h_22 h_23 h_26 h_29 h_30; rotate_left
 revert i_0 a_1 b_2 h_4 h_5 h_6 h_7 h_8 h_9 h_10 d_12 j_13 i_14 t_15 h_17 h_18 h_19 h_20 h_21 h_22 h_23 h_26 h_29 h_30; rotate_left
 revert i_0 a_1 b_2 h_4 h_5 h_6 h_7 h_8 h_9 h_10 d_12 j_13 i_14 t_15 h_17 h_18 h_19 h_20 h_21 h_22 h_23 h_26 h_29; rotate_left
 revert i_0 a_1 b_2 h_4 h_5 h_6 h_7 h_8 h_9 h_10 d_12 j_13 i_14 t_15 h_17 h_18 h_19 h_20 h_21 h_22 h_23 h_26 h_29; rotate_left
 revert i_0 a_1 b_2 h_4 h_5 h_6 h_7 h_8 h_9 h_10 d_12 j_13 i_14 t_15 h_17 h_18 h_19 h_20 h_21 h_22 h_23 h_26 h_29 h_31; rotate_left
 revert i_0 a_1 b_2 h_4 h_5 h_6 h_7 h_8 h_9 h_10 d_12 j_13 i_14 t_15 h_17 h_18 h_19 h_20 h_21 h_22 h_23 h_26 h_29 h_31; rotate_left
 revert i_0 a_1 b_2 h_4 h_5 h_6 h_7 h_8 h_9 h_10 d_12 j_13 i_14 t_15 h_17 h_18 h_19 h_20 h_21 h_22 h_23 h_26 h_29 h_31; rotate_left
 revert i_0 a_1 b_2 h_4 h_5 h_6 h_7 h_8 h_9 h_10 d_12 j_13 i_14 t_15 h_17 h_18 h_19 h_20 h_21 h_22 h_23 h_26 h_29 h_31; rotate_left
 revert i_0 a_1 b_2 h_4 h_5 h_6 h_7 h_8 h_9 h_10 d_12 j_13 i_14 t_15 h_17 h_18 h_19 h_20 h_21 h_22 h_23 h_26 h_29 h_31; rotate_left
 revert i_0 a_1 b_2 h_4 h_5 h_6 h_7 h_8 h_9 h_10 d_12 j_13 i_14 t_15 h_17 h_18 h_19 h_20 h_21 h_22 h_23 h_26 h_29 h_31; rotate_left
 revert i_0 a_1 b_2 h_4 h_5 h_6 h_7 h_8 h_9 h_10 d_12 j_13 i_14 t_15 h_17 h_18 h_19 h_20 h_21 h_22 h_23 h_26 h_29 h_31; rotate_left
 revert i_0 a_1 b_2 h_4 h_5 h_6 h_7 h_8 h_9 h_10 d_12 j_13 i_14 t_15 h_17 h_18 h_19 h_20 h_21 h_22 h_23 h_26; rotate_left
 case g0 => exact ⟨by omega, by omega, by simp, by simp, by simp [isIns, insR, keepR], by simp [isOuts, outsR, keepR]⟩
 case g1 => intro i a b h0 h1 h2 h3 h4 h5 h6 h7; have := isIns_in h h0 h6 h7 h4 h5; exact ⟨by omega, by omega, by simp only [List.length_append, List.length_cons, List.length_nil]; omega, by simp only [List.length_append, List.length_cons, List.length_nil]; omega, this.1, this.2⟩
 case g2 => intro i a b h0 h1 h2 h3 h4 h5 h6 h7; have := isIns_out h h0 h6 h7 h4 h5; exact ⟨by omega, by omega, by omega, by omega, this.1, this.2⟩
 case g3 => intro i a b h0 h1 h2 h3 h4 h5 h6; obtain ⟨e1, e2⟩ := isIns_end h h6 h4 h5; rw [e1, e2]; exact ⟨by omega, by omega, by omega, by omega, by omega, by simp, isSw_start _⟩
 case g4 => intro i a b h0 h1 h2 h3 h4 h5 h6 d j k t k0 k1 k2 k3 k4 k5 k6 k7 k8; have := isSw_len k0 k1 k2 k3 k6; have := k6.2.1; exact get_map (by omega)
 case g8 =>
  intro i a b h0 h1 h2 h3 h4 h5 h6 d j k t k0 k1 k2 k3 k4 k5 k6 k7 k8 k9
  have := isSw_in k0 k8.1 k2 k3 k8.2 k6
  rw [if_pos (by omega)] at this
  exact ⟨by omega, by omega, by omega, by omega, by omega, by simp only [List.length_append, List.length_cons, List.length_nil]; omega, this⟩
 case g12 =>
  intro i a b h0 h1 h2 h3 h4 h5 h6 d j k t k0 k1 k2 k3 k4 k5 k6 k7 k8 k9
  have := isSw_in k0 k8.1 k2 k3 k8.2 k6
  rw [if_neg (by omega)] at this
  exact ⟨by omega, by omega, by omega, by omega, by omega, by omega, this⟩
 case g15 => intro i a b h0 h1 h2 h3 h4 h5 h6 d j k t k0 k1 k2 k3 k4 k5 k6 k7 k8 k9; have := isSw_out k0 k1 k2 k3 k7 k8 k6; exact get_map (by omega)
 case g19 =>
  intro i a b h0 h1 h2 h3 h4 h5 h6 d j k t k0 k1 k2 k3 k4 k5 k6 k7 k8 k9
  obtain ⟨q1, q2, this⟩ := isSw_out k0 k1 k2 k3 k7 k8 k6
  rw [if_pos (by omega)] at this
  exact ⟨by omega, by omega, by omega, by omega, by omega, by simp only [List.length_append, List.length_cons, List.length_nil]; omega, this⟩
 case g21 =>
  intro i a b h0 h1 h2 h3 h4 h5 h6 d j k t k0 k1 k2 k3 k4 k5 k6 k7 k8 k9
  obtain ⟨q1, q2, this⟩ := isSw_out k0 k1 k2 k3 k7 k8 k6
  rw [if_neg (by omega)] at this
  exact ⟨by omega, by omega, by omega, by omega, by omega, by omega, this⟩
 case g22 =>
  intro i a b h0 h1 h2 h3 h4 h5 h6 d j k t k0 k1 k2 k3 k4 k5 k6 k7
  obtain ⟨e1, e2⟩ := isIns_end h h6 h4 h5
  rw [e1, e2] at k6 k7
  rw [isSw_end k7 k6, sweep_nrm]
 all_goals
  intros
  simp only [List.length_mergeSort, List.length_map, List.length_cons, List.length_nil, Go.maxLen] at *
  omega
end Go.Proofs.YtaiepnaokhpmcaaGreat
namespace Go.Proofs.YtaiepnaokhpmcaaGreat
open Go.E
set_option maxRecDepth 100000
set_option maxHeartbeats 4000000
def c122 (s : Nat → List Int) : List AV := tabC c3 16 s
def tnS (U : Nat → List Run) (r:Nat) : List Int := turnsR (U r)
def zT (A B : Nat → List Int) (r:Nat) : List Run := zipR (A r) (B r)
def isLen (A B : Nat → List Int) : Prop := ∀ r : Nat, r < 16 → (A r).length = (B r).length
def invMa (ps : List Past) (i:Int) (A B : Nat → List Int) : Prop := 0 ≤ i ∧ i ≤ ps.length ∧ isLen A B ∧ isOpen ps i (zT A B)
def decMa (ps : List Past) (i:Int) (A B : Nat → List Int) : Nat := (ps.length - i).toNat
def invMb (ps : List Past) (i j:Int) (A B : Nat → List Int) : Prop := 0 ≤ j ∧ j ≤ (ps[i.toNat]!).vec.length ∧ j ≤ 16 ∧ isLen A B ∧ isOpenV ps i j (zT A B)
def decMb (ps : List Past) (i j:Int) (A B : Nat → List Int) : Nat := ((ps[i.toNat]!).vec.length - j).toNat
def invMc (ps : List Past) (i j:Int) (A B : Nat → List Int) : Prop := 0 ≤ j ∧ j ≤ (ps[i.toNat]!).cloud.length ∧ isLen A B ∧ isOpenC ps i j (zT A B)
def decMc (ps : List Past) (i j:Int) (A B : Nat → List Int) : Nat := ((ps[i.toNat]!).cloud.length - j).toNat
def isMean (U : Nat → List Run) (r:Int) (S : Nat → List Int) : Prop := ∀ k : Nat, (k:Int) < r → S k = tnS (nrmT U) k
def invMd (A2 B2 : Nat → List Int) (r:Int) (A B S : Nat → List Int) : Prop := A = A2 ∧ B = B2 ∧ 0 ≤ r ∧ r ≤ 16 ∧ isMean (zT A2 B2) r S
def decMd (r:Int) (A B S : Nat → List Int) : Nat := (16 - r).toNat
theorem zT_upd {A B : Nat → List Int} {k : Nat} {x y : Int} (h : (A k).length = (B k).length) (r:Nat) : zT (updF A k (A k ++ [x])) (updF B k (B k ++ [y])) r = updF (zT A B) k (zT A B k ++ [⟨x, y⟩]) r := by
 unfold zT updF
 by_cases e : r = k
 ·rw [if_pos e, if_pos e, if_pos e]
  unfold zipR
  rw [List.zipWith_append h]
  rfl
 ·rw [if_neg e, if_neg e, if_neg e]
theorem isLen_upd {A B : Nat → List Int} {k : Nat} {x y : Int} (h : isLen A B) : isLen (updF A k (A k ++ [x])) (updF B k (B k ++ [y])) := by
 intro r hr
 have := h r hr
 unfold updF
 by_cases e : r = k
 ·rw [if_pos e, if_pos e, List.length_append, List.length_append]; subst e; simp only [List.length_cons, List.length_nil]; omega
 ·rw [if_neg e, if_neg e]; exact this
theorem zT_len {A B : Nat → List Int} (h : isLen A B) {r : Nat} (hr : r < 16) : (A r).length = (zT A B r).length ∧ (B r).length = (zT A B r).length := by
 have := h r hr
 unfold zT zipR
 rw [List.length_zipWith]
 omega
theorem isMean_next {U : Nat → List Run} {r : Int} {S : Nat → List Int} (h0 : 0 ≤ r) (h : isMean U r S) : isMean U (r + 1) (updF S r.toNat (tnS (nrmT U) r.toNat)) := by
 intro k hk
 unfold updF
 by_cases e : k = r.toNat
 ·rw [if_pos e, e]
 ·rw [if_neg e]; exact h k (by omega)
theorem con129 (ps : List Past) (hb : totP ps * 16 ≤ 140737488351232) : Con Tryz.prog 129 [.sl (ps.map c26)] (.agg (c122 (tnS (nrmT (openT ps))))) :=
  by
  refine con_lens 0 (c26) (ps) (by kernel_rfl) Go.Proofs.Tryz.func129 (by kernel_rfl) fun hl_0 => ?_
  refine st_con tab_ok (by kernel_rfl) [.cell 2 122] 116 Go.Proofs.Tryz.func129 (by kernel_rfl) (by kernel_rfl) ?_
  intro e0 cx
  refine sq ?_
  refine rg (A := True) cx [] [0, 2] [2] trivial ?_
  refine sn (sq ?_)
  refine rg (A := True) cx [] [0, 2, 3, 4] [2, 3, 4] trivial ?_
  refine sn (sq ?_)
  refine sq ?_
  refine rg (A := True) cx [] [0, 2, 3, 4, 5] [2, 3, 4] trivial ?_
  refine sn ?_
  refine st_block 0 (by kernel_rfl) ?_
  refine awp_tabIn 3 3 1 100300 16 (σ' := ⟨[(0, .sl (List.map c26 ps)), (2, .ptr (2) (0) (0) (0)), (3, .ptr (3) (0) (0) (0)), (4, .ptr (4) (0) (0) (0)), (5, .i .i64 ((0:Int)))], [(2, ⟨0, 122, .var [.nl, .nl, .nl, .nl, .nl, .nl, .nl, .nl, .nl, .nl, .nl, .nl, .nl, .nl, .nl, .nl]⟩), (3, ⟨0, 120, .var (ownsC 100300 16)⟩), (4, ⟨0, 120, .arr [.nl, .nl, .nl, .nl, .nl, .nl, .nl, .nl, .nl, .nl, .nl, .nl, .nl, .nl, .nl, .nl]⟩)] ++ tabRows 100300 3 1 16 (c3) (fun x ↦ [])⟩) (by kernel_rfl) ?_
  refine awp_tabIn 4 3 1 100400 16 (σ' := ⟨[(0, .sl (List.map c26 ps)), (2, .ptr (2) (0) (0) (0)), (3, .ptr (3) (0) (0) (0)), (4, .ptr (4) (0) (0) (0)), (5, .i .i64 ((0:Int)))], [(2, ⟨0, 122, .var [.nl, .nl, .nl, .nl, .nl, .nl, .nl, .nl, .nl, .nl, .nl, .nl, .nl, .nl, .nl, .nl]⟩), (3, ⟨0, 120, .var (ownsC 100300 16)⟩), (4, ⟨0, 120, .var (ownsC 100400 16)⟩)] ++ tabRows 100300 3 1 16 (c3) (fun x ↦ []) ++ tabRows 100400 3 1 16 (c3) (fun x ↦ [])⟩) (by kernel_rfl) ?_
  refine st_loop (X := Int × (Nat → List Int) × (Nat → List Int)) (fun x => ⟨[(0, .sl (List.map c26 ps)), (2, .ptr (2) (0) (0) (0)), (3, .ptr (3) (0) (0) (0)), (4, .ptr (4) (0) (0) (0)), (5, .i .i64 (x.fst))], [(2, ⟨0, 122, .var [.nl, .nl, .nl, .nl, .nl, .nl, .nl, .nl, .nl, .nl, .nl, .nl, .nl, .nl, .nl, .nl]⟩), (3, ⟨0, 120, .var (ownsC 100300 16)⟩), (4, ⟨0, 120, .var (ownsC 100400 16)⟩)] ++ tabRows 100300 3 1 16 (c3) (x.snd.fst) ++ tabRows 100400 3 1 16 (c3) (x.snd.snd)⟩) (fun x ↦ decMa ps x.fst x.snd.fst x.snd.snd) (fun x ↦ invMa ps x.fst x.snd.fst x.snd.snd) [0, 2, 3, 4, 5] ([2, 3, 4] ++ List.range' 100300 16 ++ List.range' 100400 16) (((0:Int), fun x ↦ [], fun x ↦ [])) (by kernel_rfl) (by kernel_rfl) (show invMa ps (0:Int) (fun x ↦ []) fun x ↦ [] from ?g0) ?_; rotate_left 1
  rintro ⟨i_0, A_1, B_2⟩ h_3
  obtain ⟨h_4, h_5, h_6, h_7⟩ : (0:Int) ≤ i_0 ∧ i_0 ≤ (↑ps.length:Int) ∧ isLen A_1 B_2 ∧ isOpen ps i_0 (zT A_1 B_2) := h_3
  refine sq ?_
  refine sq ?_
  refine rg (A := _ ∧ (AV.b (decide (i_0 < (↑ps.length:Int))) = AV.b (decide (i_0 < (↑ps.length:Int))))) cx [(2, { tell := some (.i .i64 ((↑ps.length:Int))) }), (3, { tell := some (.b (decide (i_0 < (↑ps.length:Int)))) })] [0, 2, 3, 4, 5, 14] ([2, 3, 4] ++ List.range' 100300 16 ++ List.range' 100400 16) ⟨(told_len c26 ps), (by kernel_rfl)⟩ ?_
  refine sn ?_
  refine st_dec (i_0 < (↑ps.length:Int)) (by kernel_rfl) (by kernel_rfl) (fun h_8 => ?_) (fun h_8 => ?_)
  refine st_skip (by kernel_rfl) ?_
  refine sn (sq ?_)
  refine st_block 1 (by kernel_rfl) ?_
  refine sq ?_
  refine sq ?_
  refine rg (A := True) cx [] [0, 2, 3, 4, 5, 6] ([2, 3, 4] ++ List.range' 100300 16 ++ List.range' 100400 16) trivial ?_
  refine sn ?_
  refine st_block 2 (by kernel_rfl) ?_
  refine st_loop (X := Int × (Nat → List Int) × (Nat → List Int)) (fun x => ⟨[(0, .sl (List.map c26 ps)), (2, .ptr (2) (0) (0) (0)), (3, .ptr (3) (0) (0) (0)), (4, .ptr (4) (0) (0) (0)), (5, .i .i64 (i_0)), (6, .i .i64 (x.fst))], [(2, ⟨0, 122, .var [.nl, .nl, .nl, .nl, .nl, .nl, .nl, .nl, .nl, .nl, .nl, .nl, .nl, .nl, .nl, .nl]⟩), (3, ⟨0, 120, .var (ownsC 100300 16)⟩), (4, ⟨0, 120, .var (ownsC 100400 16)⟩)] ++ tabRows 100300 3 1 16 (c3) (x.snd.fst) ++ tabRows 100400 3 1 16 (c3) (x.snd.snd)⟩) (fun x ↦ decMb ps i_0 x.fst x.snd.fst x.snd.snd) (fun x ↦ invMb ps i_0 x.fst x.snd.fst x.snd.snd) [0, 2, 3, 4, 5, 6] ([2, 3, 4] ++ List.range' 100300 16 ++ List.range' 100400 16) (((0:Int), A_1, B_2)) (by kernel_rfl) (by kernel_rfl) (show invMb ps i_0 (0:Int) A_1 B_2 from ?g1) ?_; rotate_left 1
  rintro ⟨j_9, A_10, B_11⟩ h_12
  obtain ⟨h_13, h_14, h_15, h_16, h_17⟩ : (0:Int) ≤ j_9 ∧ j_9 ≤ (↑ps[i_0.toNat]!.vec.length:Int) ∧ j_9 ≤ (16:Int) ∧ isLen A_10 B_11 ∧ isOpenV ps i_0 j_9 (zT A_10 B_11) := h_12
  refine sq ?_
  refine sq ?_
  refine st_join (σ' := ⟨[(0, .sl (List.map c26 ps)), (2, .ptr (2) (0) (0) (0)), (3, .ptr (3) (0) (0) (0)), (4, .ptr (4) (0) (0) (0)), (5, .i .i64 (i_0)), (6, .i .i64 (j_9)), (28, .b (decide (j_9 < (↑ps[i_0.toNat]!.vec.length:Int) ∧ j_9 < (16:Int))))], [(2, ⟨0, 122, .var [.nl, .nl, .nl, .nl, .nl, .nl, .nl, .nl, .nl, .nl, .nl, .nl, .nl, .nl, .nl, .nl]⟩), (3, ⟨0, 120, .var (ownsC 100300 16)⟩), (4, ⟨0, 120, .var (ownsC 100400 16)⟩)] ++ tabRows 100300 3 1 16 (c3) (A_10) ++ tabRows 100400 3 1 16 (c3) (B_11)⟩) ?_ ?_
  refine st_split (j_9 < (↑ps[i_0.toNat]!.vec.length:Int)) (fun h_19 => ?_) (fun h_19 => ?_)
  refine rg (A := ((0:Int) ≤ i_0) ∧ ((List.map c26 ps)[i_0.toNat]? = some (c26 ps[i_0.toNat]!)) ∧ ((c26 ps[i_0.toNat]!).length = (2:Nat)) ∧ _ ∧ _ ∧ (AV.b (decide (j_9 < (16:Int))) = AV.b (decide (j_9 < (16:Int)))) ∧ (AV.b (decide (j_9 < (16:Int))) = AV.b (decide (j_9 < (↑ps[i_0.toNat]!.vec.length:Int) ∧ j_9 < (16:Int))))) cx [(3, { row := (c26 ps[i_0.toNat]!) }), (6, { tell := some (.i .i64 ((↑ps[i_0.toNat]!.vec.length:Int))) }), (7, { tell := some (.b (true)) }), (10, { tell := some (.b (decide (j_9 < (16:Int)))) }), (11, { tell := some (.b (decide (j_9 < (↑ps[i_0.toNat]!.vec.length:Int) ∧ j_9 < (16:Int)))) })] [0, 2, 3, 4, 5, 6, 28] ([2, 3, 4] ++ List.range' 100300 16 ++ List.range' 100400 16) ⟨(by (with_reducible assumption)), (by (with_reducible refine get_map ?_; omega)), (by kernel_rfl), (told_len c3 ps[i_0.toNat]!.vec), (told_true h_19), (by kernel_rfl), (by simp only [eq_true h_19, told_simp1, told_simp2, and_true, true_and, and_false, false_and, or_true, true_or, or_false, false_or, not_true_eq_false, not_false_eq_true, decide_true, decide_false, Bool.decide_eq_true])⟩ ?_
  exact ⟨rfl, by kernel_rfl⟩
  refine rg (A := ((0:Int) ≤ i_0) ∧ ((List.map c26 ps)[i_0.toNat]? = some (c26 ps[i_0.toNat]!)) ∧ ((c26 ps[i_0.toNat]!).length = (2:Nat)) ∧ _ ∧ _ ∧ (AV.b false = AV.b (decide (j_9 < (↑ps[i_0.toNat]!.vec.length:Int) ∧ j_9 < (16:Int))))) cx [(3, { row := (c26 ps[i_0.toNat]!) }), (6, { tell := some (.i .i64 ((↑ps[i_0.toNat]!.vec.length:Int))) }), (7, { tell := some (.b (false)) }), (11, { tell := some (.b (decide (j_9 < (↑ps[i_0.toNat]!.vec.length:Int) ∧ j_9 < (16:Int)))) })] [0, 2, 3, 4, 5, 6, 28] ([2, 3, 4] ++ List.range' 100300 16 ++ List.range' 100400 16) ⟨(by (with_reducible assumption)), (by (with_reducible refine get_map ?_; omega)), (by kernel_rfl), (told_len c3 ps[i_0.toNat]!.vec), (told_false h_19), (by simp only [eq_false h_19, told_simp1, told_simp2, and_true, true_and, and_false, false_and, or_true, true_or, or_false, false_or, not_true_eq_false, not_false_eq_true, decide_true, decide_false, Bool.decide_eq_true])⟩ ?_
  exact ⟨rfl, by kernel_rfl⟩
  refine sn ?_
  refine st_dec (j_9 < (↑ps[i_0.toNat]!.vec.length:Int) ∧ j_9 < (16:Int)) (by kernel_rfl) (by kernel_rfl) (fun h_20 => ?_) (fun h_20 => ?_)
  refine st_skip (by kernel_rfl) ?_
  refine sn (sq ?_)
  refine st_block 3 (by kernel_rfl) ?_
  refine sq ?_
  refine st_reg16 (F := fun kx => ⟨[(0, .sl (List.map c26 ps)), (2, .ptr (2) (0) (0) (0)), (3, .ptr (3) (0) (0) (0)), (4, .ptr (4) (0) (0) (0)), (5, .i .i64 (i_0)), (6, .i .i64 (kx)), (28, .b (decide (kx < (↑ps[i_0.toNat]!.vec.length:Int) ∧ kx < (16:Int))))], [(2, ⟨0, 122, .var [.nl, .nl, .nl, .nl, .nl, .nl, .nl, .nl, .nl, .nl, .nl, .nl, .nl, .nl, .nl, .nl]⟩), (3, ⟨0, 120, .var (ownsC 100300 16)⟩), (4, ⟨0, 120, .var (ownsC 100400 16)⟩)] ++ tabRows 100300 3 1 16 (c3) (A_10) ++ tabRows 100400 3 1 16 (c3) (B_11)⟩) (G := fun kx => ⟨[(0, .sl (List.map c26 ps)), (2, .ptr (2) (0) (0) (0)), (3, .ptr (3) (0) (0) (0)), (4, .ptr (4) (0) (0) (0)), (5, .i .i64 (i_0)), (6, .i .i64 (kx))], [(2, ⟨0, 122, .var [.nl, .nl, .nl, .nl, .nl, .nl, .nl, .nl, .nl, .nl, .nl, .nl, .nl, .nl, .nl, .nl]⟩), (3, ⟨0, 120, .var (ownsC 100300 16)⟩), (4, ⟨0, 120, .var (ownsC 100400 16)⟩)] ++ tabRows 100300 3 1 16 (c3) (updF A_10 kx.toNat (A_10 kx.toNat ++ [(1:Int)])) ++ tabRows 100400 3 1 16 (c3) (B_11)⟩) (A := fun kx => ((0:Int) ≤ kx) ∧ (kx < (↑(16:Nat):Int)) ∧ (3 = (3:Nat)) ∧ ((1:Nat) = 1) ∧ ([AV.i .i64 (0:Int)].length = (1:Nat)) ∧ (∀ (r : List AV), r ∈ List.map c3 [(1:Int)] → r.length = 1) ∧ ((List.map c3 (A_10 kx.toNat)).length + (List.map c3 [(1:Int)]).length ≤ maxLen) ∧ (((List.map c3 (A_10 kx.toNat)).length + (List.map c3 [(1:Int)]).length) * (8:Nat) ≤ (140737488355328:Nat)) ∧ (List.map c3 (A_10 kx.toNat) ++ List.map c3 [(1:Int)] = List.map c3 (A_10 kx.toNat ++ [(1:Int)])) ∧ ((0:Int) ≤ kx) ∧ (kx < (↑(16:Nat):Int))) cx (fun kx => [(5, { rows := some (List.map c3 (A_10 kx.toNat ++ [(1:Int)])) })]) [0, 2, 3, 4, 5, 6] ([2, 3, 4] ++ List.range' 100300 16 ++ List.range' 100400 16) (j_9) (by (with_reducible assumption)) (by omega) (by kernel_rfl) (by kernel_rfl) ⟨(by show _ = _; kernel_rfl), (by show _ = _; kernel_rfl), (by show _ = _; kernel_rfl), (by show _ = _; kernel_rfl), (by show _ = _; kernel_rfl), (by show _ = _; kernel_rfl), (by show _ = _; kernel_rfl), (by show _ = _; kernel_rfl), (by show _ = _; kernel_rfl), (by show _ = _; kernel_rfl), (by show _ = _; kernel_rfl), (by show _ = _; kernel_rfl), (by show _ = _; kernel_rfl), (by show _ = _; kernel_rfl), (by show _ = _; kernel_rfl), (by show _ = _; kernel_rfl)⟩ ⟨(by (with_reducible assumption)), (by omega), (by kernel_rfl), (by kernel_rfl), (by kernel_rfl), (by (with_reducible refine len_map (fun _ => ?_) _; kernel_rfl)), ?g2, ?g3, (by (with_reducible refine app_map ?_; kernel_rfl)), (by (with_reducible assumption)), (by omega)⟩ ?_; rotate_left 2
  refine sn ?_
  refine st_any16 (F := fun kx => ⟨[(0, .sl (List.map c26 ps)), (2, .ptr (2) (0) (0) (0)), (3, .ptr (3) (0) (0) (0)), (4, .ptr (4) (0) (0) (0)), (5, .i .i64 (i_0)), (6, .i .i64 (kx))], [(2, ⟨0, 122, .var [.nl, .nl, .nl, .nl, .nl, .nl, .nl, .nl, .nl, .nl, .nl, .nl, .nl, .nl, .nl, .nl]⟩), (3, ⟨0, 120, .var (ownsC 100300 16)⟩), (4, ⟨0, 120, .var (ownsC 100400 16)⟩)] ++ tabRows 100300 3 1 16 (c3) (updF A_10 kx.toNat (A_10 kx.toNat ++ [(1:Int)])) ++ tabRows 100400 3 1 16 (c3) (B_11)⟩) (G := fun kx => ⟨[(0, .sl (List.map c26 ps)), (2, .ptr (2) (0) (0) (0)), (3, .ptr (3) (0) (0) (0)), (4, .ptr (4) (0) (0) (0)), (5, .i .i64 (i_0)), (6, .i .i64 (kx))], [(2, ⟨0, 122, .var [.nl, .nl, .nl, .nl, .nl, .nl, .nl, .nl, .nl, .nl, .nl, .nl, .nl, .nl, .nl, .nl]⟩), (3, ⟨0, 120, .var (ownsC 100300 16)⟩), (4, ⟨0, 120, .var (ownsC 100400 16)⟩)] ++ tabRows 100300 3 1 16 (c3) (updF A_10 kx.toNat (A_10 kx.toNat ++ [(1:Int)])) ++ tabRows 100400 3 1 16 (c3) (updF B_11 kx.toNat (B_11 kx.toNat ++ [ps[i_0.toNat]!.vec[kx.toNat]!]))⟩) (A := fun kx => ((0:Int) ≤ kx) ∧ (kx < (↑(16:Nat):Int)) ∧ ((0:Int) ≤ i_0) ∧ ((List.map c26 ps)[i_0.toNat]? = some (c26 ps[i_0.toNat]!)) ∧ ((c26 ps[i_0.toNat]!).length = (2:Nat)) ∧ ((0:Int) ≤ kx) ∧ ((List.map c3 ps[i_0.toNat]!.vec)[kx.toNat]? = some (c3 ps[i_0.toNat]!.vec[kx.toNat]!)) ∧ ((c3 ps[i_0.toNat]!.vec[kx.toNat]!).length = (1:Nat)) ∧ (3 = (3:Nat)) ∧ ((1:Nat) = 1) ∧ ([AV.i .i64 (0:Int)].length = (1:Nat)) ∧ (∀ (r : List AV), r ∈ List.map c3 [ps[i_0.toNat]!.vec[kx.toNat]!] → r.length = 1) ∧ ((List.map c3 (B_11 kx.toNat)).length + (List.map c3 [ps[i_0.toNat]!.vec[kx.toNat]!]).length ≤ maxLen) ∧ (((List.map c3 (B_11 kx.toNat)).length + (List.map c3 [ps[i_0.toNat]!.vec[kx.toNat]!]).length) * (8:Nat) ≤ (140737488355328:Nat)) ∧ (List.map c3 (B_11 kx.toNat) ++ List.map c3 [ps[i_0.toNat]!.vec[kx.toNat]!] = List.map c3 (B_11 kx.toNat ++ [ps[i_0.toNat]!.vec[kx.toNat]!])) ∧ ((0:Int) ≤ kx) ∧ (kx < (↑(16:Nat):Int))) cx (fun kx => [(6, { row := (c26 ps[i_0.toNat]!) }), (10, { row := (c3 ps[i_0.toNat]!.vec[kx.toNat]!) }), (13, { rows := some (List.map c3 (B_11 kx.toNat ++ [ps[i_0.toNat]!.vec[kx.toNat]!])) })]) [0, 2, 3, 4, 5, 6] ([2, 3, 4] ++ List.range' 100300 16 ++ List.range' 100400 16) (j_9) (by (with_reducible assumption)) (by omega) (by kernel_rfl) (by kernel_rfl) ⟨(by show _ = _; kernel_rfl), (by show _ = _; kernel_rfl), (by show _ = _; kernel_rfl), (by show _ = _; kernel_rfl), (by show _ = _; kernel_rfl), (by show _ = _; kernel_rfl), (by show _ = _; kernel_rfl), (by show _ = _; kernel_rfl), (by show _ = _; kernel_rfl), (by show _ = _; kernel_rfl), (by show _ = _; kernel_rfl), (by show _ = _; kernel_rfl), (by show _ = _; kernel_rfl), (by show _ = _; kernel_rfl), (by show _ = _; kernel_rfl), (by show _ = _; kernel_rfl)⟩ ⟨(by (with_reducible assumption)), (by omega), (by (with_reducible assumption)), (by (with_reducible refine get_map ?_; omega)), (by kernel_rfl), (by (with_reducible assumption)), (by (with_reducible refine get_map ?_; omega)), (by kernel_rfl), (by kernel_rfl), (by kernel_rfl), (by kernel_rfl), (by (with_reducible refine len_map (fun _ => ?_) _; kernel_rfl)), ?g4, ?g5, (by (with_reducible refine app_map ?_; kernel_rfl)), (by (with_reducible assumption)), (by omega)⟩ ?_; rotate_left 2
  refine q_blk_normal ?_
  refine sn ?_
  refine rg (A := (AV.i .i64 (IntKind.i64.wrap (j_9 + (1:Int))) = AV.i .i64 (j_9 + (1:Int)))) cx [(1, { tell := some (.i .i64 (j_9 + (1:Int))) })] [0, 2, 3, 4, 5, 6] ([2, 3, 4] ++ List.range' 100300 16 ++ List.range' 100400 16) (told_i64 (by omega) (by omega)) ?_
  refine sn ?_
  refine loop_next ((j_9 + (1:Int), updF A_10 j_9.toNat (A_10 j_9.toNat ++ [(1:Int)]), updF B_11 j_9.toNat (B_11 j_9.toNat ++ [ps[i_0.toNat]!.vec[j_9.toNat]!]))) (by kernel_rfl) (show ((↑ps[i_0.toNat]!.vec.length:Int) - (j_9 + (1:Int))).toNat < ((↑ps[i_0.toNat]!.vec.length:Int) - j_9).toNat from (by omega)) (show invMb ps i_0 (j_9 + (1:Int)) (updF A_10 j_9.toNat (A_10 j_9.toNat ++ [(1:Int)])) (updF B_11 j_9.toNat (B_11 j_9.toNat ++ [ps[i_0.toNat]!.vec[j_9.toNat]!])) from ?g6); rotate_left 1
  refine st_exit 2 (by kernel_rfl) ?_
  refine q_seq_exit ?_
  refine q_seq_exit ?_
  refine q_blk_hit ?_
  refine sn (sq ?_)
  refine rg (A := True) cx [] [0, 2, 3, 4, 5, 7] ([2, 3, 4] ++ List.range' 100300 16 ++ List.range' 100400 16) trivial ?_
  refine sn ?_
  refine st_block 4 (by kernel_rfl) ?_
  refine st_loop (X := Int × (Nat → List Int) × (Nat → List Int)) (fun x => ⟨[(0, .sl (List.map c26 ps)), (2, .ptr (2) (0) (0) (0)), (3, .ptr (3) (0) (0) (0)), (4, .ptr (4) (0) (0) (0)), (5, .i .i64 (i_0)), (7, .i .i64 (x.fst))], [(2, ⟨0, 122, .var [.nl, .nl, .nl, .nl, .nl, .nl, .nl, .nl, .nl, .nl, .nl, .nl, .nl, .nl, .nl, .nl]⟩), (3, ⟨0, 120, .var (ownsC 100300 16)⟩), (4, ⟨0, 120, .var (ownsC 100400 16)⟩)] ++ tabRows 100300 3 1 16 (c3) (x.snd.fst) ++ tabRows 100400 3 1 16 (c3) (x.snd.snd)⟩) (fun x ↦ decMc ps i_0 x.fst x.snd.fst x.snd.snd) (fun x ↦ invMc ps i_0 x.fst x.snd.fst x.snd.snd) [0, 2, 3, 4, 5, 7] ([2, 3, 4] ++ List.range' 100300 16 ++ List.range' 100400 16) (((0:Int), A_10, B_11)) (by kernel_rfl) (by kernel_rfl) (show invMc ps i_0 (0:Int) A_10 B_11 from ?g7) ?_; rotate_left 1
  rintro ⟨j_21, A_22, B_23⟩ h_24
  obtain ⟨h_25, h_26, h_27, h_28⟩ : (0:Int) ≤ j_21 ∧ j_21 ≤ (↑ps[i_0.toNat]!.cloud.length:Int) ∧ isLen A_22 B_23 ∧ isOpenC ps i_0 j_21 (zT A_22 B_23) := h_24
  refine sq ?_
  refine sq ?_
  refine rg (A := ((0:Int) ≤ i_0) ∧ ((List.map c26 ps)[i_0.toNat]? = some (c26 ps[i_0.toNat]!)) ∧ ((c26 ps[i_0.toNat]!).length = (2:Nat)) ∧ _ ∧ (AV.b (decide (j_21 < (↑ps[i_0.toNat]!.cloud.length:Int))) = AV.b (decide (j_21 < (↑ps[i_0.toNat]!.cloud.length:Int))))) cx [(3, { row := (c26 ps[i_0.toNat]!) }), (6, { tell := some (.i .i64 ((↑ps[i_0.toNat]!.cloud.length:Int))) }), (7, { tell := some (.b (decide (j_21 < (↑ps[i_0.toNat]!.cloud.length:Int)))) })] [0, 2, 3, 4, 5, 7, 60] ([2, 3, 4] ++ List.range' 100300 16 ++ List.range' 100400 16) ⟨(by (with_reducible assumption)), (by (with_reducible refine get_map ?_; omega)), (by kernel_rfl), (told_len c104 ps[i_0.toNat]!.cloud), (by kernel_rfl)⟩ ?_
  refine sn ?_
  refine st_dec (j_21 < (↑ps[i_0.toNat]!.cloud.length:Int)) (by kernel_rfl) (by kernel_rfl) (fun h_29 => ?_) (fun h_29 => ?_)
  refine st_skip (by kernel_rfl) ?_
  refine sn (sq ?_)
  refine st_block 5 (by kernel_rfl) ?_
  refine sq ?_
  refine rg (A := ((0:Int) ≤ i_0) ∧ ((List.map c26 ps)[i_0.toNat]? = some (c26 ps[i_0.toNat]!)) ∧ ((c26 ps[i_0.toNat]!).length = (2:Nat)) ∧ ((0:Int) ≤ j_21) ∧ ((List.map c104 ps[i_0.toNat]!.cloud)[j_21.toNat]? = some (c104 ps[i_0.toNat]!.cloud[j_21.toNat]!)) ∧ ((c104 ps[i_0.toNat]!.cloud[j_21.toNat]!).length = (3:Nat)) ∧ ((3:Nat) ≤ [AV.i .i64 ps[i_0.toNat]!.cloud[j_21.toNat]!.rep, AV.i .i64 ps[i_0.toNat]!.cloud[j_21.toNat]!.lo, AV.i .i64 ps[i_0.toNat]!.cloud[j_21.toNat]!.hi].length)) cx [(2, { row := (c26 ps[i_0.toNat]!) }), (6, { row := (c104 ps[i_0.toNat]!.cloud[j_21.toNat]!) })] [0, 2, 3, 4, 5, 7, 8] ([2, 3, 4] ++ List.range' 100300 16 ++ List.range' 100400 16 ++ [8]) ⟨(by (with_reducible assumption)), (by (with_reducible refine get_map ?_; omega)), (by kernel_rfl), (by (with_reducible assumption)), (by (with_reducible refine get_map ?_; omega)), (by kernel_rfl), (by (simp only [List.length_append, List.length_cons, List.length_nil]; omega))⟩ ?_
  refine sn (sq ?_)
  refine st_join (σ' := ⟨[(0, .sl (List.map c26 ps)), (2, .ptr (2) (0) (0) (0)), (3, .ptr (3) (0) (0) (0)), (4, .ptr (4) (0) (0) (0)), (5, .i .i64 (i_0)), (7, .i .i64 (j_21)), (8, .ptr (8) (0) (0) (0)), (78, .b (decide ((0:Int) ≤ ps[i_0.toNat]!.cloud[j_21.toNat]!.rep ∧ ps[i_0.toNat]!.cloud[j_21.toNat]!.rep < (16:Int))))], [(2, ⟨0, 122, .var [.nl, .nl, .nl, .nl, .nl, .nl, .nl, .nl, .nl, .nl, .nl, .nl, .nl, .nl, .nl, .nl]⟩), (3, ⟨0, 120, .var (ownsC 100300 16)⟩), (4, ⟨0, 120, .var (ownsC 100400 16)⟩)] ++ tabRows 100300 3 1 16 (c3) (A_22) ++ tabRows 100400 3 1 16 (c3) (B_23) ++ [(8, ⟨0, 104, .var [.i .i64 (ps[i_0.toNat]!.cloud[j_21.toNat]!.rep), .i .i64 (ps[i_0.toNat]!.cloud[j_21.toNat]!.lo), .i .i64 (ps[i_0.toNat]!.cloud[j_21.toNat]!.hi)]⟩)]⟩) ?_ ?_
  refine st_split ((0:Int) ≤ ps[i_0.toNat]!.cloud[j_21.toNat]!.rep) (fun h_31 => ?_) (fun h_31 => ?_)
  refine rg (A := _ ∧ (AV.b (decide (ps[i_0.toNat]!.cloud[j_21.toNat]!.rep < (16:Int))) = AV.b (decide (ps[i_0.toNat]!.cloud[j_21.toNat]!.rep < (16:Int)))) ∧ (AV.b (decide (ps[i_0.toNat]!.cloud[j_21.toNat]!.rep < (16:Int))) = AV.b (decide ((0:Int) ≤ ps[i_0.toNat]!.cloud[j_21.toNat]!.rep ∧ ps[i_0.toNat]!.cloud[j_21.toNat]!.rep < (16:Int))))) cx [(2, { tell := some (.b (true)) }), (6, { tell := some (.b (decide (ps[i_0.toNat]!.cloud[j_21.toNat]!.rep < (16:Int)))) }), (7, { tell := some (.b (decide ((0:Int) ≤ ps[i_0.toNat]!.cloud[j_21.toNat]!.rep ∧ ps[i_0.toNat]!.cloud[j_21.toNat]!.rep < (16:Int)))) })] [0, 2, 3, 4, 5, 7, 8, 78] ([2, 3, 4] ++ List.range' 100300 16 ++ List.range' 100400 16 ++ [8]) ⟨(told_true h_31), (by kernel_rfl), (by simp only [eq_true h_31, told_simp1, told_simp2, and_true, true_and, and_false, false_and, or_true, true_or, or_false, false_or, not_true_eq_false, not_false_eq_true, decide_true, decide_false, Bool.decide_eq_true])⟩ ?_
  exact ⟨rfl, by kernel_rfl⟩
  refine rg (A := _ ∧ (AV.b false = AV.b (decide ((0:Int) ≤ ps[i_0.toNat]!.cloud[j_21.toNat]!.rep ∧ ps[i_0.toNat]!.cloud[j_21.toNat]!.rep < (16:Int))))) cx [(2, { tell := some (.b (false)) }), (7, { tell := some (.b (decide ((0:Int) ≤ ps[i_0.toNat]!.cloud[j_21.toNat]!.rep ∧ ps[i_0.toNat]!.cloud[j_21.toNat]!.rep < (16:Int)))) })] [0, 2, 3, 4, 5, 7, 8, 78] ([2, 3, 4] ++ List.range' 100300 16 ++ List.range' 100400 16 ++ [8]) ⟨(told_false h_31), (by simp only [eq_false h_31, told_simp1, told_simp2, and_true, true_and, and_false, false_and, or_true, true_or, or_false, false_or, not_true_eq_false, not_false_eq_true, decide_true, decide_false, Bool.decide_eq_true])⟩ ?_
  exact ⟨rfl, by kernel_rfl⟩
  refine sn ?_
  refine st_dec ((0:Int) ≤ ps[i_0.toNat]!.cloud[j_21.toNat]!.rep ∧ ps[i_0.toNat]!.cloud[j_21.toNat]!.rep < (16:Int)) (by kernel_rfl) (by kernel_rfl) (fun h_32 => ?_) (fun h_32 => ?_)
  refine sq ?_
  refine st_any16 (F := fun kx => ⟨[(0, .sl (List.map c26 ps)), (2, .ptr (2) (0) (0) (0)), (3, .ptr (3) (0) (0) (0)), (4, .ptr (4) (0) (0) (0)), (5, .i .i64 (i_0)), (7, .i .i64 (j_21)), (8, .ptr (8) (0) (0) (0)), (78, .b (decide ((0:Int) ≤ kx ∧ kx < (16:Int))))], [(2, ⟨0, 122, .var [.nl, .nl, .nl, .nl, .nl, .nl, .nl, .nl, .nl, .nl, .nl, .nl, .nl, .nl, .nl, .nl]⟩), (3, ⟨0, 120, .var (ownsC 100300 16)⟩), (4, ⟨0, 120, .var (ownsC 100400 16)⟩)] ++ tabRows 100300 3 1 16 (c3) (A_22) ++ tabRows 100400 3 1 16 (c3) (B_23) ++ [(8, ⟨0, 104, .var [.i .i64 (kx), .i .i64 (ps[i_0.toNat]!.cloud[j_21.toNat]!.lo), .i .i64 (ps[i_0.toNat]!.cloud[j_21.toNat]!.hi)]⟩)]⟩) (G := fun kx => ⟨[(0, .sl (List.map c26 ps)), (2, .ptr (2) (0) (0) (0)), (3, .ptr (3) (0) (0) (0)), (4, .ptr (4) (0) (0) (0)), (5, .i .i64 (i_0)), (7, .i .i64 (j_21)), (8, .ptr (8) (0) (0) (0))], [(2, ⟨0, 122, .var [.nl, .nl, .nl, .nl, .nl, .nl, .nl, .nl, .nl, .nl, .nl, .nl, .nl, .nl, .nl, .nl]⟩), (3, ⟨0, 120, .var (ownsC 100300 16)⟩), (4, ⟨0, 120, .var (ownsC 100400 16)⟩)] ++ tabRows 100300 3 1 16 (c3) (updF A_22 kx.toNat (A_22 kx.toNat ++ [ps[i_0.toNat]!.cloud[j_21.toNat]!.lo])) ++ tabRows 100400 3 1 16 (c3) (B_23) ++ [(8, ⟨0, 104, .var [.i .i64 (kx), .i .i64 (ps[i_0.toNat]!.cloud[j_21.toNat]!.lo), .i .i64 (ps[i_0.toNat]!.cloud[j_21.toNat]!.hi)]⟩)]⟩) (A := fun kx => ((0:Int) ≤ kx) ∧ (kx < (↑(16:Nat):Int)) ∧ (3 = (3:Nat)) ∧ ((1:Nat) = 1) ∧ ([AV.i .i64 (0:Int)].length = (1:Nat)) ∧ (∀ (r : List AV), r ∈ List.map c3 [ps[i_0.toNat]!.cloud[j_21.toNat]!.lo] → r.length = 1) ∧ ((List.map c3 (A_22 kx.toNat)).length + (List.map c3 [ps[i_0.toNat]!.cloud[j_21.toNat]!.lo]).length ≤ maxLen) ∧ (((List.map c3 (A_22 kx.toNat)).length + (List.map c3 [ps[i_0.toNat]!.cloud[j_21.toNat]!.lo]).length) * (8:Nat) ≤ (140737488355328:Nat)) ∧ (List.map c3 (A_22 kx.toNat) ++ List.map c3 [ps[i_0.toNat]!.cloud[j_21.toNat]!.lo] = List.map c3 (A_22 kx.toNat ++ [ps[i_0.toNat]!.cloud[j_21.toNat]!.lo])) ∧ ((0:Int) ≤ kx) ∧ (kx < (↑(16:Nat):Int))) cx (fun kx => [(9, { rows := some (List.map c3 (A_22 kx.toNat ++ [ps[i_0.toNat]!.cloud[j_21.toNat]!.lo])) })]) [0, 2, 3, 4, 5, 7, 8] ([2, 3, 4] ++ List.range' 100300 16 ++ List.range' 100400 16 ++ [8]) (ps[i_0.toNat]!.cloud[j_21.toNat]!.rep) (by omega) (by omega) (by kernel_rfl) (by kernel_rfl) ⟨(by show _ = _; kernel_rfl), (by show _ = _; kernel_rfl), (by show _ = _; kernel_rfl), (by show _ = _; kernel_rfl), (by show _ = _; kernel_rfl), (by show _ = _; kernel_rfl), (by show _ = _; kernel_rfl), (by show _ = _; kernel_rfl), (by show _ = _; kernel_rfl), (by show _ = _; kernel_rfl), (by show _ = _; kernel_rfl), (by show _ = _; kernel_rfl), (by show _ = _; kernel_rfl), (by show _ = _; kernel_rfl), (by show _ = _; kernel_rfl), (by show _ = _; kernel_rfl)⟩ ⟨(by omega), (by omega), (by kernel_rfl), (by kernel_rfl), (by kernel_rfl), (by (with_reducible refine len_map (fun _ => ?_) _; kernel_rfl)), ?g8, ?g9, (by (with_reducible refine app_map ?_; kernel_rfl)), (by omega), (by omega)⟩ ?_; rotate_left 2
  refine sn ?_
  refine st_any16 (F := fun kx => ⟨[(0, .sl (List.map c26 ps)), (2, .ptr (2) (0) (0) (0)), (3, .ptr (3) (0) (0) (0)), (4, .ptr (4) (0) (0) (0)), (5, .i .i64 (i_0)), (7, .i .i64 (j_21)), (8, .ptr (8) (0) (0) (0))], [(2, ⟨0, 122, .var [.nl, .nl, .nl, .nl, .nl, .nl, .nl, .nl, .nl, .nl, .nl, .nl, .nl, .nl, .nl, .nl]⟩), (3, ⟨0, 120, .var (ownsC 100300 16)⟩), (4, ⟨0, 120, .var (ownsC 100400 16)⟩)] ++ tabRows 100300 3 1 16 (c3) (updF A_22 kx.toNat (A_22 kx.toNat ++ [ps[i_0.toNat]!.cloud[j_21.toNat]!.lo])) ++ tabRows 100400 3 1 16 (c3) (B_23) ++ [(8, ⟨0, 104, .var [.i .i64 (kx), .i .i64 (ps[i_0.toNat]!.cloud[j_21.toNat]!.lo), .i .i64 (ps[i_0.toNat]!.cloud[j_21.toNat]!.hi)]⟩)]⟩) (G := fun kx => ⟨[(0, .sl (List.map c26 ps)), (2, .ptr (2) (0) (0) (0)), (3, .ptr (3) (0) (0) (0)), (4, .ptr (4) (0) (0) (0)), (5, .i .i64 (i_0)), (7, .i .i64 (j_21))], [(2, ⟨0, 122, .var [.nl, .nl, .nl, .nl, .nl, .nl, .nl, .nl, .nl, .nl, .nl, .nl, .nl, .nl, .nl, .nl]⟩), (3, ⟨0, 120, .var (ownsC 100300 16)⟩), (4, ⟨0, 120, .var (ownsC 100400 16)⟩)] ++ tabRows 100300 3 1 16 (c3) (updF A_22 kx.toNat (A_22 kx.toNat ++ [ps[i_0.toNat]!.cloud[j_21.toNat]!.lo])) ++ tabRows 100400 3 1 16 (c3) (updF B_23 kx.toNat (B_23 kx.toNat ++ [ps[i_0.toNat]!.cloud[j_21.toNat]!.hi]))⟩) (A := fun kx => ((0:Int) ≤ kx) ∧ (kx < (↑(16:Nat):Int)) ∧ (3 = (3:Nat)) ∧ ((1:Nat) = 1) ∧ ([AV.i .i64 (0:Int)].length = (1:Nat)) ∧ (∀ (r : List AV), r ∈ List.map c3 [ps[i_0.toNat]!.cloud[j_21.toNat]!.hi] → r.length = 1) ∧ ((List.map c3 (B_23 kx.toNat)).length + (List.map c3 [ps[i_0.toNat]!.cloud[j_21.toNat]!.hi]).length ≤ maxLen) ∧ (((List.map c3 (B_23 kx.toNat)).length + (List.map c3 [ps[i_0.toNat]!.cloud[j_21.toNat]!.hi]).length) * (8:Nat) ≤ (140737488355328:Nat)) ∧ (List.map c3 (B_23 kx.toNat) ++ List.map c3 [ps[i_0.toNat]!.cloud[j_21.toNat]!.hi] = List.map c3 (B_23 kx.toNat ++ [ps[i_0.toNat]!.cloud[j_21.toNat]!.hi])) ∧ ((0:Int) ≤ kx) ∧ (kx < (↑(16:Nat):Int))) cx (fun kx => [(9, { rows := some (List.map c3 (B_23 kx.toNat ++ [ps[i_0.toNat]!.cloud[j_21.toNat]!.hi])) })]) [0, 2, 3, 4, 5, 7] ([2, 3, 4] ++ List.range' 100300 16 ++ List.range' 100400 16) (ps[i_0.toNat]!.cloud[j_21.toNat]!.rep) (by omega) (by omega) (by kernel_rfl) (by kernel_rfl) ⟨(by show _ = _; kernel_rfl), (by show _ = _; kernel_rfl), (by show _ = _; kernel_rfl), (by show _ = _; kernel_rfl), (by show _ = _; kernel_rfl), (by show _ = _; kernel_rfl), (by show _ = _; kernel_rfl), (by show _ = _; kernel_rfl), (by show _ = _; kernel_rfl), (by show _ = _; kernel_rfl), (by show _ = _; kernel_rfl), (by show _ = _; kernel_rfl), (by show _ = _; kernel_rfl), (by show _ = _; kernel_rfl), (by show _ = _; kernel_rfl), (by show _ = _; kernel_rfl)⟩ ⟨(by omega), (by omega), (by kernel_rfl), (by kernel_rfl), (by kernel_rfl), (by (with_reducible refine len_map (fun _ => ?_) _; kernel_rfl)), ?g10, ?g11, (by (with_reducible refine app_map ?_; kernel_rfl)), (by omega), (by omega)⟩ ?_; rotate_left 2
  refine q_blk_normal ?_
  refine sn ?_
  refine rg (A := (AV.i .i64 (IntKind.i64.wrap (j_21 + (1:Int))) = AV.i .i64 (j_21 + (1:Int)))) cx [(1, { tell := some (.i .i64 (j_21 + (1:Int))) })] [0, 2, 3, 4, 5, 7] ([2, 3, 4] ++ List.range' 100300 16 ++ List.range' 100400 16) (told_i64 (by omega) ?g12) ?_; rotate_left 1
  refine sn ?_
  refine loop_next ((j_21 + (1:Int), updF A_22 ps[i_0.toNat]!.cloud[j_21.toNat]!.rep.toNat (A_22 ps[i_0.toNat]!.cloud[j_21.toNat]!.rep.toNat ++ [ps[i_0.toNat]!.cloud[j_21.toNat]!.lo]), updF B_23 ps[i_0.toNat]!.cloud[j_21.toNat]!.rep.toNat (B_23 ps[i_0.toNat]!.cloud[j_21.toNat]!.rep.toNat ++ [ps[i_0.toNat]!.cloud[j_21.toNat]!.hi]))) (by kernel_rfl) (show ((↑ps[i_0.toNat]!.cloud.length:Int) - (j_21 + (1:Int))).toNat < ((↑ps[i_0.toNat]!.cloud.length:Int) - j_21).toNat from (by omega)) (show invMc ps i_0 (j_21 + (1:Int)) (updF A_22 ps[i_0.toNat]!.cloud[j_21.toNat]!.rep.toNat (A_22 ps[i_0.toNat]!.cloud[j_21.toNat]!.rep.toNat ++ [ps[i_0.toNat]!.cloud[j_21.toNat]!.lo])) (updF B_23 ps[i_0.toNat]!.cloud[j_21.toNat]!.rep.toNat (B_23 ps[i_0.toNat]!.cloud[j_21.toNat]!.rep.toNat ++ [ps[i_0.toNat]!.cloud[j_21.toNat]!.hi])) from ?g13); rotate_left 1
  refine st_skip (by kernel_rfl) ?_
  refine q_blk_normal ?_
  refine sn ?_
  refine rg (A := (AV.i .i64 (IntKind.i64.wrap (j_21 + (1:Int))) = AV.i .i64 (j_21 + (1:Int)))) cx [(1, { tell := some (.i .i64 (j_21 + (1:Int))) })] [0, 2, 3, 4, 5, 7] ([2, 3, 4] ++ List.range' 100300 16 ++ List.range' 100400 16) (told_i64 (by omega) ?g14) ?_; rotate_left 1
  refine sn ?_
  refine loop_next ((j_21 + (1:Int), A_22, B_23)) (by kernel_rfl) (show ((↑ps[i_0.toNat]!.cloud.length:Int) - (j_21 + (1:Int))).toNat < ((↑ps[i_0.toNat]!.cloud.length:Int) - j_21).toNat from (by omega)) (show invMc ps i_0 (j_21 + (1:Int)) A_22 B_23 from ?g15); rotate_left 1
  refine st_exit 4 (by kernel_rfl) ?_
  refine q_seq_exit ?_
  refine q_seq_exit ?_
  refine q_blk_hit ?_
  refine q_blk_normal ?_
  refine sn ?_
  refine rg (A := (AV.i .i64 (IntKind.i64.wrap (i_0 + (1:Int))) = AV.i .i64 (i_0 + (1:Int)))) cx [(1, { tell := some (.i .i64 (i_0 + (1:Int))) })] [0, 2, 3, 4, 5] ([2, 3, 4] ++ List.range' 100300 16 ++ List.range' 100400 16) (told_i64 (by omega) (by omega)) ?_
  refine sn ?_
  refine loop_next ((i_0 + (1:Int), A_22, B_23)) (by kernel_rfl) (show ((↑ps.length:Int) - (i_0 + (1:Int))).toNat < ((↑ps.length:Int) - i_0).toNat from (by omega)) (show invMa ps (i_0 + (1:Int)) A_22 B_23 from ?g16); rotate_left 1
  refine st_exit 0 (by kernel_rfl) ?_
  refine q_seq_exit ?_
  refine q_seq_exit ?_
  refine q_blk_hit ?_
  refine sn (sq ?_)
  refine awp_norm (List.range' 100300 16) [0, 2, 3, 4, 5, 14] ([2, 3, 4] ++ List.range' 100400 16) (σ' := ⟨[(0, .sl (List.map c26 ps)), (2, .ptr (2) (0) (0) (0)), (3, .ptr (3) (0) (0) (0)), (4, .ptr (4) (0) (0) (0)), (5, .i .i64 (i_0)), (14, .b (decide (i_0 < (↑ps.length:Int))))], [(2, ⟨0, 122, .var [.nl, .nl, .nl, .nl, .nl, .nl, .nl, .nl, .nl, .nl, .nl, .nl, .nl, .nl, .nl, .nl]⟩), (3, ⟨0, 120, .var [.sl (List.map c3 (A_1 (0))), .sl (List.map c3 (A_1 (1))), .sl (List.map c3 (A_1 (2))), .sl (List.map c3 (A_1 (3))), .sl (List.map c3 (A_1 (4))), .sl (List.map c3 (A_1 (5))), .sl (List.map c3 (A_1 (6))), .sl (List.map c3 (A_1 (7))), .sl (List.map c3 (A_1 (8))), .sl (List.map c3 (A_1 (9))), .sl (List.map c3 (A_1 (10))), .sl (List.map c3 (A_1 (11))), .sl (List.map c3 (A_1 (12))), .sl (List.map c3 (A_1 (13))), .sl (List.map c3 (A_1 (14))), .sl (List.map c3 (A_1 (15)))]⟩), (4, ⟨0, 120, .var (ownsC 100400 16)⟩)] ++ tabRows 100400 3 1 16 (c3) (B_2)⟩) (by kernel_rfl) ?_
  refine awp_varArr 3 ⟨0, 120, .var [.sl (List.map c3 (A_1 (0))), .sl (List.map c3 (A_1 (1))), .sl (List.map c3 (A_1 (2))), .sl (List.map c3 (A_1 (3))), .sl (List.map c3 (A_1 (4))), .sl (List.map c3 (A_1 (5))), .sl (List.map c3 (A_1 (6))), .sl (List.map c3 (A_1 (7))), .sl (List.map c3 (A_1 (8))), .sl (List.map c3 (A_1 (9))), .sl (List.map c3 (A_1 (10))), .sl (List.map c3 (A_1 (11))), .sl (List.map c3 (A_1 (12))), .sl (List.map c3 (A_1 (13))), .sl (List.map c3 (A_1 (14))), .sl (List.map c3 (A_1 (15)))]⟩ [.sl (List.map c3 (A_1 (0))), .sl (List.map c3 (A_1 (1))), .sl (List.map c3 (A_1 (2))), .sl (List.map c3 (A_1 (3))), .sl (List.map c3 (A_1 (4))), .sl (List.map c3 (A_1 (5))), .sl (List.map c3 (A_1 (6))), .sl (List.map c3 (A_1 (7))), .sl (List.map c3 (A_1 (8))), .sl (List.map c3 (A_1 (9))), .sl (List.map c3 (A_1 (10))), .sl (List.map c3 (A_1 (11))), .sl (List.map c3 (A_1 (12))), .sl (List.map c3 (A_1 (13))), .sl (List.map c3 (A_1 (14))), .sl (List.map c3 (A_1 (15)))] (tabC c3 (16:Nat) A_1) (σ' := ⟨[(0, .sl (List.map c26 ps)), (2, .ptr (2) (0) (0) (0)), (3, .ptr (3) (0) (0) (0)), (4, .ptr (4) (0) (0) (0)), (5, .i .i64 (i_0)), (14, .b (decide (i_0 < (↑ps.length:Int))))], [(2, ⟨0, 122, .var [.nl, .nl, .nl, .nl, .nl, .nl, .nl, .nl, .nl, .nl, .nl, .nl, .nl, .nl, .nl, .nl]⟩), (3, ⟨0, 120, .arr (tabC c3 (16:Nat) A_1)⟩), (4, ⟨0, 120, .var (ownsC 100400 16)⟩)] ++ tabRows 100400 3 1 16 (c3) (B_2)⟩) (by kernel_rfl) (by kernel_rfl) (by kernel_rfl) (by kernel_rfl) (ZLe.of_eq (by kernel_rfl)) (by kernel_rfl) ?_
  refine awp_norm (List.range' 100400 16) [0, 2, 3, 4, 5, 14] [2, 3, 4] (σ' := ⟨[(0, .sl (List.map c26 ps)), (2, .ptr (2) (0) (0) (0)), (3, .ptr (3) (0) (0) (0)), (4, .ptr (4) (0) (0) (0)), (5, .i .i64 (i_0)), (14, .b (decide (i_0 < (↑ps.length:Int))))], [(2, ⟨0, 122, .var [.nl, .nl, .nl, .nl, .nl, .nl, .nl, .nl, .nl, .nl, .nl, .nl, .nl, .nl, .nl, .nl]⟩), (3, ⟨0, 120, .arr (tabC c3 (16:Nat) A_1)⟩), (4, ⟨0, 120, .var [.sl (List.map c3 (B_2 (0))), .sl (List.map c3 (B_2 (1))), .sl (List.map c3 (B_2 (2))), .sl (List.map c3 (B_2 (3))), .sl (List.map c3 (B_2 (4))), .sl (List.map c3 (B_2 (5))), .sl (List.map c3 (B_2 (6))), .sl (List.map c3 (B_2 (7))), .sl (List.map c3 (B_2 (8))), .sl (List.map c3 (B_2 (9))), .sl (List.map c3 (B_2 (10))), .sl (List.map c3 (B_2 (11))), .sl (List.map c3 (B_2 (12))), .sl (List.map c3 (B_2 (13))), .sl (List.map c3 (B_2 (14))), .sl (List.map c3 (B_2 (15)))]⟩)]⟩) (by kernel_rfl) ?_
  refine awp_varArr 4 ⟨0, 120, .var [.sl (List.map c3 (B_2 (0))), .sl (List.map c3 (B_2 (1))), .sl (List.map c3 (B_2 (2))), .sl (List.map c3 (B_2 (3))), .sl (List.map c3 (B_2 (4))), .sl (List.map c3 (B_2 (5))), .sl (List.map c3 (B_2 (6))), .sl (List.map c3 (B_2 (7))), .sl (List.map c3 (B_2 (8))), .sl (List.map c3 (B_2 (9))), .sl (List.map c3 (B_2 (10))), .sl (List.map c3 (B_2 (11))), .sl (List.map c3 (B_2 (12))), .sl (List.map c3 (B_2 (13))), .sl (List.map c3 (B_2 (14))), .sl (List.map c3 (B_2 (15)))]⟩ [.sl (List.map c3 (B_2 (0))), .sl (List.map c3 (B_2 (1))), .sl (List.map c3 (B_2 (2))), .sl (List.map c3 (B_2 (3))), .sl (List.map c3 (B_2 (4))), .sl (List.map c3 (B_2 (5))), .sl (List.map c3 (B_2 (6))), .sl (List.map c3 (B_2 (7))), .sl (List.map c3 (B_2 (8))), .sl (List.map c3 (B_2 (9))), .sl (List.map c3 (B_2 (10))), .sl (List.map c3 (B_2 (11))), .sl (List.map c3 (B_2 (12))), .sl (List.map c3 (B_2 (13))), .sl (List.map c3 (B_2 (14))), .sl (List.map c3 (B_2 (15)))] (tabC c3 (16:Nat) B_2) (σ' := ⟨[(0, .sl (List.map c26 ps)), (2, .ptr (2) (0) (0) (0)), (3, .ptr (3) (0) (0) (0)), (4, .ptr (4) (0) (0) (0)), (5, .i .i64 (i_0)), (14, .b (decide (i_0 < (↑ps.length:Int))))], [(2, ⟨0, 122, .var [.nl, .nl, .nl, .nl, .nl, .nl, .nl, .nl, .nl, .nl, .nl, .nl, .nl, .nl, .nl, .nl]⟩), (3, ⟨0, 120, .arr (tabC c3 (16:Nat) A_1)⟩), (4, ⟨0, 120, .arr (tabC c3 (16:Nat) B_2)⟩)]⟩) (by kernel_rfl) (by kernel_rfl) (by kernel_rfl) (by kernel_rfl) (ZLe.of_eq (by kernel_rfl)) (by kernel_rfl) ?_
  refine rg (A := True) cx [] [2, 3, 4, 9] [2, 3, 4, 9] trivial ?_
  refine sn (sq ?_)
  refine sq ?_
  refine rg (A := True) cx [] [2, 3, 4, 9, 10] [2, 3, 4, 9] trivial ?_
  refine sn ?_
  refine st_block 6 (by kernel_rfl) ?_
  refine awp_varArr 9 ⟨0, 122, .var [.nl, .nl, .nl, .nl, .nl, .nl, .nl, .nl, .nl, .nl, .nl, .nl, .nl, .nl, .nl, .nl]⟩ [.nl, .nl, .nl, .nl, .nl, .nl, .nl, .nl, .nl, .nl, .nl, .nl, .nl, .nl, .nl, .nl] (tabC c3 (16:Nat) fun x ↦ []) (σ' := ⟨[(2, .ptr (2) (0) (0) (0)), (3, .ptr (3) (0) (0) (0)), (4, .ptr (4) (0) (0) (0)), (9, .ptr (9) (0) (0) (0)), (10, .i .i64 ((0:Int)))], [(2, ⟨0, 122, .var [.nl, .nl, .nl, .nl, .nl, .nl, .nl, .nl, .nl, .nl, .nl, .nl, .nl, .nl, .nl, .nl]⟩), (3, ⟨0, 120, .arr (tabC c3 (16:Nat) A_1)⟩), (4, ⟨0, 120, .arr (tabC c3 (16:Nat) B_2)⟩), (9, ⟨0, 122, .arr (tabC c3 (16:Nat) fun x ↦ [])⟩)]⟩) (by kernel_rfl) (by kernel_rfl) (by kernel_rfl) (by kernel_rfl) (zle_nls c3 16) (by kernel_rfl) ?_
  refine st_loop (X := Int × (Nat → List Int) × (Nat → List Int) × (Nat → List Int)) (fun x => ⟨[(2, .ptr (2) (0) (0) (0)), (3, .ptr (3) (0) (0) (0)), (4, .ptr (4) (0) (0) (0)), (9, .ptr (9) (0) (0) (0)), (10, .i .i64 (x.fst))], [(2, ⟨0, 122, .var [.nl, .nl, .nl, .nl, .nl, .nl, .nl, .nl, .nl, .nl, .nl, .nl, .nl, .nl, .nl, .nl]⟩), (3, ⟨0, 120, .arr (tabC c3 (16:Nat) x.snd.fst)⟩), (4, ⟨0, 120, .arr (tabC c3 (16:Nat) x.snd.snd.fst)⟩), (9, ⟨0, 122, .arr (tabC c3 (16:Nat) x.snd.snd.snd)⟩)]⟩) (fun x ↦ decMd x.fst x.snd.fst x.snd.snd.fst x.snd.snd.snd) (fun x ↦ invMd A_1 B_2 x.fst x.snd.fst x.snd.snd.fst x.snd.snd.snd) [2, 3, 4, 9, 10] [2, 3, 4, 9] (((0:Int), A_1, B_2, fun x ↦ [])) (by kernel_rfl) (by kernel_rfl) (show invMd A_1 B_2 (0:Int) A_1 B_2 fun x ↦ [] from ?g17) ?_; rotate_left 1
  rintro ⟨r_33, A_34, B_35, S_36⟩ h_37
  obtain ⟨h_38, h_39, h_40, h_41, h_42⟩ : A_34 = A_1 ∧ B_35 = B_2 ∧ (0:Int) ≤ r_33 ∧ r_33 ≤ (16:Int) ∧ isMean (zT A_1 B_2) r_33 S_36 := h_37
  refine sq ?_
  refine sq ?_
  refine rg (A := (AV.b (decide (r_33 < (16:Int))) = AV.b (decide (r_33 < (16:Int))))) cx [(1, { tell := some (.b (decide (r_33 < (16:Int)))) })] [2, 3, 4, 9, 10, 102] [2, 3, 4, 9] (by kernel_rfl) ?_
  refine sn ?_
  refine st_dec (r_33 < (16:Int)) (by kernel_rfl) (by kernel_rfl) (fun h_43 => ?_) (fun h_43 => ?_)
  refine st_skip (by kernel_rfl) ?_
  refine sn (sq ?_)
  refine st_block 7 (by kernel_rfl) ?_
  have hl_44 := (rng_nrm (zipR (A_34 r_33.toNat) (B_35 r_33.toNat)))
  refine ra (A := ((0:Int) ≤ r_33) ∧ (r_33 < (↑(16:Nat):Int)) ∧ ((tabC c3 (16:Nat) A_34)[r_33.toNat * (1:Nat) + 0]? = some (AV.sl (List.map c3 (A_34 r_33.toNat)))) ∧ ((0:Int) ≤ r_33) ∧ (r_33 < (↑(16:Nat):Int)) ∧ ((tabC c3 (16:Nat) B_35)[r_33.toNat * (1:Nat) + 0]? = some (AV.sl (List.map c3 (B_35 r_33.toNat)))) ∧ _ ∧ ((0:Int) ≤ r_33) ∧ (r_33 < (↑(16:Nat):Int)) ∧ (r_33.toNat * (1:Nat) + 0 < (tabC c3 (16:Nat) S_36).length) ∧ (cellsA (AV.sl (List.map c3 (turnsR (nrm (zipR (A_34 r_33.toNat) (B_35 r_33.toNat)))))) = [(cellsA (AV.sl (List.map c3 (turnsR (nrm (zipR (A_34 r_33.toNat) (B_35 r_33.toNat))))))).headD AV.dead]) ∧ ((tabC c3 (16:Nat) S_36).set (r_33.toNat * (1:Nat) + 0) ((cellsA (AV.sl (List.map c3 (turnsR (nrm (zipR (A_34 r_33.toNat) (B_35 r_33.toNat))))))).headD AV.dead) = tabC c3 (16:Nat) (updF S_36 r_33.toNat (turnsR (nrm (zipR (A_34 r_33.toNat) (B_35 r_33.toNat))))))) cx [(3, { row := [.sl (List.map c3 (A_34 r_33.toNat))] }), (6, { row := [.sl (List.map c3 (B_35 r_33.toNat))] }), (7, { val := some (.sl (List.map c3 (turnsR (nrm (zipR (A_34 r_33.toNat) (B_35 r_33.toNat)))))) }), (10, { rows := some [(tabC c3 (16:Nat) (updF S_36 r_33.toNat (turnsR (nrm (zipR (A_34 r_33.toNat) (B_35 r_33.toNat))))))] })] [2, 3, 4, 9, 10] [2, 3, 4, 9] ⟨(by (with_reducible assumption)), (by omega), (by (simp only [Nat.mul_one, Nat.add_zero, Nat.zero_add]; with_reducible refine get_tabC ?_; omega)), (by (with_reducible assumption)), (by omega), (by (simp only [Nat.mul_one, Nat.add_zero, Nat.zero_add]; with_reducible refine get_tabC ?_; omega)), (con171 (A_34 r_33.toNat) (B_35 r_33.toNat) ?g18 ?g19), (by (with_reducible assumption)), (by omega), ?g20, (by kernel_rfl), (by (simp only [Nat.mul_one, Nat.add_zero, Nat.zero_add]; (with_reducible refine set_tabC' ?_); exact Eq.refl _))⟩ ?_; rotate_left 3
  refine q_blk_normal ?_
  refine sn ?_
  refine rg (A := (AV.i .i64 (IntKind.i64.wrap (r_33 + (1:Int))) = AV.i .i64 (r_33 + (1:Int)))) cx [(1, { tell := some (.i .i64 (r_33 + (1:Int))) })] [2, 3, 4, 9, 10] [2, 3, 4, 9] (told_i64 (by omega) (by omega)) ?_
  refine sn ?_
  refine loop_next ((r_33 + (1:Int), A_34, B_35, updF S_36 r_33.toNat (turnsR (nrm (zipR (A_34 r_33.toNat) (B_35 r_33.toNat)))))) (by kernel_rfl) (show ((16:Int) - (r_33 + (1:Int))).toNat < ((16:Int) - r_33).toNat from (by omega)) (show invMd A_1 B_2 (r_33 + (1:Int)) A_34 B_35 (updF S_36 r_33.toNat (turnsR (nrm (zipR (A_34 r_33.toNat) (B_35 r_33.toNat))))) from ?g21); rotate_left 1
  refine st_exit 6 (by kernel_rfl) ?_
  refine q_seq_exit ?_
  refine q_seq_exit ?_
  refine q_blk_hit ?_
  refine sn (sq ?_)
  refine rg (A := ((tabC c3 (16:Nat) S_36).length = (16:Nat))) cx [] [2] [2] (by kernel_rfl) ?_
  refine sn ?_
  refine st_ret (by kernel_rfl) ?_
  refine q_ret (r := .agg [.sl (List.map c3 (S_36 (0))), .sl (List.map c3 (S_36 (1))), .sl (List.map c3 (S_36 (2))), .sl (List.map c3 (S_36 (3))), .sl (List.map c3 (S_36 (4))), .sl (List.map c3 (S_36 (5))), .sl (List.map c3 (S_36 (6))), .sl (List.map c3 (S_36 (7))), .sl (List.map c3 (S_36 (8))), .sl (List.map c3 (S_36 (9))), .sl (List.map c3 (S_36 (10))), .sl (List.map c3 (S_36 (11))), .sl (List.map c3 (S_36 (12))), .sl (List.map c3 (S_36 (13))), .sl (List.map c3 (S_36 (14))), .sl (List.map c3 (S_36 (15)))]) (obl := []) (by kernel_rfl) trivial (AVle.eq (show AV.agg [AV.sl (List.map c3 (S_36 (0))), AV.sl (List.map c3 (S_36 (1))), AV.sl (List.map c3 (S_36 (2))), AV.sl (List.map c3 (S_36 (3))), AV.sl (List.map c3 (S_36 (4))), AV.sl (List.map c3 (S_36 (5))), AV.sl (List.map c3 (S_36 (6))), AV.sl (List.map c3 (S_36 (7))), AV.sl (List.map c3 (S_36 (8))), AV.sl (List.map c3 (S_36 (9))), AV.sl (List.map c3 (S_36 (10))), AV.sl (List.map c3 (S_36 (11))), AV.sl (List.map c3 (S_36 (12))), AV.sl (List.map c3 (S_36 (13))), AV.sl (List.map c3 (S_36 (14))), AV.sl (List.map c3 (S_36 (15)))] = AV.agg (c122 (tnS (nrmT (openT ps)))) from ?g22)); rotate_left 1
  rotate_left
  revert i_0 A_1 B_2 h_4 h_5 h_6 h_7 h_8; rotate_left
  revert i_0 A_1 B_2 h_4 h_5 h_6 h_7 h_8 j_9 A_10 B_11 h_13 h_14 h_15 h_16 h_17 h_20; rotate_left
  revert i_0 A_1 B_2 h_4 h_5 h_6 h_7 h_8 j_9 A_10 B_11 h_13 h_14 h_15 h_16 h_17 h_20; rotate_left
  revert i_0 A_1 B_2 h_4 h_5 h_6 h_7 h_8 j_9 A_10 B_11 h_13 h_14 h_15 h_16 h_17 h_20; rotate_left
  revert i_0 A_1 B_2 h_4 h_5 h_6 h_7 h_8 j_9 A_10 B_11 h_13 h_14 h_15 h_16 h_17 h_20; rotate_left
  revert i_0 A_1 B_2 h_4 h_5 h_6 h_7 h_8 j_9 A_10 B_11 h_13 h_14 h_15 h_16 h_17 h_20; rotate_left
  revert i_0 A_1 B_2 h_4 h_5 h_6 h_7 h_8 j_9 A_10 B_11 h_13 h_14 h_15 h_16 h_17 h_20; rotate_left
  revert i_0 A_1 B_2 h_4 h_5 h_6 h_7 h_8 j_9 A_10 B_11 h_13 h_14 h_15 h_16 h_17 h_20 j_21 A_22 B_23 h_25 h_26 h_27 h_28 h_29 h_32; rotate_left
  revert i_0 A_1 B_2 h_4 h_5 h_6 h_7 h_8 j_9 A_10 B_11 h_13 h_14 h_15 h_16 h_17 h_20 j_21 A_22 B_23 h_25 h_26 h_27 h_28 h_29 h_32; rotate_left
  revert i_0 A_1 B_2 h_4 h_5 h_6 h_7 h_8 j_9 A_10 B_11 h_13 h_14 h_15 h_16 h_17 h_20 j_21 A_22 B_23 h_25 h_26 h_27 h_28 h_29 h_32; rotate_left
  revert i_0 A_1 B_2 h_4 h_5 h_6 h_7 h_8 j_9 A_10 B_11 h_13 h_14 h_15 h_16 h_17 h_20 j_21 A_22 B_23 h_25 h_26 h_27 h_28 h_29 h_32; rotate_left
  revert i_0 A_1 B_2 h_4 h_5 h_6 h_7 h_8 j_9 A_10 B_11 h_13 h_14 h_15 h_16 h_17 h_20 j_21 A_22 B_23 h_25 h_26 h_27 h_28 h_29 h_32; rotate_left
  revert i_0 A_1 B_2 h_4 h_5 h_6 h_7 h_8 j_9 A_10 B_11 h_13 h_14 h_15 h_16 h_17 h_20 j_21 A_22 B_23 h_25 h_26 h_27 h_28 h_29 h_32; rotate_left
  revert i_0 A_1 B_2 h_4 h_5 h_6 h_7 h_8 j_9 A_10 B_11 h_13 h_14 h_15 h_16 h_17 h_20 j_21 A_22 B_23 h_25 h_26 h_27 h_28 h_29 h_32; rotate_left
  revert i_0 A_1 B_2 h_4 h_5 h_6 h_7 h_8 j_9 A_10 B_11 h_13 h_14 h_15 h_16 h_17 h_20 j_21 A_22 B_23 h_25 h_26 h_27 h_28 h_29 h_32; rotate_left
  revert i_0 A_1 B_2 h_4 h_5 h_6 h_7 h_8 j_9 A_10 B_11 h_13 h_14 h_15 h_16 h_17 h_20 j_21 A_22 B_23 h_25 h_26 h_27 h_28 h_29; rotate_left
  revert i_0 A_1 B_2 h_4 h_5 h_6 h_7 h_8; rotate_left
  clear hl_44; revert i_0 A_1 B_2 h_4 h_5 h_6 h_7 h_8 r_33 A_34 B_35 S_36 h_38 h_39 h_40 h_41 h_42 h_43; rotate_left
  clear hl_44; revert i_0 A_1 B_2 h_4 h_5 h_6 h_7 h_8 r_33 A_34 B_35 S_36 h_38 h_39 h_40 h_41 h_42 h_43; rotate_left
  clear hl_44; revert i_0 A_1 B_2 h_4 h_5 h_6 h_7 h_8 r_33 A_34 B_35 S_36 h_38 h_39 h_40 h_41 h_42 h_43; rotate_left
  clear hl_44; revert i_0 A_1 B_2 h_4 h_5 h_6 h_7 h_8 r_33 A_34 B_35 S_36 h_38 h_39 h_40 h_41 h_42 h_43; rotate_left
  revert i_0 A_1 B_2 h_4 h_5 h_6 h_7 h_8 r_33 A_34 B_35 S_36 h_38 h_39 h_40 h_41 h_42 h_43; rotate_left
  case g0 => exact ⟨by omega, by omega, fun r _ => rfl, fun r _ => rfl⟩
  case g1 => intro i A B h0 h1 h3 h4 h5; exact ⟨by omega, by omega, by omega, h3, openV_start h4⟩
  case g6 =>
    intro i A B h0 h1 h3 h4 h5 j X Y k0 k1 k2 k4 k5 k6
    exact ⟨by omega, by omega, by omega, isLen_upd k4, fun r hr => by rw [zT_upd (k4 _ (by omega))]; exact openV_next k0 k6.1 k5 r hr⟩
  case g7 => intro i A B h0 h1 h3 h4 h5 j X Y k0 k1 k2 k4 k5 k6; exact ⟨by omega, by omega, k4, openC_start (by omega) (by omega) k5⟩
  case g13 =>
    intro i A B h0 h1 h3 h4 h5 j X Y k0 k1 k2 k4 k5 k6 l V W m0 m1 m3 m4 m5 m6
    exact ⟨by omega, by omega, isLen_upd m3, fun r hr => by rw [zT_upd (m3 _ (by omega))]; exact openC_in m0 m5 m6 m4 r hr⟩
  case g15 => intro i A B h0 h1 h3 h4 h5 j X Y k0 k1 k2 k4 k5 k6 l V W m0 m1 m3 m4 m5 m6; exact ⟨by omega, by omega, m3, openC_out m0 m5 m6 m4⟩
  case g16 => intro i A B h0 h1 h3 h4 h5 j X Y k0 k1 k2 k4 k5 k6 l V W m0 m1 m3 m4 m5; exact ⟨by omega, by omega, m3, open_next h0 h5 m5 m4⟩
  case g17 => intro i A B h0 h1 h3 h4 h5; exact ⟨rfl, rfl, by omega, by omega, fun k hk => by omega⟩
  case g18 => intro i A B h0 h1 h3 h4 h5 r X Y S k0 k1 k2 k3 k4 k5; subst k0 k1; exact h3 _ (by omega)
  case g19 =>
    intro i A B h0 h1 h3 h4 h5 r X Y S k0 k1 k2 k3 k4 k5
    subst k0 k1
    have := zT_len h3 (r := r.toNat) (by omega)
    have := openT_len r.toNat (ps.take i.toNat)
    rw [h4 _ (by omega)] at *
    rw [List.take_of_length_le (by omega)] at *
    omega
  case g20 => intro i A B h0 h1 h3 h4 h5 r X Y S k0 k1 k2 k3 k4 k5; rw [tabC_len]; omega
  case g21 => intro i A B h0 h1 h3 h4 h5 r X Y S k0 k1 k2 k3 k4 k5; subst k0 k1; exact ⟨rfl, rfl, by omega, by omega, isMean_next k2 k4⟩
  case g22 =>
    intro i A B h0 h1 h3 h4 h5 r X Y S k0 k1 k2 k3 k4 k5
    congr 1
    show tabC c3 16 S = tabC c3 16 _
    unfold tabC
    refine List.map_congr_left fun q hq => ?_
    have hq : q < 16 := by simpa using hq
    rw [k4 q (by omega)]
    unfold tnS nrmT
    rw [h4 q hq, List.take_of_length_le (by omega)]
  all_goals
    intro i A B h0 h1 h3 h4 h5 j X Y k0 k1 k2 k4 k5 k6
    first
    | (have l1 := openV_len h0 h5 k5 (r := j.toNat) (by omega) (by omega)
       have l2 := zT_len k4 (r := j.toNat) (by omega)
       simp only [List.length_map, List.length_cons, List.length_nil, Go.maxLen]
       omega)
    | (intro l V W m0 m1 m3 m4 m5 m6
       have l0 := openC_len h0 h5 m0 m5 m4 (r := 0) (by omega)
       first
       | omega
       | (have l1 := openC_len h0 h5 m0 m5 m4 (r := ((ps[i.toNat]!).cloud[l.toNat]!).rep.toNat) (by omega)
          have l2 := zT_len m3 (r := ((ps[i.toNat]!).cloud[l.toNat]!).rep.toNat) (by omega)
          simp only [List.length_map, List.length_cons, List.length_nil, Go.maxLen]
          omega))
end Go.Proofs.YtaiepnaokhpmcaaGreat
