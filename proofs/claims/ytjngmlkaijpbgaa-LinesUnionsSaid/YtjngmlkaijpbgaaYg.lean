/- Yg: sort.SliceStable as a call that puts a row of one's own into the stable order. Conditions: 'less' by its contract; the order; the types. -/
import Derived.Test.YtjngmlkaijpbgaaWa
import Derived.Test.YtjngmlkaijpbgaaES
import Derived.Test.YtjngmlkaijpbgaaET1
import Derived.Test.YtjngmlkaijpbgaaET2
import Derived.Test.YtjngmlkaijpbgaaYa
import Derived.Test.YtjngmlkaijpbgaaYb
import Derived.Test.YtjngmlkaijpbgaaYc
import Derived.Test.YtjngmlkaijpbgaaYd
import Derived.Test.YtjngmlkaijpbgaaYe
import Derived.Test.YtjngmlkaijpbgaaEP
import Derived.WalkKit
import Derived.Shelf.SlSortFuncK.SWK
import Derived.Lib.ReflectliteSlice
import Derived.Lib.ReflectliteSwap
import Derived.Laws.Externs
set_option linter.unusedVariables false
set_option linter.unusedSimpArgs false
namespace Go.Proofs.Ytjngmlkaijpbgaa
open Go.E
set_option maxRecDepth 100000
set_option maxHeartbeats 4000000
set_option linter.unusedSectionVars false
open Go Go.Sort Go.RowKit Go.Lib Go.Shelf Go.Proofs
section
variable {α : Type} [Inhabited α] {encA : α → List AV} {k blk : Nat}
def encV (encA : α → List AV) (x : α) : List Value := (encA x).map valA
theorem encV_flat (d : List α) : (d.map (encV encA)).flatten = ((d.map encA).flatten).map valA := by
  induction d with
  | nil => rfl
  | cons x d ih => simp only [List.map_cons, List.flatten_cons, List.map_append, ih, encV]
/-- 'less', bound to the variable that holds the row, by its contract. -/
theorem lessAt_con (hk : ∀ x, (encA x).length = k) (hp : ∀ x, ∀ a ∈ encA x, plainA a = true) (lt : α → α → Bool) (g : Nat)
    (hcon : ∀ (d : List α) (i j : Nat), i < d.length → j < d.length → Con Try.prog g [.i .i64 i, .i .i64 j, .eptr [.sl (d.map encA)]] (.b (lt d[i]! d[j]!)))
    {w : World} {gv n cap : Nat} (hgv : gv < w.heap.size) (hne : gv ≠ blk) (hb : blk < w.heap.size) (hc : w.cell? ⟨gv, 0, none⟩ = some (.slice (some ⟨blk, 0, none⟩) n cap)) (hn : n ≤ cap) (hm : n ≤ maxLen) (d0 : Array α) (hs0 : d0.size = n) (hH : HoldsK (encV encA) k w blk 0 d0) :
    LessAt g #[.pointer (some ⟨gv, 0, none⟩)] (encV encA) k lt blk 0 n w := by
  intro W dk hF hs i j hi hj
  have hkV : ∀ x, (encV encA x).length = k := fun x => by simp [encV, hk]
  have hHW : HoldsK (encV encA) k W blk 0 dk := hF.holds hb hH (by omega)
  have hsize := hF.size
  have hcW : W.cell? ⟨gv, 0, none⟩ = some (.slice (some ⟨blk, 0, none⟩) n cap) := by rw [hF.cell hgv hne]; exact hc
  have hlen : dk.toList.length = n := by simpa using hs
  have hrel : RelV0 (fun b => b < W.heap.size) W (.sl (dk.toList.map encA)) (.slice (some ⟨blk, 0, none⟩) n cap) := by
    have hl : (dk.toList.map encA).length = n := by simpa using hs
    have hel : ∀ j q, j < n → q < k → ∃ a, (encA dk[j]!)[q]? = some a ∧ plainA a = true ∧ (encV encA dk[j]!)[q]! = valA a := by
      intro j q hj hq
      have hq' : q < (encA dk[j]!).length := by rw [hk]; exact hq
      refine ⟨(encA dk[j]!)[q], List.getElem?_eq_getElem hq', hp _ _ (List.getElem_mem hq'), ?_⟩
      rw [getElem!_pos _ q (by rw [hkV]; exact hq)]
      simp [encV]
    have := RelV0.sl (S := fun b => b < W.heap.size) (w := W) (dk.toList.map encA) (some ⟨blk, 0, none⟩) cap k (fun j q => if j < n ∧ q < k then (encV encA dk[j]!)[q]! else .bool false) (by omega) (by omega) (fun h => by cases h)
      (fun r hr => by obtain ⟨x, _, rfl⟩ := List.mem_map.1 hr; exact hk x)
      (fun _ => ⟨⟨blk, 0, none⟩, rfl, by show blk < W.heap.size; omega, fun j q hj hq => by
        have := (hHW.cell (i := j) (c := q) (by omega) hq).1
        rw [if_pos ⟨by omega, hq⟩, ← this]
        congr 1
        simp [Addr.add]
        try (intros; omega)⟩)
      (fun j q => by
        split
        · rename_i h
          obtain ⟨a, _, h2, h3⟩ := hel j q h.1 h.2
          rw [h3]
          exact plain_one h2
        · rfl)
      (fun j q r a hr ha => by
        have hj : j < n := by have := lt_of_getElem? hr; omega
        rw [List.getElem?_map] at hr
        have e1 : dk.toList[j]? = some dk[j]! := by rw [Array.getElem?_toList, getElem?_pos dk j (by omega), getElem!_pos dk j (by omega)]
        rw [e1, Option.map_some, Option.some.injEq] at hr
        subst hr
        have hq : q < k := by have := lt_of_getElem? ha; rw [hk] at this; exact this
        rw [if_pos ⟨hj, hq⟩]
        obtain ⟨a', h1, h2, h3⟩ := hel j q hj hq
        rw [ha, Option.some.injEq] at h1
        subst h1
        rw [h3]
        exact plain_rel h2)
    rw [hl] at this
    exact this
  have hC := (hcon dk.toList i j (by omega) (by omega)).2 W (fun b => b < W.heap.size) [.int .i64 i, .int .i64 j, .pointer (some ⟨gv, 0, none⟩)] (fun _ h => h) rfl (fun q a u ha hu => by
    match q with
    | 0 => simp only [List.getElem?_cons_zero, Option.some.injEq] at ha hu; subst ha; subst hu; exact .i _ _
    | 1 => simp only [List.getElem?_cons_succ, List.getElem?_cons_zero, Option.some.injEq] at ha hu; subst ha; subst hu; exact .i _ _
    | 2 =>
      simp only [List.getElem?_cons_succ, List.getElem?_cons_zero, Option.some.injEq] at ha hu
      subst ha; subst hu
      refine .eptr _ ⟨gv, 0, none⟩ (fun _ => .slice (some ⟨blk, 0, none⟩) n cap) (by show gv < W.heap.size; omega) (fun q hq => ?_) (fun _ => rfl) (fun q a ha => ?_)
      · have : q = 0 := by simpa using hq
        subst this
        exact hcW
      · have : q = 0 := by have := lt_of_getElem? ha; simpa using this
        subst this
        simp only [List.getElem?_cons_zero, Option.some.injEq] at ha
        subst ha
        exact hrel
    | q + 3 => simp at ha)
  refine hC.mono ?_
  rintro e w' ⟨v, rfl, hr, hB⟩
  cases hr
  refine ⟨?_, hB⟩
  rw [← Array.getElem!_toList, ← Array.getElem!_toList]
theorem ioStable {t e : Nat} {fN : Nat → Nat} (hT : SortTy t e k fN) (hk : ∀ x, (encA x).length = k) (hp : ∀ x, ∀ a ∈ encA x, plainA a = true) (lt : α → α → Bool) (hO : SWO lt) (g : Nat) (hg : Callable Try.prog g) (hS : Callable Try.prog 55)
    (hcon : ∀ (d : List α) (i j : Nat), i < d.length → j < d.length → Con Try.prog g [.i .i64 i, .i .i64 j, .eptr [.sl (d.map encA)]] (.b (lt d[i]! d[j]!))) (d : List α) (hlen : d.length < 1152921504606846976) :
    IOCon Try.prog 55 g t true e k (d.map encA) ((d.mergeSort (fun x y => !lt y x)).map encA) := by
  have hkV : ∀ x, (encV encA x).length = k := fun x => by simp [encV, hk]
  have hone : ∀ x, ∀ v ∈ encV encA x, v.oneCell' = true := by
    intro x v hv
    obtain ⟨a, ha, rfl⟩ := List.mem_map.1 hv
    exact plain_one (hp x a ha)
  have hpl : ∀ l : List α, ∀ a ∈ (l.map encA).flatten, plainA a = true := by
    intro l a ha
    obtain ⟨r, hr, har⟩ := List.mem_flatten.1 ha
    obtain ⟨x, _, rfl⟩ := List.mem_map.1 hr
    exact hp x a har
  refine ⟨hS, by simp, fun r hr => ?_, hpl _, hpl _, fun w base v cv ho hcap => ?_⟩
  · obtain ⟨x, _, rfl⟩ := List.mem_map.1 hr; exact hk x
  · obtain ⟨gv, rfl, q1, q2, q3⟩ := hcap rfl
    simp only [if_true]
    rw [List.length_map] at ho ⊢
    rcases ho.2 with ⟨rfl, h0⟩ | ⟨b, cap, cur, rfl, hb, hh, h1, h2, h3, h4⟩
    · have : d = [] := List.eq_nil_of_length_eq_zero h0
      subst this
      refine (sliceStable_nil (enc := encV encA) hT lt hO hkV g #[.pointer (some ⟨gv, 0, none⟩)] hg w).mono ?_
      rintro e' w' ⟨rfl, hB⟩
      refine ⟨rfl, ⟨by simp, .inl ⟨rfl, rfl⟩⟩, fun j hj _ => hB.block j hj, hB.os, hB.tape, hB.output, hB.size⟩
    · have hbl : b < w.heap.size := (Array.getElem?_eq_some_iff.1 hh).1
      have hne : gv ≠ b := fun e => q3 (by rw [e]; rfl)
      have hHd : HoldsK (encV encA) k w b 0 d.toArray := holds_of_owns hkV ho (by simp) (by rw [← encV_flat])
      have hl := lessAt_con (blk := b) hk hp lt g hcon q1 hne hbl q2 h1 (by omega) d.toArray (by simp) hHd
      have hw := sliceStable_walk (blk := b) (off := 0) (enc := encV encA) hT hkV hone lt hO g #[.pointer (some ⟨gv, 0, none⟩)] hg cap d.toArray (by simp; omega) w (by simpa using hl) hHd hbl
      rw [show d.toArray.size = d.length by simp] at hw
      refine hw.mono ?_
      rintro e' w' ⟨rfl, hF⟩
      have f := hF.facts
      have ow := hF.owns hkV (stS_size lt d.toArray) (by rw [← encV_flat]) (by simp) ho
      refine ⟨rfl, ?_, fun j hj hjb => f.2.2.2 j hj (fun e => hjb (by rw [e]; rfl)), f.1, f.2.1, f.2.2.1, hF.size⟩
      rw [← encV_flat]
      exact ow
end
end Go.Proofs.Ytjngmlkaijpbgaa
