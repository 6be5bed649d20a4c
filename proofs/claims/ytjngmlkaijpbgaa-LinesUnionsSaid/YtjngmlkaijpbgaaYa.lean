/- Ya: the library's stable sort, piece by piece: what each function of it does to the row. Conditions: what is asked of 'less' and of 'swap'. -/
import Derived.Test.YtjngmlkaijpbgaaWa
import Derived.Test.YtjngmlkaijpbgaaES
import Derived.Test.YtjngmlkaijpbgaaET1
import Derived.WalkKit
import Derived.Shelf.SlSortFuncK.SWK
set_option linter.unusedVariables false
set_option linter.unusedSimpArgs false
namespace Go.Proofs.Ytjngmlkaijpbgaa
open Go.E
set_option maxRecDepth 100000
set_option maxHeartbeats 4000000
set_option linter.unusedSectionVars false
open Go Go.Sort Go.RowKit Go.Lib Go.Shelf Go.Proofs
section
variable {α : Type} [Inhabited α] {enc : α → List Value} {k blk off : Nat}
/-- What is asked of 'swap', at two places that are not one. -/
def SwapAt (sf : Nat) (sb : Array Value) (enc : α → List Value) (k blk off size : Nat) : Prop :=
  ∀ (W : World) (dk : Array α), HoldsK enc k W blk off dk → dk.size = size → ∀ i j : Nat, i < size → j < size → i ≠ j →
    (callFunc sf (#[.int .i64 i, .int .i64 j] ++ sb)).run Try.prog W = .ok (.value (.tuple #[])) ((W.setCells blk (off + i * k) (enc dk[j]!)).setCells blk (off + j * k) (enc dk[i]!))
def boxW (w : World) (g : Nat) (lb : Array Value) (sf : Nat) (sb : Array Value) : World := w.alloc (.cells #[.func (.func g) #[] lb, .func (.func sf) #[] sb] 96)
theorem boxW_size (w : World) (g : Nat) (lb : Array Value) (sf : Nat) (sb : Array Value) : (boxW w g lb sf sb).heap.size = w.heap.size + 1 := by simp [boxW]
theorem boxW_fam {w0 : World} {d : Array α} (hH : HoldsK enc k w0 blk off d) (g : Nat) (lb : Array Value) (sf : Nat) (sb : Array Value) : Fam enc k blk off w0 d (boxW w0 g lb sf sb) := (Fam.start hH).alloc _
theorem boxW_cell {w0 : World} (hb : blk < w0.heap.size) (g : Nat) (lb : Array Value) (sf : Nat) (sb : Array Value) {W : World} {d' : Array α} (h : Fam enc k blk off (boxW w0 g lb sf sb) d' W) :
    W.cell? ⟨w0.heap.size, 0, none⟩ = some (.func (.func g) #[] lb) ∧ W.cell? ⟨w0.heap.size, 1, none⟩ = some (.func (.func sf) #[] sb) := by
  constructor
  · rw [h.cell (by show w0.heap.size < _; rw [boxW_size]; omega) (by show w0.heap.size ≠ blk; omega)]; simp [boxW]
  · rw [h.cell (by show w0.heap.size < _; rw [boxW_size]; omega) (by show w0.heap.size ≠ blk; omega)]; simp [boxW]
set_option maxHeartbeats 4000000 in
theorem swapRange_walk (hk : ∀ x, (enc x).length = k) (g : Nat) (lb : Array Value) (sf : Nat) (sb : Array Value) (w0 : World) (d : Array α) (hswap : SwapAt sf sb enc k blk off d.size) (hH : HoldsK enc k w0 blk off d) (hb : blk < w0.heap.size)
    (a b n : Nat) (hab : a + n ≤ b) (hbn : b + n ≤ d.size) (hsz : d.size < 4611686018427387904) :
    Calls Try.prog 131 #[.agg #[.func (.func g) #[] lb, .func (.func sf) #[] sb], .int .i64 a, .int .i64 b, .int .i64 n] w0 fun e w' =>
      e = .returned (.tuple #[]) ∧ ∃ d', Fam enc k blk off w0 d' w' ∧ d'.size = d.size ∧ PermIn a (b + n) d d' ∧ ∀ j, d'[j]! = d[swIx a b n j]! := by
  have HF : Hid (Fam enc k blk off w0 d (boxW w0 g lb sf sb)) := boxW_fam hH g lb sf sb
  have hb1 : blk < (boxW w0 g lb sf sb).heap.size := by rw [boxW_size]; omega
  have HH : Hid (HoldsK enc k (boxW w0 g lb sf sb) blk off d) := HF.out.holds hb hH rfl
  have HS : Hid (SwapAt sf sb enc k blk off d.size) := hswap
  clear hswap
  go_enter Try.func131, Try.ntmps131
  go_wp2
  go_loopw [8] (fun v8 wr => ∃ (i : Nat) (dk : Array α), v8 = .int .i64 i ∧ i ≤ n ∧ Hid (dk.size = d.size ∧ Fam enc k blk off (boxW w0 g lb sf sb) dk wr ∧ PermIn a (b + n) d dk ∧ ∀ j, dk[j]! = d[swIx a b i j]!)) (fun v8 _ => n - (intOf v8).toNat)
  case atStart => exact ⟨0, d, by go_num, by omega, rfl, Fam.start HH.out, permIn_refl d _ _, fun j => by rw [swIx_zero]⟩
  case round =>
    obtain ⟨i, dk, rfl, hin, HI⟩ := hrel
    have c := (boxW_cell hb g lb sf sb HI.out.2.1).2
    go_wp2
    · have hlt : i < n := by omega
      have hs := HS.out wr dk (HI.out.2.1.holds hb1 HH.out HI.out.1) HI.out.1 (a + i) (b + i) (by omega) (by omega) (by omega)
      rw [show ((a + i : Nat) : Int) = (a : Int) + (i : Int) by omega, show ((b + i : Nat) : Int) = (b : Int) + (i : Int) by omega] at hs
      rw [hs, Oper.upon_value]
      clear hs
      go_wp2
      go_roundw
      case rel =>
        obtain ⟨e1, e2, e3, e4⟩ := HI.out
        exact ⟨i + 1, swp dk (a + i) (b + i), by go_num, by omega, by rw [Sort.size_swp]; exact e1, e2.swap hk hb1 _ _ (by omega) (by omega),
          permIn_trans d dk _ _ _ e3 (swp_permIn dk a (b + n) (a + i) (b + i) (by omega) (by omega) (by omega) (by omega) (by omega)), sw_step (by omega) (by omega) e1 e4⟩
      case measure => simp [intOf]; omega
    · go_end0
      obtain ⟨e1, e2, e3, e4⟩ := HI.out
      have hi : i = n := by omega
      exact ⟨rfl, dk, HF.out.trans hb e2 e1, e1, e3, fun j => by rw [e4 j, hi]⟩
set_option maxHeartbeats 4000000 in
theorem rotate_walk (hk : ∀ x, (enc x).length = k) (g : Nat) (lb : Array Value) (sf : Nat) (sb : Array Value) (w0 : World) (d : Array α) (hswap : SwapAt sf sb enc k blk off d.size) (hH : HoldsK enc k w0 blk off d) (hb : blk < w0.heap.size)
    (a m b : Nat) (ham : a < m) (hmb : m < b) (hbn : b ≤ d.size) (hsz : d.size < 4611686018427387904) :
    Calls Try.prog 122 #[.agg #[.func (.func g) #[] lb, .func (.func sf) #[] sb], .int .i64 a, .int .i64 m, .int .i64 b] w0 fun e w' =>
      e = .returned (.tuple #[]) ∧ ∃ d', Fam enc k blk off w0 d' w' ∧ d'.size = d.size ∧ PermIn a b d d' ∧ ∀ j, d'[j]! = d[rotIx a m b j]! := by
  have HF : Hid (Fam enc k blk off w0 d (boxW w0 g lb sf sb)) := boxW_fam hH g lb sf sb
  have hb1 : blk < (boxW w0 g lb sf sb).heap.size := by rw [boxW_size]; omega
  have HH : Hid (HoldsK enc k (boxW w0 g lb sf sb) blk off d) := HF.out.holds hb hH rfl
  have HS : Hid (SwapAt sf sb enc k blk off d.size) := hswap
  have u := run_underlying (P := Try.prog) (tab_ok 96 _ rfl).1
  clear hswap
  go_enter Try.func122, Try.ntmps122
  go_wp2
  go_loopw [8, 9] (fun v8 v9 wr => ∃ (i j : Nat) (dk : Array α), v8 = .int .i64 i ∧ v9 = .int .i64 j ∧ 0 < i ∧ 0 < j ∧ a + i ≤ m ∧ m + j ≤ b ∧ Hid (dk.size = d.size ∧ Fam enc k blk off (boxW w0 g lb sf sb) dk wr ∧ PermIn a b d dk ∧ ∀ q, dk[rotIx (m - i) m (m + j) q]! = d[rotIx a m b q]!)) (fun v8 v9 _ => (intOf v8).toNat + (intOf v9).toNat)
  case atStart =>
    refine ⟨m - a, b - m, d, by go_num, by go_num, by omega, by omega, by omega, by omega, rfl, Fam.start HH.out, permIn_refl d _ _, fun q => ?_⟩
    rw [show m - (m - a) = a by omega, show m + (b - m) = b by omega]
  case round =>
    obtain ⟨i, j, dk, rfl, rfl, hi0, hj0, hi, hj, HI⟩ := hrel
    have c := boxW_cell hb g lb sf sb HI.out.2.1
    have c0 := c.1
    have c1 := c.2
    clear c
    have hw := HI.out.2.1.size
    by_cases hij : i = j
    · subst hij
      have hc := swapRange_walk hk g lb sf sb wr dk (HI.out.1 ▸ HS.out) (HI.out.2.1.holds hb1 HH.out HI.out.1) (by omega) (m - i) m i (by omega) (by rw [HI.out.1]; omega) (by rw [HI.out.1]; omega)
      rw [show ((m - i : Nat) : Int) = (m : Int) - (i : Int) by omega] at hc
      have HC := Box.mk hc
      clear hc
      go_wp2_with (go_at_call 131; refine HC.out.mono ?_; rintro e w' ⟨rfl, d', f1, f2, f3, f4⟩)
      go_end0
      obtain ⟨e1, e2, e3, e4⟩ := HI.out
      exact ⟨rfl, d', HF.out.trans hb (e2.trans hb1 f1 (by rw [f2, e1])) (by rw [f2, e1]), by rw [f2, e1], permIn_trans d dk d' _ _ e3 (perm_mono (by omega) (by omega) (by omega) f3), fun q => by rw [f4 q, rot_same (by omega), e4 q]⟩
    · by_cases hlt : j < i
      · have hc := swapRange_walk hk g lb sf sb wr dk (HI.out.1 ▸ HS.out) (HI.out.2.1.holds hb1 HH.out HI.out.1) (by omega) (m - i) m j (by omega) (by rw [HI.out.1]; omega) (by rw [HI.out.1]; omega)
        rw [show ((m - i : Nat) : Int) = (m : Int) - (i : Int) by omega] at hc
        have HC := Box.mk hc
        clear hc
        go_wp2_with (go_at_call 131; refine HC.out.mono ?_; rintro e w' ⟨rfl, d', f1, f2, f3, f4⟩)
        go_roundw
        case rel =>
          obtain ⟨e1, e2, e3, e4⟩ := HI.out
          exact ⟨i - j, j, d', by go_num, rfl, by omega, by omega, by omega, by omega, by rw [f2, e1], e2.trans hb1 f1 (by rw [f2]), permIn_trans d dk d' _ _ e3 (perm_mono (by omega) (by omega) (by omega) f3), fun q => by rw [f4, rot_left (by omega) hj0 hlt, e4 q]⟩
        case measure => simp [intOf]; omega
      · have hc := swapRange_walk hk g lb sf sb wr dk (HI.out.1 ▸ HS.out) (HI.out.2.1.holds hb1 HH.out HI.out.1) (by omega) (m - i) (m + j - i) i (by omega) (by rw [HI.out.1]; omega) (by rw [HI.out.1]; omega)
        rw [show ((m - i : Nat) : Int) = (m : Int) - (i : Int) by omega, show ((m + j - i : Nat) : Int) = (m : Int) + (j : Int) - (i : Int) by omega] at hc
        have HC := Box.mk hc
        clear hc
        go_wp2_with (go_at_call 131; refine HC.out.mono ?_; rintro e w' ⟨rfl, d', f1, f2, f3, f4⟩)
        go_roundw
        case rel =>
          obtain ⟨e1, e2, e3, e4⟩ := HI.out
          exact ⟨i, j - i, d', rfl, by go_num, by omega, by omega, by omega, by omega, by rw [f2, e1], e2.trans hb1 f1 (by rw [f2]), permIn_trans d dk d' _ _ e3 (perm_mono (by omega) (by omega) (by omega) f3), fun q => by rw [f4, rot_right (by omega) hi0 (by omega), e4 q]⟩
        case measure => simp [intOf]; omega
/-- What is asked of 'less': it answers, and turns nothing that was there. -/
def LessAt (g : Nat) (lb : Array Value) (enc : α → List Value) (k : Nat) (lt : α → α → Bool) (blk off size : Nat) (w0 : World) : Prop :=
  ∀ (W : World) (dk : Array α), Fam enc k blk off w0 dk W → dk.size = size → ∀ i j : Nat, i < size → j < size →
    Calls Try.prog g (#[.int .i64 i, .int .i64 j] ++ lb) W fun e w' => e = .returned (.bool (lt dk[i]! dk[j]!)) ∧ Below W.heap.size W w'
theorem LessAt.on {g : Nat} {lb : Array Value} {lt : α → α → Bool} {size : Nat} {w0 W : World} {d : Array α} (h : LessAt g lb enc k lt blk off size w0) (hb : blk < w0.heap.size) (hF : Fam enc k blk off w0 d W) (hs : d.size = size) : LessAt g lb enc k lt blk off size W :=
  fun W' dk hF' hs' i j hi hj => h W' dk (hF.trans hb hF' (by omega)) hs' i j hi hj
set_option maxHeartbeats 4000000 in
theorem insertion_walk (hk : ∀ x, (enc x).length = k) (lt : α → α → Bool) (g : Nat) (lb : Array Value) (sf : Nat) (sb : Array Value) (w0 : World) (d : Array α) (hg : Callable Try.prog g) (hless : LessAt g lb enc k lt blk off d.size w0) (hswap : SwapAt sf sb enc k blk off d.size) (hH : HoldsK enc k w0 blk off d) (hb : blk < w0.heap.size)
    (a b : Nat) (hab : a ≤ b) (hbn : b ≤ d.size) (hsz : d.size < 4611686018427387904) :
    Calls Try.prog 102 #[.agg #[.func (.func g) #[] lb, .func (.func sf) #[] sb], .int .i64 a, .int .i64 b] w0 fun e w' =>
      e = .returned (.tuple #[]) ∧ Fam enc k blk off w0 (Sort.insertionSort lt d a b) w' := by
  have HF := Box.mk (boxW_fam hH g lb sf sb)
  have hb1 : blk < (boxW w0 g lb sf sb).heap.size := by rw [boxW_size]; omega
  have HH := Box.mk (HF.out.holds hb hH rfl)
  have HS := Box.mk hswap
  have HL := Box.mk (hless.on hb HF.out rfl)
  have eg : ∀ args w, (callFunc g args).run Try.prog w = .ok (.enter g args) w := fun args w => run_callFunc hg w
  clear hswap hless
  go_enter Try.func102, Try.ntmps102
  go_wp2
  go_loopw [6] (fun vi wr => ∃ (i : Nat) (dk : Array α), vi = .int .i64 i ∧ a < i ∧ i ≤ b + 1 ∧ dk.size = d.size ∧ Box (Fam enc k blk off (boxW w0 g lb sf sb) dk wr) ∧ Box (insOuter lt a b i dk = insOuter lt a b (a + 1) d)) (fun vi _ => b + 1 - (intOf vi).toNat)
  case atStart => exact ⟨a + 1, d, by go_num, by omega, by omega, rfl, ⟨Fam.start HH.out⟩, ⟨rfl⟩⟩
  case round =>
    obtain ⟨i, dk, rfl, hai, hib, hsk, HW, HO⟩ := hrel
    go_wp2
    · go_loopw [7] (fun vj wr2 => ∃ (j : Nat) (dj : Array α), vj = .int .i64 j ∧ a ≤ j ∧ j ≤ i ∧ dj.size = d.size ∧ Box (Fam enc k blk off (boxW w0 g lb sf sb) dj wr2) ∧ Box (insInner lt a j dj = insInner lt a i dk)) (fun vj _ => (intOf vj).toNat)
      case atStart => exact ⟨i, dk, rfl, by omega, Nat.le_refl _, hsk, HW, ⟨rfl⟩⟩
      case round =>
        obtain ⟨j, dj, rfl, haj, hji, hsj, HJ, HI⟩ := hrel
        have hlt : i < b := by assumption
        have c := boxW_cell hb g lb sf sb HJ.out
        have c0 := c.1
        have c1 := c.2
        clear c
        by_cases hja : a < j
        · have hl := HL.out wr dj HJ.out hsj j (j - 1) (by omega) (by omega)
          rw [show (((j - 1 : Nat) : Int)) = (j : Int) - 1 by omega] at hl
          cases hlv : lt dj[j]! dj[j - 1]! with
          | true =>
            rw [hlv] at hl
            have HQ := Box.mk hl
            clear hl
            go_wp2_with (go_at_fn g; refine HQ.out.mono ?_; rintro e w' ⟨rfl, hB⟩; have c2 := (boxW_cell hb g lb sf sb (HJ.out.below hB)).2; have FB := Box.mk (HJ.out.below hB); clear hB)
            have hs := HS.out w' dj (FB.out.holds hb1 HH.out hsj) hsj j (j - 1) (by omega) (by omega) (by omega)
            rw [show (((j - 1 : Nat) : Int)) = (j : Int) - 1 by omega] at hs
            rw [hs, Oper.upon_value]
            clear hs
            go_wp2
            go_roundw
            case rel =>
              (repeat apply Exists.intro)
              refine ⟨⟨j - 1, swp dj j (j - 1), by congr 1 <;> omega, by omega, by omega, by rw [Sort.size_swp]; exact hsj, ⟨FB.out.swap hk hb1 _ _ (by omega) (by omega)⟩, ⟨?_⟩⟩, by rw [decide_eq_true hlt, show ((j - 1 : Nat) : Int) = (j : Int) - 1 by omega]⟩
              rw [← HI.out, insInner_go lt a j dj hja hlv]
            case measure => simp [intOf]; omega
          | false =>
            rw [hlv] at hl
            have HQ := Box.mk hl
            clear hl
            go_wp2_with (go_at_fn g; refine HQ.out.mono ?_; rintro e w' ⟨rfl, hB⟩)
            go_roundw
            case rel => exact ⟨i + 1, dj, by go_num, by omega, by omega, hsj, ⟨HJ.out.below hB⟩, ⟨by rw [← HO.out, insOuter_go _ _ _ _ _ hlt, ← HI.out, insInner_stop _ _ _ _ (Or.inr hlv)]⟩⟩
            case measure => simp [intOf]; omega
        · go_wp2
          go_roundw
          case rel => exact ⟨i + 1, dj, by go_num, by omega, by omega, hsj, HJ, ⟨by rw [← HO.out, insOuter_go _ _ _ _ _ hlt, ← HI.out, insInner_stop _ _ _ _ (Or.inl (by omega))]⟩⟩
          case measure => simp [intOf]; omega
    · have hge : ¬ i < b := by omega
      go_end0
      exact ⟨rfl, by unfold Sort.insertionSort; rw [← HO.out, insOuter_stop _ _ _ _ _ hge]; exact HF.out.trans hb HW.out hsk⟩
end
end Go.Proofs.Ytjngmlkaijpbgaa
