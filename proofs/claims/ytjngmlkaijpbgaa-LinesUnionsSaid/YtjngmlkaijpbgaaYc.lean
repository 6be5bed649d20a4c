/- Yc: the library's stable sort, whole: blocks of 20 by insertion, then merged by pairs. Conditions: what is asked of 'less' and of 'swap'; the order. -/
import Derived.Test.YtjngmlkaijpbgaaWa
import Derived.Test.YtjngmlkaijpbgaaES
import Derived.Test.YtjngmlkaijpbgaaET1
import Derived.Test.YtjngmlkaijpbgaaYa
import Derived.Test.YtjngmlkaijpbgaaYb
import Derived.WalkKit
import Derived.Shelf.SlSortFuncK.SWK
import Derived.Deep.Cut
import Derived.Deep.CutRange
import Derived.Deep.DeepCutAuto
set_option linter.unusedVariables false
set_option linter.unusedSimpArgs false
namespace Go.Proofs.Ytjngmlkaijpbgaa
open Go.E
set_option maxRecDepth 100000
set_option maxHeartbeats 4000000
set_option linter.unusedSectionVars false
open Go Go.Sort Go.RowKit Go.Lib Go.Shelf Go.Proofs
section
variable {α : Type} [Inhabited α] {enc : α → List Value} {k blk off : Nat}
section
variable {lt0 lt : α → α → Bool} {d d' dk : Array α} {a b c n B : Nat}
/-- The two orders agree on what lies behind c and what lies ahead of it. -/
def OB (lt0 lt : α → α → Bool) (n c : Nat) (d : Array α) : Prop := ∀ p q, p < c → c ≤ q → q < n → lt0 d[q]! d[p]! = lt d[q]! d[p]!
theorem OB.keep (h : PermIn a b d d') (hb : b ≤ d.size) (hc : c ≤ a ∨ b ≤ c) (ho : OB lt0 lt n c d) (hbn : b ≤ n) : OB lt0 lt n c d' := by
  intro p q h1 h2 h3
  rcases hc with hc | hc
  · rw [h.2.1 p (by omega)]
    by_cases hq : a ≤ q ∧ q < b
    · exact permIn_all d d' a b (fun x => lt0 x d[p]! = lt x d[p]!) hb h (fun i hi him => ho p i h1 (by omega) (by omega)) q hq.1 hq.2
    · rw [h.2.1 q (by omega)]; exact ho p q h1 h2 h3
  · rw [h.2.1 q (by omega)]
    by_cases hp : a ≤ p ∧ p < b
    · exact permIn_all d d' a b (fun x => lt0 d[q]! x = lt d[q]! x) hb h (fun i hi him => ho i q (by omega) h2 h3) p hp.1 hp.2
    · rw [h.2.1 p (by omega)]; exact ho p q h1 h2 h3
theorem dvd_le (h1 : B ∣ c) (h2 : B ∣ a) (h : c < a) : c + B ≤ a := by
  obtain ⟨x, rfl⟩ := h1
  obtain ⟨y, rfl⟩ := h2
  have hxy : x < y := by
    rcases Nat.lt_or_ge x y with h' | h'
    · exact h'
    · exact absurd h (Nat.not_lt.mpr (Nat.mul_le_mul_left B h'))
  calc B * x + B = B * (x + 1) := by rw [Nat.mul_add, Nat.mul_one]
    _ ≤ B * y := Nat.mul_le_mul_left B hxy
theorem dvd_two (h : 2 * B ∣ c) : B ∣ c := Nat.dvd_trans ⟨2, Nat.mul_comm 2 B⟩ h
/-- Every block of B places is sorted. -/
structure Blocks (lt0 lt : α → α → Bool) (B n : Nat) (d : Array α) : Prop where
  hi : ∀ c, B ∣ c → SortedIn lt c (min (c + B) n) d
  o : ∀ c, B ∣ c → OB lt0 lt n c d
/-- Within a pass: below a the blocks of 2 B are sorted, from a on those of B. -/
structure Pass (lt0 lt : α → α → Bool) (B n a : Nat) (d : Array α) : Prop where
  al : 2 * B ∣ a
  lo : ∀ c, 2 * B ∣ c → c < a → SortedIn lt c (c + 2 * B) d
  hi : ∀ c, B ∣ c → a ≤ c → SortedIn lt c (min (c + B) n) d
  o1 : ∀ c, 2 * B ∣ c → OB lt0 lt n c d
  o2 : ∀ c, B ∣ c → a ≤ c → OB lt0 lt n c d
theorem Blocks.start (h : Blocks lt0 lt B n d) : Pass lt0 lt B n 0 d := ⟨Nat.dvd_zero _, fun c _ h1 => absurd h1 (Nat.not_lt_zero c), fun c h1 _ => h.hi c h1, fun c h1 => h.o c (dvd_two h1), fun c h1 _ => h.o c h1⟩
theorem Pass.args (h : Pass lt0 lt B n a d) (hb : b ≤ n) (h1 : a + B < b) (h2 : b = a + 2 * B ∨ (b = n ∧ b ≤ a + 2 * B)) :
    (∀ p q, a ≤ p → p < a + B → a + B ≤ q → q < b → lt0 d[q]! d[p]! = lt d[q]! d[p]!) ∧ SortedIn lt a (a + B) d ∧ SortedIn lt (a + B) b d := by
  have hB : B ∣ a := dvd_two h.al
  have hB2 : B ∣ a + B := Nat.dvd_add hB (Nat.dvd_refl B)
  refine ⟨fun p q _ k2 k3 k4 => h.o2 (a + B) hB2 (by omega) p q k2 k3 (by omega), ?_, ?_⟩
  · have := h.hi a hB (Nat.le_refl _); rw [show min (a + B) n = a + B by omega] at this; exact this
  · have := h.hi (a + B) hB2 (by omega); rw [show min (a + B + B) n = b by omega] at this; exact this
theorem Pass.step (h : Pass lt0 lt B n a d) (hB : 0 < B) (hn : n = d.size) (hb : a + 2 * B ≤ n) (hp : PermIn a (a + 2 * B) d d') (hs : SortedIn lt a (a + 2 * B) d') : Pass lt0 lt B n (a + 2 * B) d' := by
  refine ⟨Nat.dvd_add h.al (Nat.dvd_refl _), fun c h1 h2 => ?_, fun c h1 h2 => ?_, fun c h1 => ?_, fun c h1 h2 => ?_⟩
  · rcases Nat.lt_or_ge c a with h3 | h3
    · have := dvd_le h1 h.al h3
      exact sorted_same (h.lo c h1 h3) fun i k1 k2 => hp.2.1 i (by omega)
    · have h4 : c = a := by
        rcases Nat.lt_or_ge a c with h5 | h5
        · have := dvd_le h.al h1 h5; omega
        · omega
      rw [h4]; exact hs
  · exact sorted_same (h.hi c h1 (by omega)) fun i k1 k2 => hp.2.1 i (by omega)
  · refine OB.keep hp (by omega) ?_ (h.o1 c h1) hb
    rcases Nat.lt_or_ge a c with h5 | h5
    · exact Or.inr (dvd_le h.al h1 h5)
    · exact Or.inl h5
  · exact OB.keep hp (by omega) (Or.inr h2) (h.o2 c h1 (by omega)) hb
theorem Pass.last (h : Pass lt0 lt B n a d) (hB : 0 < B) (hn : n = d.size) (ha : a ≤ n) (hb : n < a + 2 * B) (hp : PermIn a n d d') (hs : SortedIn lt a n d') : Blocks lt0 lt (2 * B) n d' := by
  refine ⟨fun c h1 => ?_, fun c h1 => ?_⟩
  · rcases Nat.lt_or_ge c a with h3 | h3
    · have := dvd_le h1 h.al h3
      rw [show min (c + 2 * B) n = c + 2 * B by omega]
      exact sorted_same (h.lo c h1 h3) fun i k1 k2 => hp.2.1 i (by omega)
    · rcases Nat.lt_or_ge a c with h5 | h5
      · have := dvd_le h.al h1 h5
        intro i j k1 k2 k3; omega
      · have h4 : c = a := by omega
        rw [h4, show min (a + 2 * B) n = n by omega]; exact hs
  · rcases Nat.lt_or_ge a c with h5 | h5
    · intro p q k1 k2 k3
      have := dvd_le h.al h1 h5
      omega
    · exact OB.keep hp (by omega) (Or.inl h5) (h.o1 c h1) (Nat.le_refl _)
theorem Pass.skip (h : Pass lt0 lt B n a d) (hb : n ≤ a + B) : SortedIn lt a n d := by
  have := h.hi a (dvd_two h.al) (Nat.le_refl _); rw [show min (a + B) n = n by omega] at this; exact this
theorem Blocks.all (h : Blocks lt0 lt B n d) (hb : n ≤ B) : SortedIn lt 0 n d := by
  have := h.hi 0 (Nat.dvd_zero _); rw [show min (0 + B) n = n by omega] at this; exact this
theorem insInner_perm (a i : Nat) : ∀ (j : Nat) (d : Array α), a ≤ j → j ≤ i → i < d.size → PermIn a (i + 1) d (insInner lt a j d)
  | 0, d, _, _, _ => permIn_refl d _ _
  | j + 1, d, h1, h2, h3 => by
    unfold insInner
    split
    · rename_i hc
      simp only [Bool.and_eq_true, decide_eq_true_eq] at hc
      exact permIn_trans _ _ _ a (i + 1) (swp_permIn d a (i + 1) (j + 1) j (by omega) (by omega) (by omega) (by omega) (by omega)) (insInner_perm a i j (swp d (j + 1) j) (by omega) (by omega) (by rw [Sort.size_swp]; exact h3))
    · exact permIn_refl d _ _
theorem insInner_agree (a : Nat) : ∀ (j : Nat) (d : Array α), j < d.size → (∀ p, a ≤ p → p < j → lt0 d[j]! d[p]! = lt d[j]! d[p]!) → insInner lt0 a j d = insInner lt a j d
  | 0, d, _, _ => rfl
  | j + 1, d, hj, h => by
    unfold insInner
    by_cases hc : a < j + 1
    · rw [h j (by omega) (by omega)]
      split
      · refine insInner_agree a j (swp d (j + 1) j) (by rw [Sort.size_swp]; omega) fun p h1 h2 => ?_
        rw [swp_get d (by omega) (by omega), swp_get d (by omega) (by omega)]
        rw [if_pos rfl, if_neg (by omega), if_neg (by omega)]
        exact h p h1 (by omega)
      · rfl
    · rw [if_neg (by simp; omega), if_neg (by simp; omega)]
theorem insOuter_agree (a b : Nat) : ∀ (m i : Nat) (d : Array α), b - i = m → a < i → b ≤ d.size → (∀ p q, a ≤ p → p < q → i ≤ q → q < b → lt0 d[q]! d[p]! = lt d[q]! d[p]!) → insOuter lt0 a b i d = insOuter lt a b i d
  | 0, i, d, hm, _, _, _ => by rw [insOuter_stop lt0 a b i d (by omega), insOuter_stop lt a b i d (by omega)]
  | m + 1, i, d, hm, hai, hb, h => by
    rw [insOuter_go lt0 a b i d (by omega), insOuter_go lt a b i d (by omega), insInner_agree a i d (by omega) (fun p h1 h2 => h p i h1 h2 (Nat.le_refl _) (by omega))]
    have hp : PermIn a (i + 1) d (insInner lt a i d) := insInner_perm a i i d (by omega) (Nat.le_refl _) (by omega)
    refine insOuter_agree a b m (i + 1) _ (by omega) (by omega) (by rw [hp.1]; exact hb) fun p q h1 h2 h3 h4 => ?_
    rw [hp.2.1 q (by omega)]
    by_cases hpi : p < i + 1
    · exact permIn_all d _ a (i + 1) (fun x => lt0 d[q]! x = lt d[q]! x) (by omega) hp (fun r k1 k2 => h r q k1 (by omega) (by omega) h4) p h1 hpi
    · rw [hp.2.1 p (by omega)]; exact h p q h1 h2 (by omega) h4
theorem insertion_agree (hb : b ≤ d.size) (h : ∀ p q, a ≤ p → p < q → q < b → lt0 d[q]! d[p]! = lt d[q]! d[p]!) : Sort.insertionSort lt0 d a b = Sort.insertionSort lt d a b :=
  insOuter_agree a b _ (a + 1) d rfl (by omega) hb fun p q h1 h2 _ h4 => h p q h1 h2 h4
/-- Within the first pass: below a the blocks are sorted, from a on nothing has been turned. -/
structure First (lt0 lt : α → α → Bool) (B a : Nat) (d dk : Array α) : Prop where
  sz : dk.size = d.size
  p : PermIn 0 d.size d dk
  al : B ∣ a
  lo : ∀ c, B ∣ c → c < a → SortedIn lt c (c + B) dk
  o : ∀ c, B ∣ c → OB lt0 lt d.size c dk
  same : ∀ q, a ≤ q → dk[q]! = d[q]!
theorem First.start (hord : ∀ p q, p < q → q < d.size → lt0 d[q]! d[p]! = lt d[q]! d[p]!) : First lt0 lt B 0 d d :=
  ⟨rfl, permIn_refl d _ _, Nat.dvd_zero _, fun c _ h => absurd h (Nat.not_lt_zero c), fun c _ p q h1 h2 h3 => hord p q (by omega) h3, fun _ _ => rfl⟩
theorem First.agree (h : First lt0 lt B a d dk) (hord : ∀ p q, p < q → q < d.size → lt0 d[q]! d[p]! = lt d[q]! d[p]!) (hb : b ≤ d.size) : Sort.insertionSort lt0 dk a b = Sort.insertionSort lt dk a b :=
  insertion_agree (by rw [h.sz]; exact hb) fun p q h1 h2 h3 => by rw [h.same p h1, h.same q (by omega)]; exact hord p q h2 (by omega)
theorem First.step (h : First lt0 lt B a d dk) (hO : SWO lt) (hB : 0 < B) (hb : a + B ≤ d.size) : First lt0 lt B (a + B) d (Sort.insertionSort lt dk a (a + B)) := by
  obtain ⟨hp, hs⟩ := insertionSort_holds hO dk a (a + B) (by omega) (by rw [h.sz]; exact hb)
  refine ⟨hp.1.trans h.sz, permIn_trans _ _ _ _ _ h.p (perm_mono (Nat.zero_le _) hb (by rw [h.sz]; exact Nat.le_refl _) hp), Nat.dvd_add h.al (Nat.dvd_refl _), fun c h1 h2 => ?_, fun c h1 => ?_, fun q hq => ?_⟩
  · rcases Nat.lt_or_ge c a with h3 | h3
    · have := dvd_le h1 h.al h3
      exact sorted_same (h.lo c h1 h3) fun i k1 k2 => hp.2.1 i (by omega)
    · have h4 : c = a := by
        rcases Nat.lt_or_ge a c with h5 | h5
        · have := dvd_le h.al h1 h5; omega
        · omega
      rw [h4]; exact hs
  · refine OB.keep hp (by rw [h.sz]; exact hb) ?_ (h.o c h1) hb
    rcases Nat.lt_or_ge a c with h5 | h5
    · exact Or.inr (dvd_le h.al h1 h5)
    · exact Or.inl h5
  · rw [hp.2.1 q (by omega)]; exact h.same q (by omega)
theorem First.last (h : First lt0 lt B a d dk) (hO : SWO lt) (hB : 0 < B) (ha : a ≤ d.size) (hb : d.size < a + B) : Blocks lt0 lt B d.size (Sort.insertionSort lt dk a d.size) ∧ PermIn 0 d.size d (Sort.insertionSort lt dk a d.size) := by
  obtain ⟨hp, hs⟩ := insertionSort_holds hO dk a d.size ha (by rw [h.sz]; exact Nat.le_refl _)
  refine ⟨⟨fun c h1 => ?_, fun c h1 => ?_⟩, permIn_trans _ _ _ _ _ h.p (perm_mono (Nat.zero_le _) (Nat.le_refl _) (by rw [h.sz]; exact Nat.le_refl _) hp)⟩
  · rcases Nat.lt_or_ge c a with h3 | h3
    · have := dvd_le h1 h.al h3
      rw [show min (c + B) d.size = c + B by omega]
      exact sorted_same (h.lo c h1 h3) fun i k1 k2 => hp.2.1 i (by omega)
    · rcases Nat.lt_or_ge a c with h5 | h5
      · have := dvd_le h.al h1 h5
        intro i j k1 k2 k3; omega
      · have h4 : c = a := by omega
        rw [h4, show min (a + B) d.size = d.size by omega]; exact hs
  · rcases Nat.lt_or_ge a c with h5 | h5
    · intro p q k1 k2 k3
      have := dvd_le h.al h1 h5
      omega
    · exact OB.keep hp (by rw [h.sz]; exact Nat.le_refl _) (Or.inl h5) (h.o c h1) (Nat.le_refl _)
end
set_option maxHeartbeats 8000000 in
theorem stable_walk (hk : ∀ x, (enc x).length = k) (lt0 lt : α → α → Bool) (hO : SWO lt) (g : Nat) (lb : Array Value) (sf : Nat) (sb : Array Value) (hg : Callable Try.prog g) (w0 : World) (d : Array α) (hless : LessAt g lb enc k lt0 blk off d.size w0) (hswap : SwapAt sf sb enc k blk off d.size) (hH : HoldsK enc k w0 blk off d) (hb : blk < w0.heap.size)
    (hsz : d.size < 1152921504606846976) (hord : ∀ p q, p < q → q < d.size → lt0 d[q]! d[p]! = lt d[q]! d[p]!) :
    Calls Try.prog 74 #[.agg #[.func (.func g) #[] lb, .func (.func sf) #[] sb], .int .i64 d.size] w0 fun e w' =>
      e = .returned (.tuple #[]) ∧ ∃ d', Fam enc k blk off w0 d' w' ∧ d'.size = d.size ∧ PermIn 0 d.size d d' ∧ SortedIn lt 0 d.size d' := by
  have HF := Box.mk (boxW_fam hH g lb sf sb)
  have hb1 : blk < (boxW w0 g lb sf sb).heap.size := by rw [boxW_size]; omega
  have HH := Box.mk (HF.out.holds hb hH rfl)
  have HS := Box.mk hswap
  have HL := Box.mk (hless.on hb HF.out rfl)
  have HO := Box.mk hord
  clear hswap hless hord
  generalize hn : d.size = n at hsz
  have HN := Box.mk hn
  clear hn
  go_enter Try.func74, Try.ntmps74
  go_wp2
  go_loopw [5, 6] (fun v5 v6 wr => ∃ (a : Nat) (dk : Array α), v5 = .int .i64 a ∧ v6 = .int .i64 ((a : Int) + 20) ∧ a ≤ n ∧ Box (Fam enc k blk off (boxW w0 g lb sf sb) dk wr) ∧ Box (First lt0 lt 20 a d dk)) (fun v5 _ _ => n - (intOf v5).toNat)
  case atStart => exact ⟨0, d, rfl, rfl, by omega, ⟨Fam.start HH.out⟩, ⟨First.start HO.out⟩⟩
  case round =>
    obtain ⟨a, dk, rfl, rfl, han, HW, HI⟩ := hrel
    have c := boxW_cell hb g lb sf sb HW.out
    have c0 := c.1
    have c1 := c.2
    clear c
    by_cases hfit : a + 20 ≤ n
    · have hc := insertion_walk hk lt0 g lb sf sb wr dk hg (by rw [HI.out.sz]; exact HL.out.on hb1 HW.out HI.out.sz) (by rw [HI.out.sz]; exact HS.out) (HW.out.holds hb1 HH.out HI.out.sz) (by have := HW.out.size; omega) a (a + 20) (by omega) (by rw [HI.out.sz, HN.out]; exact hfit) (by rw [HI.out.sz, HN.out]; omega)
      rw [show ((a + 20 : Nat) : Int) = (a : Int) + 20 by omega, HI.out.agree HO.out (by rw [HN.out]; exact hfit)] at hc
      have HQ := Box.mk hc
      have HI2 := Box.mk (HI.out.step hO (by omega) (by rw [HN.out]; exact hfit))
      clear hc
      go_wp2_with (go_at_call 102; refine HQ.out.mono ?_; rintro e w1 ⟨rfl, f1⟩; have FA := Box.mk (HW.out.trans hb1 f1 (HI2.out.sz.trans HI.out.sz.symm)); clear f1)
      go_roundw
      case rel => exact ⟨a + 20, _, by go_num, by go_num, hfit, FA, HI2⟩
      case measure => simp [intOf]; omega
    · have hc := insertion_walk hk lt0 g lb sf sb wr dk hg (by rw [HI.out.sz]; exact HL.out.on hb1 HW.out HI.out.sz) (by rw [HI.out.sz]; exact HS.out) (HW.out.holds hb1 HH.out HI.out.sz) (by have := HW.out.size; omega) a n han (by rw [HI.out.sz, HN.out]; exact Nat.le_refl _) (by rw [HI.out.sz, HN.out]; omega)
      rw [HI.out.agree HO.out (by rw [HN.out]; exact Nat.le_refl _)] at hc
      have HQ := Box.mk hc
      have HI2 := HI.out.last hO (by omega) (by rw [HN.out]; exact han) (by rw [HN.out]; omega)
      rw [HN.out] at HI2
      have HI3 := Box.mk HI2
      clear hc HI2
      go_wp2_with (go_at_call 102; refine HQ.out.mono ?_; rintro e w1 ⟨rfl, f1⟩; have FA := Box.mk (HW.out.trans hb1 f1 (by rw [HI3.out.2.1, HI.out.sz])); clear f1)
      go_loopw [4] (fun v4 wr => ∃ (B : Nat) (dj : Array α), v4 = .int .i64 B ∧ 0 < B ∧ (B ≤ 20 ∨ B < 2 * n) ∧ Box (Fam enc k blk off (boxW w0 g lb sf sb) dj wr) ∧ Box (dj.size = d.size) ∧ Box (Blocks lt0 lt B n dj ∧ PermIn 0 n d dj)) (fun v4 _ => n - (intOf v4).toNat)
      case atStart => exact ⟨20, _, rfl, by omega, by omega, FA, ⟨HI3.out.2.1⟩, HI3⟩
      case round =>
        obtain ⟨B, dj, rfl, hB0, hBn, FJ, SJ, HJ⟩ := hrel
        clear c0 c1
        by_cases hbn : B < n
        · go_wp2
          go_loopw [5, 6] (fun v5 v6 wr => ∃ (a : Nat) (dl : Array α), v5 = .int .i64 a ∧ v6 = .int .i64 ((a : Int) + 2 * B) ∧ a ≤ n ∧ Box (Fam enc k blk off (boxW w0 g lb sf sb) dl wr) ∧ Box (dl.size = d.size) ∧ Box (Pass lt0 lt B n a dl ∧ PermIn 0 n d dl)) (fun v5 _ _ => n - (intOf v5).toNat)
          case atStart => exact ⟨0, dj, rfl, by go_num, by omega, FJ, SJ, ⟨HJ.out.1.start, HJ.out.2⟩⟩
          case round =>
            obtain ⟨a, dl, rfl, rfl, han, FL, SL, HP⟩ := hrel
            have c := boxW_cell hb g lb sf sb FL.out
            have c0 := c.1
            have c1 := c.2
            clear c
            by_cases hfit : a + 2 * B ≤ n
            · have PG := HP.out.1.args (b := a + 2 * B) hfit (by omega) (Or.inl rfl)
              have hc := symMerge_walk hk lt0 lt hO g lb sf sb hg (2 * B) wr dl (by rw [SL.out]; exact HL.out.on hb1 FL.out SL.out) (by rw [SL.out]; exact HS.out) (FL.out.holds hb1 HH.out SL.out) (by have := FL.out.size; omega) a (a + B) (a + 2 * B) (by omega) (by omega) (by rw [SL.out, HN.out]; omega) (by rw [SL.out, HN.out]; omega) (by omega) PG.1 PG.2.1 PG.2.2
              rw [show ((a + B : Nat) : Int) = (a : Int) + B by omega, show ((a + 2 * B : Nat) : Int) = (a : Int) + 2 * B by omega] at hc
              have HQ := Box.mk hc
              clear hc PG
              go_wp2_with (go_at_call 103; refine HQ.out.mono ?_; rintro e w1 ⟨rfl, dM, f1, f2, f3, f4⟩; have FA := Box.mk (FL.out.trans hb1 f1 f2); have SA := Box.mk (f2.trans SL.out); have PA := Box.mk f3; have RA := Box.mk f4; clear f1 f2 f3 f4)
              go_roundw
              case rel =>
                exact ⟨a + 2 * B, dM, by go_num, by go_num, hfit, FA, SA, ⟨HP.out.1.step hB0 (by rw [SL.out, HN.out]) hfit PA.out RA.out, permIn_trans d dl dM _ _ HP.out.2 (perm_mono (by omega) hfit (by rw [SL.out, HN.out]; exact Nat.le_refl _) PA.out)⟩⟩
              case measure => simp [intOf]; omega
            · by_cases hmn : a + B < n
              · have PG := HP.out.1.args (b := n) (Nat.le_refl _) hmn (Or.inr ⟨rfl, by omega⟩)
                have hc := symMerge_walk hk lt0 lt hO g lb sf sb hg n wr dl (by rw [SL.out]; exact HL.out.on hb1 FL.out SL.out) (by rw [SL.out]; exact HS.out) (FL.out.holds hb1 HH.out SL.out) (by have := FL.out.size; omega) a (a + B) n (by omega) (by omega) (by rw [SL.out, HN.out]; omega) (by rw [SL.out, HN.out]; omega) (by omega) PG.1 PG.2.1 PG.2.2
                rw [show ((a + B : Nat) : Int) = (a : Int) + B by omega] at hc
                have HQ := Box.mk hc
                clear hc PG
                go_wp2_with (go_at_call 103; refine HQ.out.mono ?_; rintro e w1 ⟨rfl, dM, f1, f2, f3, f4⟩; have FA := Box.mk (FL.out.trans hb1 f1 f2); have SA := Box.mk (f2.trans SL.out); have PA := Box.mk f3; have RA := Box.mk f4; clear f1 f2 f3 f4)
                go_roundw
                case rel =>
                  exact ⟨2 * B, dM, by go_num, by omega, by omega, FA, SA, ⟨HP.out.1.last hB0 (by rw [SL.out, HN.out]) han (by omega) PA.out RA.out, permIn_trans d dl dM _ _ HP.out.2 (perm_mono (by omega) (Nat.le_refl _) (by rw [SL.out, HN.out]; exact Nat.le_refl _) PA.out)⟩⟩
                case measure => simp [intOf]; omega
              · go_wp2
                go_roundw
                case rel =>
                  exact ⟨2 * B, dl, by go_num, by omega, by omega, FL, SL, ⟨HP.out.1.last hB0 (by rw [SL.out, HN.out]) han (by omega) (permIn_refl dl _ _) (HP.out.1.skip (by omega)), HP.out.2⟩⟩
                case measure => simp [intOf]; omega
        · go_wp2
          go_end0
          exact ⟨rfl, dj, HF.out.trans hb FJ.out SJ.out, SJ.out.trans HN.out, HJ.out.2, HJ.out.1.all (by omega)⟩
end
end Go.Proofs.Ytjngmlkaijpbgaa
