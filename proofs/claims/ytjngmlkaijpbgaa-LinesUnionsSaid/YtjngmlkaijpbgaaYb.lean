/- Yb: the library's stable sort: symMerge puts two sorted runs into one. Conditions: what is asked of 'less' and of 'swap'; the order. -/
import Derived.Test.YtjngmlkaijpbgaaWa
import Derived.Test.YtjngmlkaijpbgaaES
import Derived.Test.YtjngmlkaijpbgaaET1
import Derived.Test.YtjngmlkaijpbgaaYa
import Derived.WalkKit
import Derived.Shelf.SlSortFuncK.SWK
import Derived.Deep.Cut
import Derived.Deep.CutRange
import Derived.Deep.DeepCutAuto
set_option linter.unusedVariables false
set_option linter.unusedSimpArgs false
namespace Go.Proofs.Ytjngmlkaijpbgaa
open Go.E
set_option maxRecDepth 100000
set_option maxHeartbeats 4000000
set_option linter.unusedSectionVars false
open Go Go.Sort Go.RowKit Go.Lib Go.Shelf Go.Proofs
section
variable {α : Type} [Inhabited α] {enc : α → List Value} {k blk off : Nat}
section
variable {lt0 lt : α → α → Bool} {d dA dB dC : Array α} {a m b start h h' : Nat}
theorem so_le (hO : SWO lt) (hs : SortedIn lt a b d) {i j : Nat} (h1 : a ≤ i) (h2 : i ≤ j) (h3 : j < b) : lt d[j]! d[i]! = false := by
  rcases Nat.lt_or_ge i j with h | h
  · exact hs i j h1 h h3
  · rw [show i = j by omega]; exact hO.irrefl _
theorem srA_t (hO : SWO lt) (hs : SortedIn lt m b d) {x : α} (h1 : h < b) (ht : lt d[h]! x = true) (h2 : m ≤ h') (h3 : h' ≤ h) : lt d[h']! x = true := by
  cases hc : lt d[h']! x with
  | true => rfl
  | false => rw [hO.ntrans _ _ _ (so_le hO hs h2 h3 h1) hc] at ht; cases ht
theorem srA_f (hO : SWO lt) (hs : SortedIn lt m b d) {x : α} (h1 : m ≤ h) (ht : lt d[h]! x = false) (h2 : h ≤ h') (h3 : h' < b) : lt d[h']! x = false := hO.ntrans _ _ _ (so_le hO hs h1 h2 h3) ht
theorem srB_f (hO : SWO lt) (hs : SortedIn lt a m d) {x : α} (h1 : h < m) (ht : lt x d[h]! = false) (h2 : a ≤ h') (h3 : h' ≤ h) : lt x d[h']! = false := hO.ntrans _ _ _ ht (so_le hO hs h2 h3 h1)
theorem srB_t (hO : SWO lt) (hs : SortedIn lt a m d) {x : α} (h1 : a ≤ h) (ht : lt x d[h]! = true) (h2 : h ≤ h') (h3 : h' < m) : lt x d[h']! = true := by
  cases hc : lt x d[h']! with
  | true => rfl
  | false => rw [hO.ntrans _ _ _ hc (so_le hO hs h1 h2 h3)] at ht; cases ht
theorem srC_f (hO : SWO lt) (hs1 : SortedIn lt a m d) (hs2 : SortedIn lt m b d) {p c c' : Nat} (hc : c < m) (hpc : m ≤ p - c) (ht : lt d[p - c]! d[c]! = false) (h2 : a ≤ c') (h3 : c' ≤ c) (h4 : p - c' < b) : lt d[p - c']! d[c']! = false :=
  hO.ntrans _ _ _ (hO.ntrans _ _ _ (so_le hO hs2 hpc (by omega) h4) ht) (so_le hO hs1 h2 h3 hc)
theorem srC_t (hO : SWO lt) (hs1 : SortedIn lt a m d) (hs2 : SortedIn lt m b d) {p c c' : Nat} (hc : a ≤ c) (hpc : p - c < b) (ht : lt d[p - c]! d[c]! = true) (h2 : c ≤ c') (h3 : c' < m) (h4 : m ≤ p - c') : lt d[p - c']! d[c']! = true := by
  cases hh : lt d[p - c']! d[c']! with
  | true => rfl
  | false => rw [hO.ntrans _ _ _ (hO.ntrans _ _ _ (so_le hO hs2 h4 (by omega) hpc) hh) (so_le hO hs1 hc h2 h3)] at ht; cases ht
theorem rotIx_id {a m b q : Nat} (h : a = m ∨ m = b) (h1 : a ≤ m) (h2 : m ≤ b) : rotIx a m b q = q := by
  unfold rotIx; rcases h with h | h
  · subst h; split
    · omega
    · rw [if_neg (by omega)]
  · subst h; rw [if_neg (by omega)]; split <;> omega
theorem ord_cut (ham : a < m) (hmb : m < b) (hC : Cut lt a m b start d) (hd : ∀ q, dA[q]! = d[rotIx start m ((a + b) / 2 + m - start) q]!) (ho : ∀ p q, a ≤ p → p < m → m ≤ q → q < b → lt0 d[q]! d[p]! = lt d[q]! d[p]!) :
    (∀ p q, a ≤ p → p < start → start ≤ q → q < (a + b) / 2 → lt0 dA[q]! dA[p]! = lt dA[q]! dA[p]!) ∧ (∀ p q, (a + b) / 2 ≤ p → p < (a + b) / 2 + m - start → (a + b) / 2 + m - start ≤ q → q < b → lt0 dA[q]! dA[p]! = lt dA[q]! dA[p]!) := by
  obtain ⟨c1, c2, c3, c4, c5, c6⟩ := hC
  clear c5 c6
  constructor
  · intro p q h1 h2 h3 h4
    rw [hd p, hd q]
    have e1 : rotIx start m ((a + b) / 2 + m - start) p = p := by unfold rotIx; rw [if_neg (by omega), if_neg (by omega)]
    have e2 : rotIx start m ((a + b) / 2 + m - start) q = q - start + m := by unfold rotIx; rw [if_pos (by omega)]
    rw [e1, e2]
    exact ho _ _ h1 (by omega) (by omega) (by omega)
  · intro p q h1 h2 h3 h4
    rw [hd p, hd q]
    have e1 : rotIx start m ((a + b) / 2 + m - start) p = p - ((a + b) / 2 + m - start - m) := by unfold rotIx; rw [if_neg (by omega), if_pos (by omega)]
    have e2 : rotIx start m ((a + b) / 2 + m - start) q = q := by unfold rotIx; rw [if_neg (by omega), if_neg (by omega)]
    rw [e1, e2]
    exact ho _ _ (by omega) (by omega) (by omega) (by omega)
theorem ord_keep {mid e : Nat} (h : PermIn a mid dA dB) (ho : ∀ p q, mid ≤ p → p < e → e ≤ q → q < b → lt0 dA[q]! dA[p]! = lt dA[q]! dA[p]!) : ∀ p q, mid ≤ p → p < e → e ≤ q → q < b → lt0 dB[q]! dB[p]! = lt dB[q]! dB[p]! := by
  intro p q h1 h2 h3 h4
  rw [h.2.1 p (by omega), h.2.1 q (by omega)]; exact ho p q h1 h2 h3 h4
theorem sorted_keep {mid e f : Nat} (h : PermIn a mid dA dB) (hm : mid ≤ e) (hs : SortedIn lt e f dA) : SortedIn lt e f dB := sorted_same hs fun i h1 h2 => h.2.1 i (by omega)
theorem sym_end {mid : Nat} (ham : a ≤ mid) (hmb : mid ≤ b) (hb : b ≤ d.size) (hA : PermIn a b d dA) (hx : ∀ p q, a ≤ p → p < mid → mid ≤ q → q < b → lt dA[q]! dA[p]! = false) (hB : PermIn a mid dA dB) (hBs : SortedIn lt a mid dB)
    (hC : PermIn mid b dB dC) (hCs : SortedIn lt mid b dC) : PermIn a b d dC ∧ SortedIn lt a b dC := by
  have sA : dA.size = d.size := hA.1
  have sB : dB.size = dA.size := hB.1
  refine ⟨permIn_trans d dA dC _ _ hA (permIn_trans dA dB dC _ _ (perm_mono (Nat.le_refl _) hmb (by omega) hB) (perm_mono ham (Nat.le_refl _) (by omega) hC)), ?_⟩
  exact sorted_halves (sorted_same hBs fun i h1 h2 => hC.2.1 i (by omega)) hCs (cross_perm' ham hmb (by omega) hC (cross_perm ham hmb (by omega) hB hx))
end
set_option maxHeartbeats 8000000 in
theorem symMerge_walk (hk : ∀ x, (enc x).length = k) (lt0 lt : α → α → Bool) (hO : SWO lt) (g : Nat) (lb : Array Value) (sf : Nat) (sb : Array Value) (hg : Callable Try.prog g) : ∀ (n : Nat) (w0 : World) (d : Array α) (hless : LessAt g lb enc k lt0 blk off d.size w0) (hswap : SwapAt sf sb enc k blk off d.size) (hH : HoldsK enc k w0 blk off d) (hb : blk < w0.heap.size)
    (a m b : Nat) (ham : a < m) (hmb : m < b) (hbn : b ≤ d.size) (hsz : d.size < 4611686018427387904) (hn : b - a ≤ n)
    (hord : ∀ p q, a ≤ p → p < m → m ≤ q → q < b → lt0 d[q]! d[p]! = lt d[q]! d[p]!) (hs1 : SortedIn lt a m d) (hs2 : SortedIn lt m b d),
    Calls Try.prog 103 #[.agg #[.func (.func g) #[] lb, .func (.func sf) #[] sb], .int .i64 a, .int .i64 m, .int .i64 b] w0 fun e w' =>
      e = .returned (.tuple #[]) ∧ ∃ d', Fam enc k blk off w0 d' w' ∧ d'.size = d.size ∧ PermIn a b d d' ∧ SortedIn lt a b d' := by
  intro n
  induction n with
  | zero => intros; omega
  | succ n ih =>
  intro w0 d hless hswap hH hb a m b ham hmb hbn hsz hn hord hs1 hs2
  have HF := Box.mk (boxW_fam hH g lb sf sb)
  have hb1 : blk < (boxW w0 g lb sf sb).heap.size := by rw [boxW_size]; omega
  have HH := Box.mk (HF.out.holds hb hH rfl)
  have HS := Box.mk hswap
  have HL := Box.mk (hless.on hb HF.out rfl)
  have HO := Box.mk hord
  have H1 := Box.mk hs1
  have H2 := Box.mk hs2
  have IH := Box.mk ih
  have eg : ∀ args w, (callFunc g args).run Try.prog w = .ok (.enter g args) w := fun args w => run_callFunc hg w
  clear hswap hless hord hs1 hs2 ih
  by_cases hone : m = a + 1
  · have hone1 : (m : Int) - a = 1 := by omega
    have hma1 : m ≤ a + 1 := by omega
    have HM := Box.mk hone
    clear hone
    go_enter Try.func103, Try.ntmps103
    go_wp2
    clear hone1
    go_loopw [8, 9] (fun v8 v9 wr => ∃ (i j : Nat), v8 = .int .i64 i ∧ v9 = .int .i64 j ∧ m ≤ i ∧ i ≤ j ∧ j ≤ b ∧ Box (Fam enc k blk off (boxW w0 g lb sf sb) d wr) ∧ Box ((∀ h, m ≤ h → h < i → lt d[h]! d[a]! = true) ∧ (∀ h, j ≤ h → h < b → lt d[h]! d[a]! = false))) (fun v8 v9 _ => (intOf v9).toNat - (intOf v8).toNat)
    case atStart => exact ⟨m, b, rfl, rfl, by omega, by omega, by omega, ⟨Fam.start HH.out⟩, ⟨fun h h1 h2 => by omega, fun h h1 h2 => by omega⟩⟩
    case round =>
      obtain ⟨i, j, rfl, rfl, hai, hij, hjb, HW, HI⟩ := hrel
      have c := boxW_cell hb g lb sf sb HW.out
      have c0 := c.1
      have c1 := c.2
      clear c
      by_cases hlt : i < j
      · have hl := HL.out wr d HW.out rfl ((i + j) / 2) a (by omega) (by omega)
        have ho := HO.out a ((i + j) / 2) (by omega) (by omega) (by omega) (by omega)
        cases hlv : lt d[(i + j) / 2]! d[a]! with
        | true =>
          rw [ho, hlv] at hl
          clear ho
          have HQ := Box.mk hl
          clear hl
          go_wp2_with (go_at_fn g; refine HQ.out.mono ?_; rintro e w' ⟨rfl, hB⟩; have FB := Box.mk (HW.out.below hB); clear hB)
          go_roundw
          case rel => exact ⟨(i + j) / 2 + 1, j, by go_num, rfl, by omega, by omega, by omega, FB, ⟨fun h h1 h2 => srA_t hO H2.out (by omega) hlv h1 (by omega), HI.out.2⟩⟩
          case measure => simp [intOf]; omega
        | false =>
          rw [ho, hlv] at hl
          clear ho
          have HQ := Box.mk hl
          clear hl
          go_wp2_with (go_at_fn g; refine HQ.out.mono ?_; rintro e w' ⟨rfl, hB⟩; have FB := Box.mk (HW.out.below hB); clear hB)
          go_roundw
          case rel => exact ⟨i, (i + j) / 2, rfl, by go_num, by omega, by omega, by omega, FB, ⟨HI.out.1, fun h h1 h2 => srA_f hO H2.out (by omega) hlv h1 h2⟩⟩
          case measure => simp [intOf]; omega
      · obtain rfl : i = j := by omega
        go_wp2
        go_loopw [11] (fun v11 wz => ∃ (c : Nat) (dk : Array α), v11 = .int .i64 c ∧ a ≤ c ∧ c + 1 ≤ i ∧ dk.size = d.size ∧ Box (Fam enc k blk off (boxW w0 g lb sf sb) dk wz) ∧ Box (PermIn a b d dk ∧ ∀ q, dk[q]! = d[rotIx a (a + 1) (c + 1) q]!)) (fun v11 _ => i - (intOf v11).toNat)
        case atStart => exact ⟨a, d, rfl, by omega, by omega, rfl, HW, ⟨permIn_refl d _ _, fun q => by rw [rotIx_one]⟩⟩
        case round =>
          obtain ⟨c, dk, rfl, hac, hci, hsk, HK, HD⟩ := hrel
          have c1' := (boxW_cell hb g lb sf sb HK.out).2
          clear c0 c1
          by_cases hend : c + 1 < i
          · have hs := HS.out wr dk (HK.out.holds hb1 HH.out hsk) hsk c (c + 1) (by omega) (by omega) (by omega)
            rw [show ((c + 1 : Nat) : Int) = (c : Int) + 1 by omega] at hs
            have hend1 : (c : Int) < (i : Int) - 1 := by omega
            go_wp2
            go_roundw
            case rel =>
              exact ⟨c + 1, swp dk c (c + 1), by go_num, by omega, by omega, by rw [Sort.size_swp]; exact hsk, ⟨HK.out.swap hk hb1 _ _ (by omega) (by omega)⟩,
                ⟨permIn_trans d dk _ _ _ HD.out.1 (swp_permIn dk a b c (c + 1) (by omega) (by omega) (by omega) (by omega) (by omega)), up_step hac (by omega) hsk HD.out.2⟩⟩
            case measure => simp [intOf]; omega
          · obtain rfl : i = c + 1 := by omega
            have hend1 : ¬ (c : Int) < ((c + 1 : Nat) : Int) - 1 := by omega
            go_wp2
            (try simp only [Exit.inBlock, Exit.then]); refine bodyPost_ret (results_none rfl _ _ _) rfl ?_
            obtain rfl := HM.out
            exact ⟨rfl, dk, HF.out.trans hb HK.out hsk, hsk, HD.out.1, merge_one_left hO H2.out (by omega) (by omega) (fun h h1 h2 => HI.out.1 h h1 h2) (fun h h1 h2 => HI.out.2 h h1 h2) HD.out.2⟩
  · by_cases hlast : b = m + 1
    · have hone1 : (b : Int) - m = 1 := by omega
      have hone0 : ¬ (m : Int) - a = 1 := by omega
      have hma1 : b ≤ m + 1 := by omega
      have hma2 : a + 2 ≤ m := by omega
      have HM := Box.mk hlast
      clear hlast hone
      go_enter Try.func103, Try.ntmps103
      go_wp2
      clear hone1 hone0
      have hx : ((m : Int) - a == 1) = false := beq_false_of_ne (by omega)
      try simp only [hx]
      clear hx
      go_loopw [12, 13] (fun v8 v9 wr => ∃ (i j : Nat), v8 = .int .i64 i ∧ v9 = .int .i64 j ∧ a ≤ i ∧ i ≤ j ∧ j ≤ m ∧ Box (Fam enc k blk off (boxW w0 g lb sf sb) d wr) ∧ Box ((∀ h, a ≤ h → h < i → lt d[m]! d[h]! = false) ∧ (∀ h, j ≤ h → h < m → lt d[m]! d[h]! = true))) (fun v8 v9 _ => (intOf v9).toNat - (intOf v8).toNat)
      case atStart => exact ⟨a, m, rfl, rfl, by omega, by omega, by omega, ⟨Fam.start HH.out⟩, ⟨fun h h1 h2 => by omega, fun h h1 h2 => by omega⟩⟩
      case round =>
        obtain ⟨i, j, rfl, rfl, hai, hij, hjb, HW, HI⟩ := hrel
        have c := boxW_cell hb g lb sf sb HW.out
        have c0 := c.1
        have c1 := c.2
        clear c
        by_cases hlt : i < j
        · have hl := HL.out wr d HW.out rfl m ((i + j) / 2) (by omega) (by omega)
          have ho := HO.out ((i + j) / 2) m (by omega) (by omega) (by omega) (by omega)
          cases hlv : lt d[m]! d[(i + j) / 2]! with
          | false =>
            rw [ho, hlv] at hl
            clear ho
            have HQ := Box.mk hl
            clear hl
            go_wp2_with (go_at_fn g; refine HQ.out.mono ?_; rintro e w' ⟨rfl, hB⟩; have FB := Box.mk (HW.out.below hB); clear hB)
            go_roundw
            case rel => exact ⟨(i + j) / 2 + 1, j, by go_num, rfl, by omega, by omega, by omega, FB, ⟨fun h h1 h2 => srB_f hO H1.out (by omega) hlv h1 (by omega), HI.out.2⟩⟩
            case measure => simp [intOf]; omega
          | true =>
            rw [ho, hlv] at hl
            clear ho
            have HQ := Box.mk hl
            clear hl
            go_wp2_with (go_at_fn g; refine HQ.out.mono ?_; rintro e w' ⟨rfl, hB⟩; have FB := Box.mk (HW.out.below hB); clear hB)
            go_roundw
            case rel => exact ⟨i, (i + j) / 2, rfl, by go_num, by omega, by omega, by omega, FB, ⟨HI.out.1, fun h h1 h2 => srB_t hO H1.out (by omega) hlv h1 h2⟩⟩
            case measure => simp [intOf]; omega
        · obtain rfl : i = j := by omega
          go_wp2
          go_loopw [15] (fun v11 wz => ∃ (c : Nat) (dk : Array α), v11 = .int .i64 c ∧ i ≤ c ∧ c ≤ m ∧ dk.size = d.size ∧ Box (Fam enc k blk off (boxW w0 g lb sf sb) dk wz) ∧ Box (PermIn a b d dk ∧ ∀ q, dk[q]! = d[rotIx c m (m + 1) q]!)) (fun v11 _ => (intOf v11).toNat - i)
          case atStart => exact ⟨m, d, rfl, by omega, by omega, rfl, HW, ⟨permIn_refl d _ _, fun q => by rw [rotIx_end]⟩⟩
          case round =>
            obtain ⟨c, dk, rfl, hac, hci, hsk, HK, HD⟩ := hrel
            have c1' := (boxW_cell hb g lb sf sb HK.out).2
            clear c0 c1
            by_cases hend : i < c
            · have hs := HS.out wr dk (HK.out.holds hb1 HH.out hsk) hsk c (c - 1) (by omega) (by omega) (by omega)
              rw [show ((c - 1 : Nat) : Int) = (c : Int) - 1 by omega] at hs
              go_wp2
              go_roundw
              case rel =>
                have hd := down_step (d := d) (dk := dk) (c := c - 1) (m := m) (by omega) (by omega) hsk
                rw [show c - 1 + 1 = c by omega] at hd
                exact ⟨c - 1, swp dk c (c - 1), by go_num, by omega, by omega, by rw [Sort.size_swp]; exact hsk, ⟨HK.out.swap hk hb1 _ _ (by omega) (by omega)⟩,
                  ⟨permIn_trans d dk _ _ _ HD.out.1 (swp_permIn dk a b c (c - 1) (by omega) (by omega) (by omega) (by omega) (by omega)), hd HD.out.2⟩⟩
              case measure => simp [intOf]; omega
            · obtain rfl : i = c := by omega
              go_wp2
              (try simp only [Exit.inBlock, Exit.then]); refine bodyPost_ret (results_none rfl _ _ _) rfl ?_
              obtain rfl := HM.out
              exact ⟨rfl, dk, HF.out.trans hb HK.out hsk, hsk, HD.out.1, merge_one_right hO H1.out (by omega) (by omega) (fun h h1 h2 => HI.out.1 h h1 h2) (fun h h1 h2 => HI.out.2 h h1 h2) HD.out.2⟩
    · have hone1 : ¬ (b : Int) - m = 1 := by omega
      have hone0 : ¬ (m : Int) - a = 1 := by omega
      clear hlast hone
      have hmid1 : 2 * ((a + b) / 2) ≤ a + b := by omega
      have hmid2 : a + b ≤ 2 * ((a + b) / 2) + 1 := by omega
      go_enter Try.func103, Try.ntmps103
      go_upto_if 106 with fail
      go_cut [18, 19] (fun s18 s19 wx => wx = boxW w0 g lb sf sb ∧ ∃ s0 r0 : Nat, s18 = .int .i64 s0 ∧ s19 = .int .i64 r0 ∧ a ≤ s0 ∧ (a + b) / 2 + m ≤ b + s0 ∧ (s0 = a ∨ s0 + b = (a + b) / 2 + m) ∧ r0 ≤ m ∧ r0 ≤ (a + b) / 2 ∧ (r0 = m ∨ r0 = (a + b) / 2) ∧ s0 ≤ r0)
      case first =>
        by_cases hm : (a + b) / 2 < m
        · go_wp2
          go_meet
          case rel => exact ⟨rfl, (a + b) / 2 + m - b, (a + b) / 2, by go_num, by go_num, by omega, by omega, by omega, by omega, by omega, by omega, by omega⟩
        · go_wp2
          go_meet
          case rel => exact ⟨rfl, a, m, by go_num, by go_num, by omega, by omega, by omega, by omega, by omega, by omega, by omega⟩
      case rest =>
        obtain ⟨rfl, s0, r0, rfl, rfl, g1, g2, g3, g4, g5, g6, g7⟩ := hcut
        go_wp2
        clear hone0 hone1
        go_loopw [18, 19] (fun v8 v9 wr => ∃ (i j : Nat), v8 = .int .i64 i ∧ v9 = .int .i64 j ∧ s0 ≤ i ∧ i ≤ j ∧ j ≤ r0 ∧ Box (Fam enc k blk off (boxW w0 g lb sf sb) d wr) ∧ Box ((∀ c, a ≤ c → (a + b) / 2 + m ≤ b + c → c < i → lt d[(a + b) / 2 + m - 1 - c]! d[c]! = false) ∧ (∀ c, j ≤ c → c < m → c < (a + b) / 2 → lt d[(a + b) / 2 + m - 1 - c]! d[c]! = true))) (fun v8 v9 _ => (intOf v9).toNat - (intOf v8).toNat)
        case atStart => exact ⟨s0, r0, rfl, rfl, by omega, by omega, by omega, ⟨Fam.start HH.out⟩, ⟨fun h h1 h2 h3 => by omega, fun h h1 h2 h3 => by omega⟩⟩
        case round =>
          obtain ⟨i, j, rfl, rfl, hai, hij, hjb, HW, HI⟩ := hrel
          by_cases hlt : i < j
          · have c := boxW_cell hb g lb sf sb HW.out
            have c0 := c.1
            have c1 := c.2
            clear c
            have hl := HL.out wr d HW.out rfl ((a + b) / 2 + m - 1 - (i + j) / 2) ((i + j) / 2) (by omega) (by omega)
            have ho := HO.out ((i + j) / 2) ((a + b) / 2 + m - 1 - (i + j) / 2) (by omega) (by omega) (by omega) (by omega)
            cases hlv : lt d[(a + b) / 2 + m - 1 - (i + j) / 2]! d[(i + j) / 2]! with
            | false =>
              rw [ho, hlv, show (((a + b) / 2 + m - 1 - (i + j) / 2 : Nat) : Int) = ((a : Int) + b) / 2 + m - 1 - ((i : Int) + j) / 2 by omega] at hl
              clear ho
              have HQ := Box.mk hl
              clear hl
              go_wp2_with (go_at_fn g; refine HQ.out.mono ?_; rintro e w' ⟨rfl, hB⟩; have FB := Box.mk (HW.out.below hB); clear hB)
              go_roundw
              case rel => exact ⟨(i + j) / 2 + 1, j, by go_num, rfl, by omega, by omega, by omega, FB, ⟨fun c h1 h2 h3 => srC_f hO H1.out H2.out (by omega) (by omega) hlv h1 (by omega) (by omega), HI.out.2⟩⟩
              case measure => simp [intOf]; omega
            | true =>
              rw [ho, hlv, show (((a + b) / 2 + m - 1 - (i + j) / 2 : Nat) : Int) = ((a : Int) + b) / 2 + m - 1 - ((i : Int) + j) / 2 by omega] at hl
              clear ho
              have HQ := Box.mk hl
              clear hl
              go_wp2_with (go_at_fn g; refine HQ.out.mono ?_; rintro e w' ⟨rfl, hB⟩; have FB := Box.mk (HW.out.below hB); clear hB)
              go_roundw
              case rel => exact ⟨i, (i + j) / 2, rfl, by go_num, by omega, by omega, by omega, FB, ⟨HI.out.1, fun c h1 h2 h3 => srC_t hO H1.out H2.out (by omega) (by omega) hlv h1 h2 (by omega)⟩⟩
              case measure => simp [intOf]; omega
          · obtain rfl : i = j := by omega
            have HC := Box.mk (Cut.mk (lt := lt) (a := a) (m := m) (b := b) (start := i) (d := d) (by omega) (by omega) (by omega) (by omega) HI.out.1 HI.out.2)
            have he : (((a + b) / 2 + m - i : Nat) : Int) = ((a : Int) + b) / 2 + m - i := by omega
            have HE := Box.mk he
            clear he
            go_upto_region 40 with fail
            go_cut [145] (fun s wx => wx = wr ∧ s = .bool (decide (i < m ∧ m < (a + b) / 2 + m - i)))
            case first =>
              by_cases h1 : i < m
              · by_cases h2 : m < (a + b) / 2 + m - i
                · go_wp2
                  go_meet
                  case rel => exact ⟨rfl, (congrArg Value.bool (by first | exact (decide_eq_true (by omega)).symm | exact (decide_eq_false (by omega)).symm | exact decide_eq_decide.mpr (by omega)))⟩
                · go_wp2
                  go_meet
                  case rel => exact ⟨rfl, (congrArg Value.bool (by first | exact (decide_eq_true (by omega)).symm | exact (decide_eq_false (by omega)).symm | exact decide_eq_decide.mpr (by omega)))⟩
              · go_wp2
                go_meet
                case rel => exact ⟨rfl, (congrArg Value.bool (by first | exact (decide_eq_true (by omega)).symm | exact (decide_eq_false (by omega)).symm | exact decide_eq_decide.mpr (by omega)))⟩
            case rest =>
              obtain ⟨rfl, rfl⟩ := hcut
              go_upto_if 145 with fail
              go_cut [] (fun wx => ∃ dA, Box (Fam enc k blk off (boxW w0 g lb sf sb) dA wx) ∧ Box (dA.size = d.size) ∧ Box (PermIn a b d dA ∧ ∀ q, dA[q]! = d[rotIx i m ((a + b) / 2 + m - i) q]!))
              case first =>
                by_cases h12 : i < m ∧ m < (a + b) / 2 + m - i
                · have hc := rotate_walk hk g lb sf sb wc d HS.out (HW.out.holds hb1 HH.out rfl) (by have := HW.out.size; omega) i m ((a + b) / 2 + m - i) h12.1 h12.2 (by omega) hsz
                  rw [HE.out] at hc
                  have HQ := Box.mk hc
                  have c := boxW_cell hb g lb sf sb HW.out
                  have c0 := c.1
                  have c1 := c.2
                  clear c
                  have h12b : decide (i < m ∧ m < (a + b) / 2 + m - i) = true := decide_eq_true h12
                  clear hc
                  go_wp2_with (go_at_call 122; refine HQ.out.mono ?_; rintro e w1 ⟨rfl, dA, f1, f2, f3, f4⟩; have FA := Box.mk (HW.out.trans hb1 f1 f2); have SA := Box.mk f2; have PA := Box.mk f3; have RA := Box.mk f4; clear f1 f2 f3 f4)
                  go_meet
                  case rel => exact ⟨dA, FA, SA, ⟨perm_mono (by omega) (by omega) (by omega) PA.out, RA.out⟩⟩
                · have h12b : decide (i < m ∧ m < (a + b) / 2 + m - i) = false := decide_eq_false h12
                  go_wp2_with fail
                  go_meet
                  case rel => exact ⟨d, HW, ⟨rfl⟩, ⟨permIn_refl d _ _, fun q => by rw [rotIx_id (by omega) (by omega) (by omega)]⟩⟩
              case rest =>
                obtain ⟨dA, FA, SA, PA⟩ := hcut
                have HP := Box.mk (cut_parts hO H1.out H2.out ham hmb HC.out PA.out.2)
                have HR := Box.mk (ord_cut ham hmb HC.out PA.out.2 HO.out)
                clear HW
                go_upto_region 42 with fail
                go_cut [158] (fun s wx => wx = wc ∧ s = .bool (decide (a < i ∧ i < (a + b) / 2)))
                case first =>
                  by_cases h1 : a < i
                  · by_cases h2 : i < (a + b) / 2
                    · go_wp2
                      go_meet
                      case rel => exact ⟨rfl, (congrArg Value.bool (by first | exact (decide_eq_true (by omega)).symm | exact (decide_eq_false (by omega)).symm | exact decide_eq_decide.mpr (by omega)))⟩
                    · go_wp2
                      go_meet
                      case rel => exact ⟨rfl, (congrArg Value.bool (by first | exact (decide_eq_true (by omega)).symm | exact (decide_eq_false (by omega)).symm | exact decide_eq_decide.mpr (by omega)))⟩
                  · go_wp2
                    go_meet
                    case rel => exact ⟨rfl, (congrArg Value.bool (by first | exact (decide_eq_true (by omega)).symm | exact (decide_eq_false (by omega)).symm | exact decide_eq_decide.mpr (by omega)))⟩
                case rest =>
                  obtain ⟨rfl, rfl⟩ := hcut
                  go_upto_if 158 with fail
                  go_cut [] (fun wx => ∃ dB, Box (Fam enc k blk off (boxW w0 g lb sf sb) dB wx) ∧ Box (dB.size = d.size) ∧ Box (PermIn a ((a + b) / 2) dA dB ∧ SortedIn lt a ((a + b) / 2) dB))
                  case first =>
                    by_cases h12 : a < i ∧ i < (a + b) / 2
                    · have hc := IH.out wc dA (by rw [SA.out]; exact HL.out.on hb1 FA.out SA.out) (by rw [SA.out]; exact HS.out) (FA.out.holds hb1 HH.out SA.out) (by have := FA.out.size; omega) a i ((a + b) / 2) h12.1 h12.2 (by rw [SA.out]; omega) (by rw [SA.out]; exact hsz) (by omega) HR.out.1 HP.out.1 HP.out.2.1
                      rw [show ((((a + b) / 2 : Nat)) : Int) = ((a : Int) + b) / 2 by omega] at hc
                      have HQ := Box.mk hc
                      have c := boxW_cell hb g lb sf sb FA.out
                      have c0 := c.1
                      have c1 := c.2
                      clear c
                      have h12b : decide (a < i ∧ i < (a + b) / 2) = true := decide_eq_true h12
                      clear hc
                      go_wp2_with (go_at_call 103; refine HQ.out.mono ?_; rintro e w1 ⟨rfl, dB, f1, f2, f3, f4⟩; have FB := Box.mk (FA.out.trans hb1 f1 f2); have SB := Box.mk (f2.trans SA.out); have PB := Box.mk f3; have RB := Box.mk f4; clear f1 f2 f3 f4)
                      go_meet
                      case rel => exact ⟨dB, FB, SB, ⟨PB.out, RB.out⟩⟩
                    · have h12b : decide (a < i ∧ i < (a + b) / 2) = false := decide_eq_false h12
                      go_wp2_with fail
                      go_meet
                      case rel =>
                        refine ⟨dA, FA, SA, ⟨permIn_refl dA _ _, ?_⟩⟩
                        have q1 := HC.out.hi2
                        have q2 := HC.out.lo
                        rcases Nat.lt_or_ge a i with q3 | q3
                        · have q4 : i = (a + b) / 2 := by omega
                          have q5 := HP.out.1
                          rw [q4] at q5
                          exact q5
                        · have q4 : i = a := by omega
                          have q5 := HP.out.2.1
                          rw [q4] at q5
                          exact q5
                  case rest =>
                    obtain ⟨dB, FB, SB, PB⟩ := hcut
                    go_upto_region 44 with fail
                    go_cut [171] (fun s wx => wx = wc ∧ s = .bool (decide ((a + b) / 2 < (a + b) / 2 + m - i ∧ (a + b) / 2 + m - i < b)))
                    case first =>
                      by_cases h1 : (a + b) / 2 < (a + b) / 2 + m - i
                      · by_cases h2 : (a + b) / 2 + m - i < b
                        · go_wp2
                          go_meet
                          case rel => exact ⟨rfl, (congrArg Value.bool (by first | exact (decide_eq_true (by omega)).symm | exact (decide_eq_false (by omega)).symm | exact decide_eq_decide.mpr (by omega)))⟩
                        · go_wp2
                          go_meet
                          case rel => exact ⟨rfl, (congrArg Value.bool (by first | exact (decide_eq_true (by omega)).symm | exact (decide_eq_false (by omega)).symm | exact decide_eq_decide.mpr (by omega)))⟩
                      · go_wp2
                        go_meet
                        case rel => exact ⟨rfl, (congrArg Value.bool (by first | exact (decide_eq_true (by omega)).symm | exact (decide_eq_false (by omega)).symm | exact decide_eq_decide.mpr (by omega)))⟩
                    case rest =>
                      obtain ⟨rfl, rfl⟩ := hcut
                      have PA1 := PA.out.1
                      have HX := Box.mk (fun dC h1 h2 => sym_end (lt := lt) (mid := (a + b) / 2) (dC := dC) (by omega) (by omega) hbn PA1 HP.out.2.2.2.2 PB.out.1 PB.out.2 h1 h2)
                      clear PA1
                      by_cases h12 : (a + b) / 2 < (a + b) / 2 + m - i ∧ (a + b) / 2 + m - i < b
                      · have hc := IH.out wc dB (by rw [SB.out]; exact HL.out.on hb1 FB.out SB.out) (by rw [SB.out]; exact HS.out) (FB.out.holds hb1 HH.out SB.out) (by have := FB.out.size; omega) ((a + b) / 2) ((a + b) / 2 + m - i) b h12.1 h12.2 (by rw [SB.out]; omega) (by rw [SB.out]; exact hsz) (by omega) (ord_keep PB.out.1 HR.out.2) (sorted_keep PB.out.1 (Nat.le_refl _) HP.out.2.2.1) (sorted_keep PB.out.1 (by omega) HP.out.2.2.2.1)
                        rw [HE.out, show ((((a + b) / 2 : Nat)) : Int) = ((a : Int) + b) / 2 by omega] at hc
                        have HQ := Box.mk hc
                        have c := boxW_cell hb g lb sf sb FB.out
                        have c0 := c.1
                        have c1 := c.2
                        clear c
                        have h12b : decide ((a + b) / 2 < (a + b) / 2 + m - i ∧ (a + b) / 2 + m - i < b) = true := decide_eq_true h12
                        clear hc
                        go_wp2_with (go_at_call 103; refine HQ.out.mono ?_; rintro e w1 ⟨rfl, dC, f1, f2, f3, f4⟩; have FC := Box.mk (FB.out.trans hb1 f1 f2); have SC := Box.mk (f2.trans SB.out); have PC := Box.mk f3; have RC := Box.mk f4; clear f1 f2 f3 f4)
                        go_end0
                        exact ⟨rfl, dC, HF.out.trans hb FC.out SC.out, SC.out, HX.out dC PC.out RC.out⟩
                      · have h12b : decide ((a + b) / 2 < (a + b) / 2 + m - i ∧ (a + b) / 2 + m - i < b) = false := decide_eq_false h12
                        go_wp2_with fail
                        go_end0
                        refine ⟨rfl, dB, HF.out.trans hb FB.out SB.out, SB.out, HX.out dB (permIn_refl dB _ _) ?_⟩
                        have q1 := HC.out.hi
                        have q2 := HC.out.lo2
                        have q6 := HC.out.hi2
                        rcases Nat.lt_or_ge ((a + b) / 2) ((a + b) / 2 + m - i) with q3 | q3
                        · have q4 : (a + b) / 2 + m - i = b := by omega
                          have q5 := sorted_keep PB.out.1 (Nat.le_refl _) HP.out.2.2.1
                          rw [q4] at q5
                          exact q5
                        · have q4 : (a + b) / 2 + m - i = (a + b) / 2 := by omega
                          have q5 := sorted_keep PB.out.1 (by omega) HP.out.2.2.2.1
                          rw [q4] at q5
                          exact q5
end
end Go.Proofs.Ytjngmlkaijpbgaa
