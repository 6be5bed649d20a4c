/- EW: a merge sort from below (ever longer pieces, by pairs), in plain words. Conditions: the order is total and transitive where it is asked that the outcome rises. Le: lines: the library's sort at entries; copies; what sorted lists come to. Conditions: none. Lf: lines: Sort, Find and what the document says of them. Conditions: sizes. Lg: lines: the law of Sort and Find. Conditions: sizes. Lh: lines: Union, and the library's Grow and Concat at entries. Conditions: sizes. Lp: entries in form, in plain words. Conditions: none. -/
import Derived.WalkKit
import Derived.Lib.AppendZeros
import Derived.Deep.LoopGhost
import Derived.Lib.Walk
import Derived.Lib.SliceRun
import Derived.Test.YtjngmlkaijpbgaaK4
set_option linter.unusedVariables false
set_option linter.unusedSimpArgs false
set_option linter.unusedSectionVars false
namespace Go.E
variable {α : Type} {le : α → α → Bool}
def mgP (le : α → α → Bool) (w : Nat) (l : List α) : Nat → List α
  | 0 => []
  | k + 1 => mgP le w l k ++ List.merge ((l.drop (k * (2 * w))).take w) ((l.drop (k * (2 * w) + w)).take w) le
theorem chunkP_split (w : Nat) (l : List α) (n : Nat) : (l.drop n).take (2 * w) = (l.drop n).take w ++ (l.drop (n + w)).take w := by
  rw [Nat.two_mul, List.take_add, List.drop_drop]
theorem mgP_perm (le : α → α → Bool) (w : Nat) (l : List α) : ∀ k, (mgP le w l k).Perm (l.take (k * (2 * w)))
  | 0 => by simp [mgP]
  | k + 1 => by
    rw [mgP, show (k + 1) * (2 * w) = k * (2 * w) + 2 * w from Nat.succ_mul _ _, List.take_add, chunkP_split]
    exact (mgP_perm le w l k).append (List.merge_perm_append _)
theorem mgP_len (le : α → α → Bool) (w : Nat) (l : List α) (k : Nat) : (mgP le w l k).length = min (k * (2 * w)) l.length := by
  rw [(mgP_perm le w l k).length_eq, List.length_take]
theorem mgP_end (le : α → α → Bool) (w : Nat) (l : List α) (k : Nat) (h : l.length ≤ k * (2 * w)) : ∀ j, mgP le w l (k + j) = mgP le w l k
  | 0 => rfl
  | j + 1 => by
    have e : k * (2 * w) ≤ (k + j) * (2 * w) := Nat.mul_le_mul_right _ (by omega)
    rw [← Nat.add_assoc, mgP, mgP_end le w l k h j, List.drop_of_length_le (by omega), List.drop_of_length_le (by omega)]
    simp
def mgA (le : α → α → Bool) (w : Nat) (l : List α) : List α := mgP le w l l.length
theorem mgA_of (le : α → α → Bool) {w : Nat} (hw : 0 < w) {l : List α} {k : Nat} (h : l.length ≤ k * (2 * w)) : mgP le w l k = mgA le w l := by
  have h2 : l.length ≤ l.length * (2 * w) := Nat.le_mul_of_pos_right _ (by omega)
  unfold mgA
  by_cases e : k ≤ l.length
  · obtain ⟨j, hj⟩ : ∃ j, l.length = k + j := ⟨l.length - k, by omega⟩
    have := mgP_end le w l k h j
    rw [← hj] at this
    exact this.symm
  · obtain ⟨j, hj⟩ : ∃ j, k = l.length + j := ⟨k - l.length, by omega⟩
    rw [hj]
    exact mgP_end le w l l.length h2 j
theorem mgA_len (le : α → α → Bool) {w : Nat} (hw : 0 < w) (l : List α) : (mgA le w l).length = l.length := by
  have h2 : l.length ≤ l.length * (2 * w) := Nat.le_mul_of_pos_right _ (by omega)
  unfold mgA
  rw [mgP_len]; omega
/-- Pieces of the length w are merged by pairs, then of twice that length, and so on. -/
def botS (le : α → α → Bool) (w : Nat) (l : List α) : List α := if h : 0 < w ∧ w < l.length then botS le (2 * w) (mgA le w l) else l
termination_by l.length - w
decreasing_by rw [mgA_len le h.1]; omega
theorem botS_step (le : α → α → Bool) {w : Nat} {l : List α} (h0 : 0 < w) (h : w < l.length) : botS le w l = botS le (2 * w) (mgA le w l) := by
  rw [botS, dif_pos ⟨h0, h⟩]
theorem botS_done (le : α → α → Bool) {w : Nat} {l : List α} (h : ¬ w < l.length) : botS le w l = l := by
  rw [botS, dif_neg (fun k => h k.2)]
def chunkyP (le : α → α → Bool) (w : Nat) (l : List α) : Prop := ∀ k, ((l.drop (k * w)).take w).Pairwise (fun x y => le x y = true)
theorem mgP_chunk (ht : ∀ a b c, le a b = true → le b c = true → le a c = true) (hto : ∀ a b, (le a b || le b a) = true) (w : Nat) (l : List α) (h : chunkyP le w l) : ∀ k j, (((mgP le w l k).drop (j * (2 * w))).take (2 * w)).Pairwise (fun x y => le x y = true)
  | 0, j => by simp [mgP]
  | k + 1, j => by
    rw [mgP]
    have hl := mgP_len le w l k
    have hc : (List.merge ((l.drop (k * (2 * w))).take w) ((l.drop (k * (2 * w) + w)).take w) le).Pairwise (fun x y => le x y = true) := by
      refine List.pairwise_merge ht hto _ _ ?_ ?_
      · have := h (2 * k)
        rwa [show 2 * k * w = k * (2 * w) by rw [Nat.mul_comm 2 k, Nat.mul_assoc]] at this
      · have := h (2 * k + 1)
        rwa [show (2 * k + 1) * w = k * (2 * w) + w by rw [Nat.succ_mul, Nat.mul_comm 2 k, Nat.mul_assoc]] at this
    by_cases hfull : (mgP le w l k).length = k * (2 * w)
    · by_cases hj : j < k
      · have : j * (2 * w) + 2 * w ≤ k * (2 * w) := by rw [← Nat.succ_mul]; exact Nat.mul_le_mul_right _ hj
        rw [List.drop_append_of_le_length (by omega), List.take_append_of_le_length (by rw [List.length_drop]; omega)]
        exact mgP_chunk ht hto w l h k j
      · by_cases ej : j = k
        · subst ej
          rw [List.drop_left' hfull]
          exact hc.sublist (List.take_sublist _ _)
        · have : k * (2 * w) + 2 * w ≤ j * (2 * w) := by rw [← Nat.succ_mul]; exact Nat.mul_le_mul_right _ (by omega)
          rw [List.drop_of_length_le (by simp only [List.length_append, List.length_merge, List.length_take, List.length_drop]; omega)]
          simp
    · rw [List.drop_of_length_le (l := l) (i := k * (2 * w)) (by omega), List.drop_of_length_le (l := l) (i := k * (2 * w) + w) (by omega)]
      simp only [List.take_nil, List.merge, List.append_nil]
      exact mgP_chunk ht hto w l h k j
theorem chunkyP_one (l : List α) : chunkyP le 1 l := fun k => by
  cases e : l.drop (k * 1) with
  | nil => simp
  | cons x t => simp
theorem botS_perm (le : α → α → Bool) : ∀ (n w : Nat) (l : List α), l.length - w ≤ n → (botS le w l).Perm l
  | 0, w, l, h => by rw [botS_done le (by omega)]
  | n + 1, w, l, h => by
    by_cases h0 : 0 < w ∧ w < l.length
    · rw [botS_step le h0.1 h0.2]
      refine (botS_perm le n _ _ (by rw [mgA_len le h0.1]; omega)).trans ?_
      have h2 : l.length ≤ l.length * (2 * w) := Nat.le_mul_of_pos_right _ (by omega)
      have := mgP_perm le w l l.length
      rwa [List.take_of_length_le h2] at this
    · rw [botS, dif_neg h0]
theorem botS_rises (ht : ∀ a b c, le a b = true → le b c = true → le a c = true) (hto : ∀ a b, (le a b || le b a) = true) : ∀ (n w : Nat) (l : List α), l.length - w ≤ n → 0 < w → chunkyP le w l → (botS le w l).Pairwise (fun x y => le x y = true)
  | 0, w, l, h, hw, hc => by
    rw [botS_done le (by omega)]
    have := hc 0
    rwa [Nat.zero_mul, List.drop_zero, List.take_of_length_le (by omega)] at this
  | n + 1, w, l, h, hw, hc => by
    by_cases h0 : w < l.length
    · rw [botS_step le hw h0]
      exact botS_rises ht hto n _ _ (by rw [mgA_len le hw]; omega) (by omega) (fun j => mgP_chunk ht hto w l hc _ j)
    · rw [botS_done le h0]
      have := hc 0
      rwa [Nat.zero_mul, List.drop_zero, List.take_of_length_le (by omega)] at this
/-! the three loops -/
variable [Inhabited α]
def subP (l : List α) (i j : Int) : List α := (l.take j.toNat).drop i.toNat
theorem subP_nil {l : List α} {i j : Int} (h : j ≤ i) : subP l i j = [] := List.drop_of_length_le (by rw [List.length_take]; omega)
theorem subP_cons {l : List α} {i j : Int} (h0 : 0 ≤ i) (h1 : i < j) (h2 : j ≤ l.length) : subP l i j = l[i.toNat]! :: subP l (i + 1) j := by
  have e : (i + 1).toNat = i.toNat + 1 := by omega
  have hl : i.toNat < (l.take j.toNat).length := by rw [List.length_take]; omega
  unfold subP
  rw [e, List.drop_eq_getElem_cons hl, List.getElem_take, getElem!_pos l i.toNat (by omega)]
theorem subP_first {l : List α} {f w : Int} (h0 : 0 ≤ f) (hw : 0 ≤ w) : subP l f (min (f + w) l.length) = (l.drop f.toNat).take w.toNat := by
  unfold subP
  rw [List.drop_take]
  by_cases h : f + w ≤ l.length
  · congr 1; omega
  · rw [List.take_of_length_le (by rw [List.length_drop]; omega), List.take_of_length_le (by rw [List.length_drop]; omega)]
theorem subP_second {l : List α} {f w : Int} (h0 : 0 ≤ f) (hw : 0 ≤ w) : subP l (min (f + w) l.length) (min (min (f + w) l.length + w) l.length) = (l.drop (f.toNat + w.toNat)).take w.toNat := by
  by_cases h : f + w ≤ l.length
  · have e : min (f + w) (l.length : Int) = f + w := by omega
    rw [e, subP_first (by omega) hw, show (f + w).toNat = f.toNat + w.toNat by omega]
  · rw [subP_nil (by omega), List.drop_of_length_le (by omega), List.take_nil]
def invB1 (le : α → α → Bool) (es : List α) (n w : Int) (l : List α) : Prop := 1 ≤ w ∧ w ≤ 2 * n + 1 ∧ (l.length : Int) = n ∧ botS le w.toNat l = botS le 1 es
def decB1 (n w : Int) (l : List α) : Nat := (n - w).toNat
def invB2 (le : α → α → Bool) (l : List α) (n w f : Int) (l' m : List α) : Prop := l' = l ∧ 0 ≤ f ∧ f < n + 2 * w ∧ ∃ k : Nat, f.toNat = k * (2 * w.toNat) ∧ m = mgP le w.toNat l k
def decB2 (n f : Int) (l' m : List α) : Nat := (n - f).toNat
def invB3 (le : α → α → Bool) (l : List α) (f mid e : Int) (m0 : List α) (i j : Int) (l' m : List α) : Prop :=
  l' = l ∧ f ≤ i ∧ i ≤ mid ∧ mid ≤ j ∧ j ≤ e ∧ (m.length : Int) = i + (j - mid) ∧ m ++ List.merge (subP l i mid) (subP l j e) le = m0 ++ List.merge (subP l f mid) (subP l mid e) le
def decB3 (mid e i j : Int) (l' m : List α) : Nat := ((mid - i) + (e - j)).toNat
theorem invB3_left {l : List α} {f mid e i j : Int} {m0 l' m : List α} (hf : 0 ≤ f) (hm : mid ≤ l.length) (he : e ≤ l.length) (h0 : l' = l) (h1 : f ≤ i) (h2 : i ≤ mid) (h3 : mid ≤ j) (h4 : j ≤ e) (h5 : (m.length : Int) = i + (j - mid))
    (h6 : m ++ List.merge (subP l i mid) (subP l j e) le = m0 ++ List.merge (subP l f mid) (subP l mid e) le) (hi : i < mid) (hle : e ≤ j ∨ le l'[i.toNat]! l'[j.toNat]! = true) : invB3 le l f mid e m0 (i + 1) j l' (m ++ [l'[i.toNat]!]) := by
  subst h0
  refine ⟨rfl, by omega, by omega, h3, h4, by simp; omega, ?_⟩
  rw [← h6, subP_cons (by omega) hi hm, List.append_assoc]
  congr 1
  by_cases hj : j < e
  · rw [subP_cons (i := j) (by omega) hj he, List.cons_merge_cons, if_pos (by rcases hle with h | h; omega; exact h)]
    rfl
  · rw [subP_nil (i := j) (by omega), List.merge_right, List.merge_right]
    rfl
theorem invB3_right {l : List α} {f mid e i j : Int} {m0 l' m : List α} (hf : 0 ≤ f) (hm : mid ≤ l.length) (he : e ≤ l.length) (h0 : l' = l) (h1 : f ≤ i) (h2 : i ≤ mid) (h3 : mid ≤ j) (h4 : j ≤ e) (h5 : (m.length : Int) = i + (j - mid))
    (h6 : m ++ List.merge (subP l i mid) (subP l j e) le = m0 ++ List.merge (subP l f mid) (subP l mid e) le) (hj : j < e) (hle : ¬ (i < mid ∧ le l'[i.toNat]! l'[j.toNat]! = true)) : invB3 le l f mid e m0 i (j + 1) l' (m ++ [l'[j.toNat]!]) := by
  subst h0
  refine ⟨rfl, h1, h2, by omega, by omega, by simp; omega, ?_⟩
  rw [← h6, subP_cons (i := j) (by omega) hj he, List.append_assoc]
  congr 1
  by_cases hi : i < mid
  · rw [subP_cons (i := i) (by omega) hi hm, List.cons_merge_cons, if_neg (fun k => hle ⟨hi, k⟩)]
    rfl
  · rw [subP_nil (i := i) (by omega), List.nil_merge, List.nil_merge]
    rfl
theorem invB3_done {l : List α} {n w f i j : Int} {l' m0 m : List α} (hk : ∃ k : Nat, f.toNat = k * (2 * w.toNat) ∧ m0 = mgP le w.toNat l k) (hn : n = l.length) (hw : 1 ≤ w) (hf : 0 ≤ f) (hfn : f < n) (h0 : l' = l)
    (h2 : i ≤ min (f + w) n) (h3 : min (f + w) n ≤ j) (h4 : j ≤ min (min (f + w) n + w) n)
    (h6 : m ++ List.merge (subP l i (min (f + w) n)) (subP l j (min (min (f + w) n + w) n)) le = m0 ++ List.merge (subP l f (min (f + w) n)) (subP l (min (f + w) n) (min (min (f + w) n + w) n)) le) (hi : ¬ i < min (f + w) n) (hj : ¬ j < min (min (f + w) n + w) n) :
    invB2 le l n w (f + 2 * w) l' m := by
  subst hn
  obtain ⟨k, k1, k2⟩ := hk
  refine ⟨h0, by omega, by omega, k + 1, ?_, ?_⟩
  · rw [Nat.succ_mul, ← k1]; omega
  · rw [subP_nil (i := i) (by omega), subP_nil (i := j) (by omega), List.nil_merge, List.append_nil, subP_first hf (by omega), subP_second hf (by omega)] at h6
    rw [h6, mgP, k2, k1]
theorem invB1_next {es l m : List α} {n w f : Int} (hk : ∃ k : Nat, f.toNat = k * (2 * w.toNat) ∧ m = mgP le w.toNat l k) (hb : botS le w.toNat l = botS le 1 es) (hn : n = l.length) (hw : 1 ≤ w) (hwn : w < n) (hf : 0 ≤ f) (hfn : ¬ f < n) :
    invB1 le es n (2 * w) m := by
  subst hn
  obtain ⟨k, k1, k2⟩ := hk
  have e : (2 * w).toNat = 2 * w.toNat := by omega
  have hm : m = mgA le w.toNat l := by rw [k2]; exact mgA_of le (by omega) (by omega)
  refine ⟨by omega, by omega, ?_, ?_⟩
  · rw [hm, mgA_len le (by omega)]
  · rw [e, hm, ← botS_step le (by omega) (by omega), hb]
theorem mgP_flen {l m : List α} {w f : Int} (hf : 0 ≤ f) (hfn : f < l.length) (hk : ∃ k : Nat, f.toNat = k * (2 * w.toNat) ∧ m = mgP le w.toNat l k) : (m.length : Int) = f := by
  obtain ⟨k, k1, k2⟩ := hk
  rw [k2, mgP_len, ← k1]
  omega
theorem invB3_init {l m : List α} {w f mid e j : Int} (hk : ∃ k : Nat, f.toNat = k * (2 * w.toNat) ∧ m = mgP le w.toNat l k) (hf : 0 ≤ f) (hfn : f < l.length) (h1 : f ≤ mid) (h2 : mid ≤ e) (hj : j = mid) : invB3 le l f mid e m f j l m := by
  subst hj
  exact ⟨rfl, Int.le_refl _, h1, Int.le_refl _, h2, by rw [mgP_flen hf hfn hk]; omega, rfl⟩
theorem invB2_init {l : List α} {n w : Int} (hn : 0 ≤ n) (hw : 1 ≤ w) : invB2 le l n w 0 l [] := ⟨rfl, Int.le_refl _, by omega, 0, by simp, rfl⟩
theorem invB1_init {es : List α} {n : Int} (hn : (es.length : Int) = n) : invB1 le es n 1 es := ⟨Int.le_refl _, by omega, hn, rfl⟩
end Go.E
namespace Go.Proofs.Ytjngmlkaijpbgaa
open Go.E
set_option maxRecDepth 100000
set_option maxHeartbeats 4000000
open Go Go.Sort Go.RowKit Go.Lib Go.Shelf Go.Proofs
def renClE : Go.Shelf.Ren := ⟨fun | 41 => 54 | n => n, fun | 4 => 4 | 22 => 22 | 23 => 28 | n => n, fun n => n⟩
theorem laysClE : Go.Proofs.SlLaysE0.n41 Try.prog renClE := { mixed := by kernel_rfl, f41 := ⟨Try.f54.name, by decide, Try.func54.trans (congrArg some (by kernel_rfl))⟩, t4 := Try.underlying4, a4 := Try.isAgg4, z4 := Try.sizeOf4, v4 := Try.zeroValue4, t22 := Try.underlying22, a22 := Try.isAgg22, z22 := Try.sizeOf22, v22 := Try.zeroValue22 }
theorem con54 (es : List Entry) (hl : es.length * 40 ≤ 140737488355328) : ConB Try.prog 54 [.sl (es.map c28)] 28 (.row 4 (es.map c28)) :=
  conB_clone (T := tab) laysClE tab_ok (te := _) rfl ⟨_, Try.func54, by kernel_rfl, by kernel_rfl⟩ (by kernel_rfl) (by decide +kernel) (fun r hr => by obtain ⟨x, _, rfl⟩ := List.mem_map.1 hr; kernel_rfl) (by rw [List.length_map]; exact hl)
noncomputable def tiRowE : TypeInfo := (Try.prog.info? 22).get!
noncomputable def tiE : TypeInfo := (Try.prog.info? 28).get!
def swE (n : Nat) : Nat := if n = 0 then 93 else if n = 1 then 94 else 101
theorem swKE (n : Nat) (h2 : 2 ≤ n) : swapperK n tiE 25 = 9 := by
  have b : tiE.bytes = 40 := by kernel_rfl
  have c : (n == 0) = false := by simp; omega
  have d : (n == 1) = false := by simp; omega
  simp [swapperK, b, c, d]
theorem sortTyE : SortTy 22 28 4 swE := by
  refine ⟨tiRowE, tiE, 25, false, by kernel_rfl, by kernel_rfl, by kernel_rfl, by kernel_rfl, fun _ => by kernel_rfl, fun n => ?_, by kernel_rfl, fun _ => by kernel_rfl, fun n h2 => ?_⟩
  · match n with
    | 0 => show _ = some 93; kernel_rfl
    | 1 => show _ = some 94; kernel_rfl
    | n + 2 =>
      rw [swKE _ (by omega)]
      simp only [swE]
      rw [if_neg (by omega), if_neg (by omega)]
      show _ = some 101
      kernel_rfl
  · have e : swE n = 101 := by simp only [swE]; rw [if_neg (by omega), if_neg (by omega)]
    rw [e]
    exact fun args W => run_callFunc_extern Try.func101 (by kernel_rfl) (by kernel_rfl) (by kernel_rfl) (e := Extern.ReflectliteSwapper.swap false) (by kernel_rfl) args W
def ltE (a b : Entry) : Bool := dLt a.dot b.dot
theorem swo_ltE : SWO ltE := by
  refine ⟨fun x => ?_, fun x y z h1 h2 => ?_, fun x y z h1 h2 => ?_⟩ <;> simp only [ltE, dLt, decide_eq_true_eq, decide_eq_false_iff_not] at * <;> omega
theorem con56 (d : List Entry) (i j : Int) (hi0 : 0 ≤ i) (hj0 : 0 ≤ j) (hi : i < d.length) (hj : j < d.length) : Con Try.prog 56 [.i .i64 i, .i .i64 j, .eptr [.sl (d.map c28)]] (.b (ltE d[i.toNat]! d[j.toNat]!)) :=
  by
  refine st_con tab_ok (by kernel_rfl) [.tmp 5] 17 Go.Proofs.Try.func56 (by kernel_rfl) (by kernel_rfl) ?_
  intro e0 cx
  refine sq ?_
  refine rg (A := True) cx [] [0, 1, 2] [] trivial ?_
  refine sn ?_
  refine sq ?_
  refine ra (A := ((0 : Int) ≤ i) ∧ ((List.map c28 d)[i.toNat]? = some (c28 d[i.toNat]!)) ∧ ((c28 d[i.toNat]!).length = (4 : Nat)) ∧ ((2 : Nat) ≤ [AV.i IntKind.i64 d[i.toNat]!.dot.rep, AV.i IntKind.i64 d[i.toNat]!.dot.num, AV.s d[i.toNat]!.sku, AV.i IntKind.i64 d[i.toNat]!.qty].length) ∧ ((0 : Int) ≤ j) ∧ ((List.map c28 d)[j.toNat]? = some (c28 d[j.toNat]!)) ∧ ((c28 d[j.toNat]!).length = (4 : Nat)) ∧ ((2 : Nat) ≤ [AV.i IntKind.i64 d[j.toNat]!.dot.rep, AV.i IntKind.i64 d[j.toNat]!.dot.num, AV.s d[j.toNat]!.sku, AV.i IntKind.i64 d[j.toNat]!.qty].length) ∧ _) cx [(2, { row := (c28 d[i.toNat]!) }), (7, { row := (c28 d[j.toNat]!) }), (10, { val := some (.b (dLt d[i.toNat]!.dot d[j.toNat]!.dot)) })] [5] [] ⟨(by (with_reducible assumption)), (by (with_reducible refine get_map ?_; omega)), (by kernel_rfl), (by (simp only [List.length_append, List.length_cons, List.length_nil]; omega)), (by (with_reducible assumption)), (by (with_reducible refine get_map ?_; omega)), (by kernel_rfl), (by (simp only [List.length_append, List.length_cons, List.length_nil]; omega)), (con48 (d[i.toNat]!.dot) (d[j.toNat]!.dot))⟩ ?_
  refine sn ?_
  refine st_ret (by kernel_rfl) ?_
  refine q_ret (r := .b (dLt d[i.toNat]!.dot d[j.toNat]!.dot)) (obl := []) (by kernel_rfl) trivial (AVle.eq (show AV.b (dLt d[i.toNat]!.dot d[j.toNat]!.dot) = AV.b (ltE d[i.toNat]! d[j.toNat]!) from ?g0)); rotate_left 1
  case g0 => exact rfl
theorem io55 (d : List Entry) (hlen : d.length < 1152921504606846976) :
    IOConG Try.prog 55 56 (some 22) true 28 4 (d.map c28) ((d.mergeSort (fun x y => !ltE y x)).map c28) := by
  refine IOCon.toG (fun r hr => by obtain ⟨x, _, rfl⟩ := List.mem_map.1 hr; rfl) ?_
  exact ioStable (α := Entry) (encA := c28) (k := 4) sortTyE (fun x => rfl)
    (fun x a ha => by
      simp only [c28, List.mem_cons, List.not_mem_nil, or_false] at ha
      rcases ha with rfl | rfl | rfl | rfl <;> rfl)
    ltE swo_ltE 56 ⟨_, Try.func56, by kernel_rfl, by kernel_rfl⟩ ⟨_, Try.func55, by kernel_rfl, by kernel_rfl⟩
    (fun d i j hi hj => by
      have := con56 d (i : Int) (j : Int) (by omega) (by omega) (by omega) (by omega)
      rw [Int.toNat_natCast, Int.toNat_natCast] at this
      exact this) d hlen
def srtE (es : List Entry) : List Entry := es.mergeSort (fun x y => !ltE y x)
theorem srtE_length (es : List Entry) : (srtE es).length = es.length := by simp [srtE]
def errL (es : List Entry) : Int := match es.find? (fun e => decide (entE e ≠ 0)) with | some e => entE e | none => 0
def onceN (s : List Entry) : Nat → Option (List Entry)
  | 0 => some []
  | n + 1 => match onceN s n with
    | none => none
    | some l => if n = 0 ∨ s[n - 1]!.dot ≠ s[n]!.dot then some (l ++ [s[n]!]) else if s[n - 1]! = s[n]! then some l else none
def onceR (s : List Entry) : List Entry × Int := match onceN s s.length with | some l => (l, 0) | none => ([], 10)
def sortR (es : List Entry) : List Entry × Int := if errL es = 0 then onceR (srtE es) else ([], errL es)
theorem errL_ok {es : List Entry} (h : ∀ j : Nat, j < es.length → entE es[j]! = 0) : errL es = 0 := by
  unfold errL
  have : es.find? (fun e => decide (entE e ≠ 0)) = none := by
    rw [List.find?_eq_none]
    intro x hx
    obtain ⟨j, hj, rfl⟩ := List.mem_iff_getElem.1 hx
    have := h j hj
    rw [getElem!_pos es j hj] at this
    simp [this]
  rw [this]
theorem errL_bad {es : List Entry} : ∀ {i : Nat}, i < es.length → ¬ entE es[i]! = 0 → (∀ j : Nat, j < i → entE es[j]! = 0) → errL es = entE es[i]! := by
  induction es with
  | nil => intro i hi; simp at hi
  | cons e es ih =>
    intro i hi hb hok
    cases i with
    | zero =>
      have hb' : ¬ entE e = 0 := by simpa using hb
      unfold errL
      simp [List.find?_cons, hb']
    | succ i =>
      have h0 : entE e = 0 := by simpa using hok 0 (by omega)
      have := ih (i := i) (by simpa using hi) (by simpa using hb) (fun j hj => by simpa using hok (j + 1) (by omega))
      unfold errL at this ⊢
      simpa [List.find?_cons, h0] using this
theorem onceN_none {s : List Entry} {n : Nat} (h : onceN s n = none) : ∀ m, onceN s (n + m) = none
  | 0 => h
  | m + 1 => by rw [← Nat.add_assoc, onceN, onceN_none h m]
theorem onceN_adj {s : List Entry} : ∀ {n : Nat} {l : List Entry}, onceN s n = some l → ∀ m, m < n → m = 0 ∨ s[m - 1]!.dot ≠ s[m]!.dot ∨ s[m - 1]! = s[m]!
  | 0, l, h, m, hm => by omega
  | n + 1, l, h, m, hm => by
    rw [onceN] at h
    split at h
    · cases h
    · rename_i l0 h0
      by_cases e : m = n
      · subst e
        split at h
        · rename_i hc
          exact hc.imp id .inl
        · split at h
          · rename_i hc; exact .inr (.inr hc)
          · cases h
      · exact onceN_adj h0 m (by omega)
def risesE (s : List Entry) : Prop := s.Pairwise (fun x y => (!ltE y x) = true)
theorem clash_once {s : List Entry} (hs : risesE s) {l : List Entry} (h : onceN s s.length = some l) : ∀ i j : Nat, i ≤ j → j < s.length → s[i]!.dot = s[j]!.dot → s[i]! = s[j]! := by
  intro i j hij
  induction j with
  | zero => intro hj he; have : i = 0 := by omega
            rw [this]
  | succ j ih =>
    intro hj he
    by_cases e : i = j + 1
    · rw [e]
    · have hp := List.pairwise_iff_getElem.1 hs
      have h1 : i = j ∨ (!ltE s[j]! s[i]!) = true := by
        by_cases e2 : i = j
        · exact .inl e2
        · right
          have := hp i j (by omega) (by omega) (by omega)
          rwa [← getElem!_pos s i (by omega), ← getElem!_pos s j (by omega)] at this
      have h2 := hp j (j + 1) (by omega) hj (by omega)
      rw [← getElem!_pos s j (by omega), ← getElem!_pos s (j + 1) hj] at h2
      have hd : s[i]!.dot = s[j]!.dot := by
        rcases h1 with h1 | h1
        · rw [h1]
        · have e3 : s[j]!.dot.rep = s[i]!.dot.rep ∧ s[j]!.dot.num = s[i]!.dot.num := by
            simp only [ltE, dLt, Bool.not_eq_true', decide_eq_false_iff_not] at h1 h2
            rw [← he] at h2
            omega
          cases hx : s[i]!.dot; cases hy : s[j]!.dot
          rw [hx, hy] at e3
          simp only at e3
          rw [e3.1, e3.2]
      have h3 := onceN_adj h (j + 1) hj
      rcases h3 with h3 | h3 | h3
      · omega
      · simp only [Nat.add_sub_cancel] at h3
        exact absurd (by rw [← hd, he]) h3
      · simp only [Nat.add_sub_cancel] at h3
        rw [← h3]
        exact ih (by omega) (by omega) (by rw [he, h3])
/-- Lists that rise, with the same members as often, come to the same. -/
theorem onceR_perm {s t : List Entry} (hp : s.Perm t) (hs : risesE s) (ht : risesE t) : onceR s = onceR t := by
  have key : ∀ {a b : List Entry}, a.Perm b → risesE a → risesE b → ∀ {l}, onceN a a.length = some l → a = b := by
    intro a b hp ha hb l h
    refine List.Perm.eq_of_pairwise (le := fun x y => (!ltE y x) = true) ?_ ha hb hp
    intro x y hx hy h1 h2
    have hy' := hp.symm.subset hy
    obtain ⟨i, hi, rfl⟩ := List.mem_iff_getElem.1 hx
    obtain ⟨j, hj, rfl⟩ := List.mem_iff_getElem.1 hy'
    have hd : a[i].dot = a[j].dot := by
      simp only [ltE, dLt, Bool.not_eq_true', decide_eq_false_iff_not] at h1 h2
      have e3 : a[i].dot.rep = a[j].dot.rep ∧ a[i].dot.num = a[j].dot.num := by omega
      cases hx : a[i].dot; cases hy : a[j].dot
      rw [hx, hy] at e3
      simp only at e3
      rw [e3.1, e3.2]
    by_cases hij : i ≤ j
    · have := clash_once ha h i j hij hj (by rw [getElem!_pos a i hi, getElem!_pos a j hj]; exact hd)
      rwa [getElem!_pos a i hi, getElem!_pos a j hj] at this
    · have := clash_once ha h j i (by omega) hi (by rw [getElem!_pos a i hi, getElem!_pos a j hj]; exact hd.symm)
      rw [getElem!_pos a i hi, getElem!_pos a j hj] at this
      exact this.symm
  cases h1 : onceN s s.length with
  | some l => rw [key hp hs ht h1]
  | none =>
    cases h2 : onceN t t.length with
    | some l => rw [key hp.symm ht hs h2]
    | none => simp [onceR, h1, h2]
theorem srtE_rises (es : List Entry) : risesE (srtE es) := by
  refine List.pairwise_mergeSort (le := fun x y => !ltE y x) ?_ ?_ es
  · intro a b c h1 h2
    simp only [Bool.not_eq_true'] at *
    exact swo_ltE.ntrans _ _ _ h2 h1
  · intro a b
    cases h : ltE b a with
    | false => rfl
    | true => simp [swo_ltE.asymmA h]
theorem rng_onceR (s : List Entry) : (onceR s).1.length ≤ s.length := by
  have : ∀ n l, onceN s n = some l → l.length ≤ n := by
    intro n
    induction n with
    | zero => intro l h; simp [onceN] at h; simp [← h]
    | succ n ih =>
      intro l h
      rw [onceN] at h
      split at h
      · cases h
      · rename_i l0 h0
        have := ih l0 h0
        split at h
        · simp only [Option.some.injEq] at h; rw [← h]; simp; omega
        · split at h
          · simp only [Option.some.injEq] at h; rw [← h]; omega
          · cases h
  unfold onceR
  split
  · rename_i l h; exact this _ _ h
  · simp
theorem rng_sortR (es : List Entry) : (sortR es).1.length ≤ es.length := by
  unfold sortR
  split
  · have := rng_onceR (srtE es)
    rwa [srtE_length] at this
  · simp
def inv25a (es : List Entry) (i : Int) : Prop := 0 ≤ i ∧ i ≤ es.length ∧ ∀ j : Nat, (j : Int) < i → entE es[j]! = 0
def inv25b (s : List Entry) (i : Int) (l : List Entry) : Prop := 0 ≤ i ∧ i ≤ s.length ∧ onceN s i.toNat = some l ∧ (l.length : Int) ≤ i
def dec25b (s : List Entry) (i : Int) (l : List Entry) : Nat := (s.length - i).toNat
end Go.Proofs.Ytjngmlkaijpbgaa
namespace Go.Proofs.Ytjngmlkaijpbgaa
open Go.E
set_option maxRecDepth 100000
set_option maxHeartbeats 4000000
def laterV (a b : Entry) (m : Int) : Bool := if m = 1 then decide (¬ (sLt a.sku b.sku = true ∨ a.sku = b.sku)) else dLt b.dot a.dot
def leM (m : Int) (a b : Entry) : Bool := !laterV a b m
def inv57 (s : List Entry) (i : Int) (l : List Entry) : Prop := 0 ≤ i ∧ i ≤ s.length ∧ onceN s i.toNat = some l ∧ (l.length : Int) ≤ i
def dec57 (s : List Entry) (i : Int) (l : List Entry) : Nat := (s.length - i).toNat
def inv25c (s : List Entry) (i : Int) (a l : List Entry) : Prop := a = s ∧ 0 ≤ i ∧ i ≤ s.length ∧ onceN s i.toNat = some l ∧ (l.length : Int) ≤ i
def dec25c (s : List Entry) (i : Int) (a l : List Entry) : Nat := (s.length - i).toNat
def findE (es : List Entry) (d : Dot) : Entry × Bool := match es.find? (fun e => decide (e.dot = d)) with | some e => (e, true) | none => (default, false)
def inv28 (es : List Entry) (d : Dot) (i r n a b : Int) (s : ByteArray) (q : Int) : Prop := 0 ≤ i ∧ i ≤ es.length ∧ r = d.rep ∧ n = d.num ∧ ∀ j : Nat, (j : Int) < i → ¬ es[j]!.dot = d
def dec28 (es : List Entry) (i r n a b : Int) (s : ByteArray) (q : Int) : Nat := (es.length - i).toNat
def isPre {α : Type} (es : List α) (i : Int) (l : List α) : Prop := l = es.take i.toNat
def inv58a (es : List Entry) (i : Int) (l : List Entry) : Prop := 0 ≤ i ∧ i ≤ es.length ∧ (l.length : Int) = i ∧ isPre es i l
def dec58a (es : List Entry) (i : Int) (l : List Entry) : Nat := (es.length - i).toNat
theorem sortR_bad {es : List Entry} {i : Nat} (hi : i < es.length) (hb : ¬ entE es[i]! = 0) (hok : ∀ j : Nat, j < i → entE es[j]! = 0) : sortR es = ([], entE es[i]!) := by
  have := errL_bad hi hb hok
  unfold sortR
  rw [this, if_neg hb]
theorem sortR_ok {es : List Entry} (hok : ∀ j : Nat, j < es.length → entE es[j]! = 0) : sortR es = onceR (srtE es) := by
  unfold sortR
  rw [if_pos (errL_ok hok)]
theorem onceN_next {s l : List Entry} {i : Int} (h0 : 0 ≤ i) (h : onceN s i.toNat = some l) :
    onceN s (i + 1).toNat = if ¬ (0 < i ∧ s[(i - 1).toNat]!.dot = s[i.toNat]!.dot) then some (l ++ [s[i.toNat]!]) else if s[(i - 1).toNat]! = s[i.toNat]! then some l else none := by
  have e : (i + 1).toNat = i.toNat + 1 := by omega
  have e2 : (i - 1).toNat = i.toNat - 1 := by omega
  rw [e, onceN, h, e2]
  have hc : (i.toNat = 0 ∨ s[i.toNat - 1]!.dot ≠ s[i.toNat]!.dot) ↔ ¬ (0 < i ∧ s[i.toNat - 1]!.dot = s[i.toNat]!.dot) := by
    constructor
    · rintro (h | h) ⟨h1, h2⟩
      · omega
      · exact h h2
    · intro h
      by_cases z : i.toNat = 0
      · exact .inl z
      · exact .inr fun g => h ⟨by omega, g⟩
  simp only [hc]
theorem once_app {s l : List Entry} {i : Int} (h0 : 0 ≤ i) (h : onceN s i.toNat = some l) (hi : i < s.length) (hl : (l.length : Int) ≤ i) (hc : ¬ (0 < i ∧ s[(i - 1).toNat]!.dot = s[i.toNat]!.dot)) : inv57 s (i + 1) (l ++ [s[i.toNat]!]) :=
  ⟨by omega, by omega, by rw [onceN_next h0 h, if_pos hc], by simp; omega⟩
theorem once_skip {s l : List Entry} {i : Int} (h0 : 0 ≤ i) (h : onceN s i.toNat = some l) (hi : i < s.length) (hl : (l.length : Int) ≤ i) (hc : 0 < i ∧ s[(i - 1).toNat]!.dot = s[i.toNat]!.dot) (he : ¬ ¬ s[(i - 1).toNat]! = s[i.toNat]!) : inv57 s (i + 1) l :=
  ⟨by omega, by omega, by rw [onceN_next h0 h, if_neg (fun k => k hc), if_pos (Classical.not_not.1 he)], by omega⟩
theorem once_clash {s l : List Entry} {i : Int} (h0 : 0 ≤ i) (h : onceN s i.toNat = some l) (hi : i < s.length) (hc : 0 < i ∧ s[(i - 1).toNat]!.dot = s[i.toNat]!.dot) (he : ¬ s[(i - 1).toNat]! = s[i.toNat]!) : onceR s = ([], 10) := by
  have h1 : onceN s (i + 1).toNat = none := by rw [onceN_next h0 h, if_neg (fun k => k hc), if_neg he]
  have h2 := onceN_none h1 (s.length - (i + 1).toNat)
  rw [show (i + 1).toNat + (s.length - (i + 1).toNat) = s.length by omega] at h2
  unfold onceR
  rw [h2]
theorem once_end {s l : List Entry} {i : Int} (h0 : 0 ≤ i) (h : onceN s i.toNat = some l) (h1 : i ≤ s.length) (hi : ¬ i < s.length) : onceR s = (l, 0) := by
  unfold onceR
  rw [show s.length = i.toNat by omega, h]
theorem flip_dot {s : List Entry} {i : Int} (h0 : 0 ≤ i) : (i = 0 ∨ ¬ s[i.toNat]!.dot = s[(i - 1).toNat]!.dot) ↔ ¬ (0 < i ∧ s[(i - 1).toNat]!.dot = s[i.toNat]!.dot) := by
  constructor
  · rintro (h | h) ⟨h1, h2⟩
    · omega
    · exact h h2.symm
  · intro h
    by_cases z : i = 0
    · exact .inl z
    · exact .inr fun g => h ⟨by omega, g.symm⟩
theorem inv58a_init (es : List Entry) : inv58a es 0 [] := ⟨by omega, by omega, by simp, by simp [isPre]⟩
theorem inv58a_step {es l : List Entry} {i : Int} (h0 : 0 ≤ i) (h : i < es.length) (hl : (l.length : Int) = i) (hn : isPre es i l) : inv58a es (i + 1) (l ++ [es[i.toNat]!]) :=
  ⟨by omega, by omega, by simp; omega, by unfold isPre at *; rw [hn, take_step h0 h]⟩
theorem inv58a_done {es l : List Entry} {i m : Int} (h0 : i ≤ es.length) (h : ¬ i < es.length) (hl : (l.length : Int) = i) (hn : isPre es i l) : invB1 (leM m) es l.length 1 l := by
  have e : l = es := by unfold isPre at hn; rw [hn, List.take_of_length_le (by omega)]
  rw [e]
  exact invB1_init rfl
theorem leM_iff (m : Int) (a b : Entry) : leM m a b = true ↔ ¬ laterV a b m = true := by unfold leM; cases laterV a b m <;> simp
theorem invB3_leftM {C D : Prop} {k : Int} {l : List Entry} {f mid e i j : Int} {m0 l' m : List Entry} (h6 : m ++ List.merge (subP l i mid) (subP l j e) (leM k) = m0 ++ List.merge (subP l f mid) (subP l mid e) (leM k)) (hle : C ∨ (D ∧ ¬ laterV l'[i.toNat]! l'[j.toNat]! k = true)) (hC : C → e ≤ j) (hf : 0 ≤ f) (hm : mid ≤ l.length) (he : e ≤ l.length) (h0 : l' = l) (h1 : f ≤ i) (h2 : i ≤ mid) (h3 : mid ≤ j) (h4 : j ≤ e) (h5 : (m.length : Int) = i + (j - mid))
    (hi : i < mid) : invB3 (leM k) l f mid e m0 (i + 1) j l' (m ++ [l'[i.toNat]!]) :=
  invB3_left hf hm he h0 h1 h2 h3 h4 h5 h6 hi (hle.imp hC fun h => (leM_iff _ _ _).2 h.2)
theorem invB3_leftJ {k : Int} {l : List Entry} {f mid e i j : Int} {m0 l' m : List Entry} (h6 : m ++ List.merge (subP l i mid) (subP l j e) (leM k) = m0 ++ List.merge (subP l f mid) (subP l mid e) (leM k)) (hle : e ≤ j) (hf : 0 ≤ f) (hm : mid ≤ l.length) (he : e ≤ l.length) (h0 : l' = l) (h1 : f ≤ i) (h2 : i ≤ mid) (h3 : mid ≤ j) (h4 : j ≤ e) (h5 : (m.length : Int) = i + (j - mid))
    (hi : i < mid) : invB3 (leM k) l f mid e m0 (i + 1) j l' (m ++ [l'[i.toNat]!]) :=
  invB3_left hf hm he h0 h1 h2 h3 h4 h5 h6 hi (.inl hle)
theorem invB3_rightM {C D : Prop} {k : Int} {l : List Entry} {f mid e i j : Int} {m0 l' m : List Entry} (h6 : m ++ List.merge (subP l i mid) (subP l j e) (leM k) = m0 ++ List.merge (subP l f mid) (subP l mid e) (leM k)) (hle : ¬ (C ∨ (D ∧ ¬ laterV l'[i.toNat]! l'[j.toNat]! k = true))) (hD : i < mid → D) (hf : 0 ≤ f) (hm : mid ≤ l.length) (he : e ≤ l.length) (h0 : l' = l) (h1 : f ≤ i) (h2 : i ≤ mid) (h3 : mid ≤ j) (h4 : j ≤ e) (h5 : (m.length : Int) = i + (j - mid))
    (hj : j < e) : invB3 (leM k) l f mid e m0 i (j + 1) l' (m ++ [l'[j.toNat]!]) :=
  invB3_right hf hm he h0 h1 h2 h3 h4 h5 h6 hj fun h => hle (.inr ⟨hD h.1, (leM_iff _ _ _).1 h.2⟩)
theorem fin58 {es l : List Entry} {n w m : Int} (hb : botS (leM m) w.toNat l = botS (leM m) 1 es) (hl : (l.length : Int) = n) (h : ¬ w < n) (hw : 1 ≤ w) : AV.sl (l.map c28) = AV.sl ((botS (leM m) 1 es).map c28) := by
  rw [← hb, botS_done _ (by omega)]
theorem dot_eta (d : Dot) : (⟨d.rep, d.num⟩ : Dot) = d := rfl
theorem find_at {es : List Entry} {d : Dot} : ∀ {i : Nat}, i < es.length → es[i]!.dot = d → (∀ j : Nat, j < i → ¬ es[j]!.dot = d) → findE es d = (es[i]!, true) := by
  induction es with
  | nil => intro i hi; simp at hi
  | cons e es ih =>
    intro i hi hb hok
    cases i with
    | zero =>
      have hb' : e.dot = d := by simpa using hb
      unfold findE
      simp [List.find?_cons, hb']
    | succ i =>
      have h0 : ¬ e.dot = d := by simpa using hok 0 (by omega)
      have := ih (i := i) (by simpa using hi) (by simpa using hb) (fun j hj => by simpa using hok (j + 1) (by omega))
      unfold findE at this ⊢
      simpa [List.find?_cons, h0] using this
theorem find_no {es : List Entry} {d : Dot} (h : ∀ j : Nat, j < es.length → ¬ es[j]!.dot = d) : findE es d = (default, false) := by
  unfold findE
  have : es.find? (fun e => decide (e.dot = d)) = none := by
    rw [List.find?_eq_none]
    intro x hx
    obtain ⟨j, hj, rfl⟩ := List.mem_iff_getElem.1 hx
    have := h j hj
    rw [getElem!_pos es j hj] at this
    simpa using this
  rw [this]
theorem con76 (a b : Entry) (m : Int) : Con Try.prog 76 [.agg (c28 a), .agg (c28 b), .i .i64 m] (.b (laterV a b m)) :=
  by
  refine st_con tab_ok (by kernel_rfl) [.tmp 6] 19 Go.Proofs.Try.func76 (by kernel_rfl) (by kernel_rfl) ?_
  intro e0 cx
  refine sq ?_
  refine rg (A := True) cx [] [2, 3, 4] [3, 4] trivial ?_
  refine sn ?_
  refine sq ?_
  refine sq ?_
  refine rg (A := (AV.b (m == (1 : Int)) = AV.b (decide (m = (1 : Int))))) cx [(1, { tell := some (.b (decide (m = (1 : Int)))) })] [3, 4, 8] [3, 4] (by kernel_rfl) ?_
  refine sn ?_
  refine st_dec (m = (1 : Int)) (by kernel_rfl) (by kernel_rfl) (fun h_0 => ?_) (fun h_0 => ?_)
  refine sq ?_
  refine rg (A := ((AV.b !(Op.bytesLess a.sku.toList b.sku.toList || a.sku.toList == b.sku.toList)) = AV.b (decide ¬(sLt a.sku b.sku = true ∨ a.sku = b.sku)))) cx [(4, { tell := some (.b (decide ¬(sLt a.sku b.sku = true ∨ a.sku = b.sku))) })] [6] [] (told_sgt) ?_
  refine sn ?_
  refine st_ret (by kernel_rfl) ?_
  refine q_seq_ret ?_
  refine q_ret (r := .b (decide ¬(sLt a.sku b.sku = true ∨ a.sku = b.sku))) (obl := []) (by kernel_rfl) trivial (AVle.eq (show AV.b (decide ¬(sLt a.sku b.sku = true ∨ a.sku = b.sku)) = AV.b (laterV a b m) from ?g0)); rotate_left 1
  refine st_skip (by kernel_rfl) ?_
  refine sn ?_
  refine sq ?_
  refine rg (A := _) cx [(4, { val := some (.b (dLt b.dot a.dot)) })] [6] [] (con49 (b.dot) (a.dot)) ?_
  refine sn ?_
  refine st_ret (by kernel_rfl) ?_
  refine q_ret (r := .b (dLt b.dot a.dot)) (obl := []) (by kernel_rfl) trivial (AVle.eq (show AV.b (dLt b.dot a.dot) = AV.b (laterV a b m) from ?g1)); rotate_left 1
  revert h_0; rotate_left
  revert h_0; rotate_left
  case g0 => exact (fun h => by rw [laterV, if_pos h])
  case g1 => exact (fun h => by rw [laterV, if_neg h])
theorem con25 (es : List Entry) (hl : es.length * 40 ≤ 140737488351232) : Con Try.prog 25 [.sl (es.map c28)] (.tup [.sl ((sortR es).1.map c28), .i .i64 (sortR es).2]) :=
  by
  have hL : (es.mergeSort fun x y => !ltE y x).length = es.length := by simp
  have hS := srtE_length es
  refine con_lens 0 (c28) (es) (by kernel_rfl) Go.Proofs.Try.func25 (by kernel_rfl) fun hl_0 => ?_
  refine st_con tab_ok (by kernel_rfl) [.tmp 2, .tmp 3] 62 Go.Proofs.Try.func25 (by kernel_rfl) (by kernel_rfl) ?_
  intro e0 cx
  refine sq ?_
  refine rg (A := True) cx [] [0] [] trivial ?_
  refine sn ?_
  refine sq ?_
  refine sq ?_
  refine rg (A := _) cx [(1, { tell := some (.i .i64 ((↑es.length : Int))) })] [0, 11, 12, 13] [] (told_len c28 es) ?_
  refine sn ?_
  refine st_block 0 (by kernel_rfl) ?_
  refine st_loop (X := Int) (fun x => ⟨[(0, .sl (List.map c28 es)), (11, .sl (List.map c28 es)), (12, .i .i64 ((↑es.length : Int))), (13, .i .i64 (x))], []⟩) (fun x ↦ dec30i es x) (fun x ↦ inv25a es x) [0, 11, 12, 13] [] ((0 : Int)) (by kernel_rfl) (by kernel_rfl) (show inv25a es (0 : Int) from ?g0) ?_; rotate_left 1
  intro i_0 h_1
  obtain ⟨h_2, h_3, h_4⟩ : (0 : Int) ≤ i_0 ∧ i_0 ≤ (↑es.length : Int) ∧ ∀ (j : Nat), (↑j : Int) < i_0 → entE es[j]! = (0 : Int) := h_1
  refine sq ?_
  refine rg (A := (AV.b (decide (i_0 < (↑es.length : Int))) = AV.b (decide (i_0 < (↑es.length : Int))))) cx [(0, { tell := some (.b (decide (i_0 < (↑es.length : Int)))) })] [0, 11, 12, 13, 14] [] (by kernel_rfl) ?_
  refine sn ?_
  refine sq ?_
  refine st_dec (i_0 < (↑es.length : Int)) (by kernel_rfl) (by kernel_rfl) (fun h_5 => ?_) (fun h_5 => ?_)
  refine st_skip (by kernel_rfl) ?_
  refine sn ?_
  refine sq ?_
  refine st_block 1 (by kernel_rfl) ?_
  refine sq ?_
  refine rg (A := ((0 : Int) ≤ i_0) ∧ ((List.map c28 es)[i_0.toNat]? = some (c28 es[i_0.toNat]!)) ∧ ((c28 es[i_0.toNat]!).length = (4 : Nat)) ∧ ((4 : Nat) ≤ [AV.i IntKind.i64 es[i_0.toNat]!.dot.rep, AV.i IntKind.i64 es[i_0.toNat]!.dot.num, AV.s es[i_0.toNat]!.sku, AV.i IntKind.i64 es[i_0.toNat]!.qty].length)) cx [(0, { row := (c28 es[i_0.toNat]!) })] [0, 11, 12, 13, 5] [5] ⟨(by (with_reducible assumption)), (by (with_reducible refine get_map ?_; omega)), (by kernel_rfl), (by (simp only [List.length_append, List.length_cons, List.length_nil]; omega))⟩ ?_
  refine sn ?_
  refine sq ?_
  refine rg (A := _) cx [(1, { val := some (.i .i64 (entE es[i_0.toNat]!)) })] [0, 11, 12, 13, 6] [] (con14 (es[i_0.toNat]!)) ?_
  refine sn ?_
  refine sq ?_
  refine rg (A := (AV.b (entE es[i_0.toNat]! != (0 : Int)) = AV.b (decide ¬entE es[i_0.toNat]! = (0 : Int)))) cx [(1, { tell := some (.b (decide ¬entE es[i_0.toNat]! = (0 : Int))) })] [0, 11, 12, 13, 6, 20] [] (told_neq) ?_
  refine sn ?_
  refine st_dec (¬entE es[i_0.toNat]! = (0 : Int)) (by kernel_rfl) (by kernel_rfl) (fun h_6 => ?_) (fun h_6 => ?_)
  refine sq ?_
  refine rg (A := True) cx [] [2, 3] [] trivial ?_
  refine sn ?_
  refine st_ret (by kernel_rfl) ?_
  refine q_blk_ret ?_
  refine q_seq_ret ?_
  refine q_seq_ret ?_
  refine q_blk_ret ?_
  refine q_seq_ret ?_
  refine q_ret (r := .tup [.nl, .i .i64 (entE es[i_0.toNat]!)]) (obl := []) (by kernel_rfl) trivial (AVle.tup (ZLe.cons (AVle.nl' (show List.map c28 (sortR es).fst = [] from ?g2)) (ZLe.cons (AVle.eq (show AV.i IntKind.i64 (entE es[i_0.toNat]!) = AV.i IntKind.i64 (sortR es).snd from ?g1)) ZLe.nil))); rotate_left 2
  refine st_skip (by kernel_rfl) ?_
  refine q_blk_normal ?_
  refine sn ?_
  refine rg (A := (AV.i IntKind.i64 (IntKind.i64.wrap (i_0 + (1 : Int))) = AV.i IntKind.i64 (i_0 + (1 : Int)))) cx [(0, { tell := some (.i .i64 (i_0 + (1 : Int))) })] [0, 11, 12, 13] [] (told_i64 (by omega) (by omega)) ?_
  refine sn ?_
  refine loop_next (i_0 + (1 : Int)) (by kernel_rfl) (show ((↑es.length : Int) - (i_0 + (1 : Int))).toNat < ((↑es.length : Int) - i_0).toNat from (by omega)) (show inv25a es (i_0 + (1 : Int)) from ?g3); rotate_left 1
  refine st_exit 0 (by kernel_rfl) ?_
  refine q_seq_exit ?_
  refine q_seq_exit ?_
  refine q_blk_hit ?_
  refine sn ?_
  refine sq ?_
  refine rg (A := _) cx [(1, { val := some (.own (28 : Nat) (4 : Nat)), rows := some (List.map c28 es) })] [7] [24, 7] (con54 (es) (by omega)) ?_
  refine sn ?_
  refine sq ?_
  refine rg (A := (AV.own (24) (0) = AV.own (24) (0)) ∧ (IOConG Try.prog (55 : FuncId) (56 : FuncId) (some (22 : Nat)) true (28 : Nat) (4 : Nat) (List.map c28 es) (List.map c28 (es.mergeSort fun x y ↦ !ltE y x)))) cx [(3, { rows := some (List.map c28 (es.mergeSort fun x y ↦ !ltE y x)) })] [7] [24, 7] ⟨(by kernel_rfl), (io55 (es) (by omega))⟩ ?_
  refine sn ?_
  refine sq ?_
  refine rg (A := True) cx [] [7, 8] [24, 7] trivial ?_
  refine sn ?_
  refine sq ?_
  refine sq ?_
  refine rg (A := _) cx [(1, { tell := some (.i .i64 ((↑(es.mergeSort fun x y ↦ !ltE y x).length : Int))) })] [7, 8, 29, 30, 31] [24, 7] (told_len c28 (es.mergeSort fun x y ↦ !ltE y x)) ?_
  refine sn ?_
  refine st_block 2 (by kernel_rfl) ?_
  refine awp_adopt 8 1008 28 4 (σ' := ⟨[(7, .ptr (7) (0) (0) (0)), (8, .own 1008 0), (29, .own 24 0), (30, .i .i64 ((↑(es.mergeSort fun x y ↦ !ltE y x).length : Int))), (31, .i .i64 ((0 : Int)))], [(24, ⟨0, 28, .row 4 (List.map c28 (es.mergeSort fun x y ↦ !ltE y x))⟩), (7, ⟨0, 22, .var [.own 24 0]⟩), (1008, ⟨0, 28, .row 4 (List.map c28 [])⟩)]⟩) (by kernel_rfl) ?_
  refine st_loop (X := Int × List Entry × List Entry) (fun x => ⟨[(7, .ptr (7) (0) (0) (0)), (8, .own 1008 0), (29, .own 24 0), (30, .i .i64 ((↑(es.mergeSort fun x y ↦ !ltE y x).length : Int))), (31, .i .i64 (x.fst))], [(24, ⟨0, 28, .row 4 (List.map c28 x.snd.fst)⟩), (7, ⟨0, 22, .var [.own 24 0]⟩), (1008, ⟨0, 28, .row 4 (List.map c28 x.snd.snd)⟩)]⟩) (fun x ↦ dec25c (srtE es) x.fst x.snd.fst x.snd.snd) (fun x ↦ inv25c (srtE es) x.fst x.snd.fst x.snd.snd) [7, 8, 29, 30, 31] [24, 7, 1008] (((0 : Int), es.mergeSort fun x y ↦ !ltE y x, [])) (by kernel_rfl) (by kernel_rfl) (show inv25c (srtE es) (0 : Int) (es.mergeSort fun x y ↦ !ltE y x) [] from ?g4) ?_; rotate_left 1
  rintro ⟨i_7, a_8, l_9⟩ h_10
  obtain ⟨h_11, h_12, h_13, h_14, h_15⟩ : a_8 = srtE es ∧ (0 : Int) ≤ i_7 ∧ i_7 ≤ (↑(srtE es).length : Int) ∧ onceN (srtE es) i_7.toNat = some l_9 ∧ (↑l_9.length : Int) ≤ i_7 := h_10
  refine sq ?_
  refine rg (A := (AV.b (decide (i_7 < (↑(es.mergeSort fun x y ↦ !ltE y x).length : Int))) = AV.b (decide (i_7 < (↑(es.mergeSort fun x y ↦ !ltE y x).length : Int))))) cx [(0, { tell := some (.b (decide (i_7 < (↑(es.mergeSort fun x y ↦ !ltE y x).length : Int)))) })] [7, 8, 29, 30, 31, 32] [24, 7, 1008] (by kernel_rfl) ?_
  refine sn ?_
  refine sq ?_
  refine st_dec (i_7 < (↑(es.mergeSort fun x y ↦ !ltE y x).length : Int)) (by kernel_rfl) (by kernel_rfl) (fun h_16 => ?_) (fun h_16 => ?_)
  refine st_skip (by kernel_rfl) ?_
  refine sn ?_
  refine sq ?_
  refine st_block 3 (by kernel_rfl) ?_
  refine sq ?_
  refine rg (A := ((0 : Int) ≤ i_7) ∧ (i_7.toNat < (List.map c28 a_8).length) ∧ ((4 : Nat) = 4) ∧ (E.rowAt { ver := 0, ty := 28, k := BK.row (4) (List.map c28 a_8) : Blk } i_7.toNat (c28 a_8[i_7.toNat]!)) ∧ (0 + (4 : Nat) ≤ (c28 a_8[i_7.toNat]!).length)) cx [(2, { row := (c28 a_8[i_7.toNat]!) })] [7, 8, 29, 30, 31, 10, 9] [24, 7, 1008, 10] ⟨(by (with_reducible assumption)), ?g5, (by kernel_rfl), ?g6, ?g7⟩ ?_; rotate_left 3
  refine sn ?_
  refine sq ?_
  refine sq ?_
  refine st_join (σ' := ⟨[(7, .ptr (7) (0) (0) (0)), (8, .own 1008 0), (29, .own 24 0), (30, .i .i64 ((↑(es.mergeSort fun x y ↦ !ltE y x).length : Int))), (31, .i .i64 (i_7)), (10, .ptr (10) (0) (0) (0)), (9, .i .i64 (i_7)), (48, .b (decide ((0 : Int) < i_7 ∧ a_8[(i_7 - (1 : Int)).toNat]!.dot = a_8[i_7.toNat]!.dot)))], [(24, ⟨0, 28, .row 4 (List.map c28 a_8)⟩), (7, ⟨0, 22, .var [.own 24 0]⟩), (1008, ⟨0, 28, .row 4 (List.map c28 l_9)⟩), (10, ⟨0, 28, .var [.i .i64 (a_8[i_7.toNat]!.dot.rep), .i .i64 (a_8[i_7.toNat]!.dot.num), .s (a_8[i_7.toNat]!.sku), .i .i64 (a_8[i_7.toNat]!.qty)]⟩)]⟩) ?_ ?_
  refine st_split ((0 : Int) < i_7) (fun h_18 => ?_) (fun h_18 => ?_)
  refine ra (A := _ ∧ (AV.i IntKind.i64 (IntKind.i64.wrap (i_7 - (1 : Int))) = AV.i IntKind.i64 (i_7 - (1 : Int))) ∧ ((0 : Int) ≤ i_7 - (1 : Int)) ∧ ((i_7 - (1 : Int)).toNat < (List.map c28 a_8).length) ∧ ((4 : Nat) = 4) ∧ (E.rowAt { ver := 0, ty := 28, k := BK.row (4) (List.map c28 a_8) : Blk } (i_7 - (1 : Int)).toNat (c28 a_8[(i_7 - (1 : Int)).toNat]!)) ∧ (0 + (2 : Nat) ≤ (c28 a_8[(i_7 - (1 : Int)).toNat]!).length) ∧ (AggEq Try.prog (26 : Nat) [AV.i IntKind.i64 a_8[(i_7 - (1 : Int)).toNat]!.dot.rep, AV.i IntKind.i64 a_8[(i_7 - (1 : Int)).toNat]!.dot.num] [AV.i IntKind.i64 a_8[i_7.toNat]!.dot.rep, AV.i IntKind.i64 a_8[i_7.toNat]!.dot.num] (decide (a_8[(i_7 - (1 : Int)).toNat]!.dot = a_8[i_7.toNat]!.dot))) ∧ (AV.b (decide (a_8[(i_7 - (1 : Int)).toNat]!.dot = a_8[i_7.toNat]!.dot)) = AV.b (decide ((0 : Int) < i_7 ∧ a_8[(i_7 - (1 : Int)).toNat]!.dot = a_8[i_7.toNat]!.dot)))) cx [(1, { tell := some (.b (true)) }), (5, { tell := some (.i .i64 (i_7 - (1 : Int))) }), (8, { row := (c28 a_8[(i_7 - (1 : Int)).toNat]!) }), (11, { val := some (.b (decide (a_8[(i_7 - (1 : Int)).toNat]!.dot = a_8[i_7.toNat]!.dot))) }), (12, { tell := some (.b (decide ((0 : Int) < i_7 ∧ a_8[(i_7 - (1 : Int)).toNat]!.dot = a_8[i_7.toNat]!.dot))) })] [7, 8, 29, 30, 31, 10, 9, 48] [24, 7, 1008, 10] ⟨(told_true h_18), (told_i64 (by omega) ?g8), (by omega), ?g9, (by kernel_rfl), ?g10, ?g11, (eq26 a_8[(i_7 - (1 : Int)).toNat]!.dot a_8[i_7.toNat]!.dot), (by simp only [eq_true h_18, told_simp1, told_simp2, and_true, true_and, and_false, false_and, or_true, true_or, or_false, false_or, not_true_eq_false, not_false_eq_true, decide_true, decide_false, Bool.decide_eq_true])⟩ ?_; rotate_left 4
  exact ⟨rfl, by kernel_rfl⟩
  refine ra (A := _ ∧ (AV.b false = AV.b (decide ((0 : Int) < i_7 ∧ a_8[(i_7 - (1 : Int)).toNat]!.dot = a_8[i_7.toNat]!.dot)))) cx [(1, { tell := some (.b (false)) }), (12, { tell := some (.b (decide ((0 : Int) < i_7 ∧ a_8[(i_7 - (1 : Int)).toNat]!.dot = a_8[i_7.toNat]!.dot))) })] [7, 8, 29, 30, 31, 10, 9, 48] [24, 7, 1008, 10] ⟨(told_false h_18), (by simp only [eq_false h_18, told_simp1, told_simp2, and_true, true_and, and_false, false_and, or_true, true_or, or_false, false_or, not_true_eq_false, not_false_eq_true, decide_true, decide_false, Bool.decide_eq_true])⟩ ?_
  exact ⟨rfl, by kernel_rfl⟩
  refine sn ?_
  refine st_dec ((0 : Int) < i_7 ∧ a_8[(i_7 - (1 : Int)).toNat]!.dot = a_8[i_7.toNat]!.dot) (by kernel_rfl) (by kernel_rfl) (fun h_19 => ?_) (fun h_19 => ?_)
  refine sq ?_
  refine sq ?_
  refine ra (A := (AV.i IntKind.i64 (IntKind.i64.wrap (i_7 - (1 : Int))) = AV.i IntKind.i64 (i_7 - (1 : Int))) ∧ ((0 : Int) ≤ i_7 - (1 : Int)) ∧ ((i_7 - (1 : Int)).toNat < (List.map c28 a_8).length) ∧ ((4 : Nat) = 4) ∧ (E.rowAt { ver := 0, ty := 28, k := BK.row (4) (List.map c28 a_8) : Blk } (i_7 - (1 : Int)).toNat (c28 a_8[(i_7 - (1 : Int)).toNat]!)) ∧ (0 + (4 : Nat) ≤ (c28 a_8[(i_7 - (1 : Int)).toNat]!).length) ∧ (AggEq Try.prog (28 : Nat) [AV.i IntKind.i64 a_8[(i_7 - (1 : Int)).toNat]!.dot.rep, AV.i IntKind.i64 a_8[(i_7 - (1 : Int)).toNat]!.dot.num, AV.s a_8[(i_7 - (1 : Int)).toNat]!.sku, AV.i IntKind.i64 a_8[(i_7 - (1 : Int)).toNat]!.qty] [AV.i IntKind.i64 a_8[i_7.toNat]!.dot.rep, AV.i IntKind.i64 a_8[i_7.toNat]!.dot.num, AV.s a_8[i_7.toNat]!.sku, AV.i IntKind.i64 a_8[i_7.toNat]!.qty] !decide ¬a_8[(i_7 - (1 : Int)).toNat]! = a_8[i_7.toNat]!)) cx [(2, { tell := some (.i .i64 (i_7 - (1 : Int))) }), (4, { row := (c28 a_8[(i_7 - (1 : Int)).toNat]!) }), (6, { val := some (.b (decide ¬a_8[(i_7 - (1 : Int)).toNat]! = a_8[i_7.toNat]!)) })] [7, 8, 29, 30, 31, 55] [24, 7, 1008] ⟨(told_i64 (by omega) ?g12), (by omega), ?g13, (by kernel_rfl), ?g14, ?g15, (aggNe_dec (eq28 a_8[(i_7 - (1 : Int)).toNat]! a_8[i_7.toNat]!))⟩ ?_; rotate_left 4
  refine sn ?_
  refine st_dec (¬a_8[(i_7 - (1 : Int)).toNat]! = a_8[i_7.toNat]!) (by kernel_rfl) (by kernel_rfl) (fun h_20 => ?_) (fun h_20 => ?_)
  refine sq ?_
  refine rg (A := True) cx [] [2, 3] [] trivial ?_
  refine sn ?_
  refine st_ret (by kernel_rfl) ?_
  refine q_seq_ret ?_
  refine q_seq_ret ?_
  refine q_blk_ret ?_
  refine q_seq_ret ?_
  refine q_seq_ret ?_
  refine q_blk_ret ?_
  refine q_seq_ret ?_
  refine q_ret (r := .tup [.nl, .i .i64 ((10 : Int))]) (obl := []) (by kernel_rfl) trivial (AVle.tup (ZLe.cons (AVle.nl' (show List.map c28 (sortR es).fst = [] from ?g17)) (ZLe.cons (AVle.eq (show AV.i IntKind.i64 (10 : Int) = AV.i IntKind.i64 (sortR es).snd from ?g16)) ZLe.nil))); rotate_left 2
  refine st_skip (by kernel_rfl) ?_
  refine sn ?_
  refine st_exit 3 (by kernel_rfl) ?_
  refine q_seq_exit ?_
  refine q_blk_hit ?_
  refine sn ?_
  refine rg (A := (AV.i IntKind.i64 (IntKind.i64.wrap (i_7 + (1 : Int))) = AV.i IntKind.i64 (i_7 + (1 : Int)))) cx [(0, { tell := some (.i .i64 (i_7 + (1 : Int))) })] [7, 8, 29, 30, 31] [24, 7, 1008] (told_i64 (by omega) ?g18) ?_; rotate_left 1
  refine sn ?_
  refine loop_next ((i_7 + (1 : Int), a_8, l_9)) (by kernel_rfl) (show ((↑(srtE es).length : Int) - (i_7 + (1 : Int))).toNat < ((↑(srtE es).length : Int) - i_7).toNat from ?g19) (show inv25c (srtE es) (i_7 + (1 : Int)) a_8 l_9 from ?g20); rotate_left 2
  refine st_skip (by kernel_rfl) ?_
  refine sn ?_
  refine rg (A := (28 = (28 : Nat)) ∧ ((4 : Nat) = 4) ∧ ([AV.i IntKind.i64 (0 : Int), AV.i IntKind.i64 (0 : Int), AV.s { data := #[] : ByteArray }, AV.i IntKind.i64 (0 : Int)].length = (4 : Nat)) ∧ (∀ (r : List AV), r ∈ List.map c28 [a_8[i_7.toNat]!] → r.length = 4) ∧ ((List.map c28 l_9).length + (List.map c28 [a_8[i_7.toNat]!]).length ≤ maxLen) ∧ (((List.map c28 l_9).length + (List.map c28 [a_8[i_7.toNat]!]).length) * (40 : Nat) ≤ (140737488355328 : Nat)) ∧ (List.map c28 l_9 ++ List.map c28 [a_8[i_7.toNat]!] = List.map c28 (l_9 ++ [a_8[i_7.toNat]!]))) cx [(3, { rows := some (List.map c28 (l_9 ++ [a_8[i_7.toNat]!])) })] [7, 8, 29, 30, 31] [24, 7, 1008] ⟨(by kernel_rfl), (by kernel_rfl), (by kernel_rfl), (by (with_reducible refine len_map (fun _ => ?_) _; kernel_rfl)), ?g21, ?g22, (by (with_reducible refine app_map ?_; kernel_rfl))⟩ ?_; rotate_left 2
  refine q_blk_normal ?_
  refine sn ?_
  refine rg (A := (AV.i IntKind.i64 (IntKind.i64.wrap (i_7 + (1 : Int))) = AV.i IntKind.i64 (i_7 + (1 : Int)))) cx [(0, { tell := some (.i .i64 (i_7 + (1 : Int))) })] [7, 8, 29, 30, 31] [24, 7, 1008] (told_i64 (by omega) ?g23) ?_; rotate_left 1
  refine sn ?_
  refine loop_next ((i_7 + (1 : Int), a_8, l_9 ++ [a_8[i_7.toNat]!])) (by kernel_rfl) (show ((↑(srtE es).length : Int) - (i_7 + (1 : Int))).toNat < ((↑(srtE es).length : Int) - i_7).toNat from ?g24) (show inv25c (srtE es) (i_7 + (1 : Int)) a_8 (l_9 ++ [a_8[i_7.toNat]!]) from ?g25); rotate_left 2
  refine st_exit 2 (by kernel_rfl) ?_
  refine q_seq_exit ?_
  refine q_seq_exit ?_
  refine q_blk_hit ?_
  refine sn ?_
  refine sq ?_
  refine rg (A := True) cx [] [2, 3] [1008] trivial ?_
  refine sn ?_
  refine st_ret (by kernel_rfl) ?_
  refine q_ret (r := .tup [.sl (List.map c28 l_9), .i .i64 ((0 : Int))]) (obl := []) (by kernel_rfl) trivial (AVle.tup (ZLe.cons (AVle.eq (show AV.sl (List.map c28 l_9) = AV.sl (List.map c28 (sortR es).fst) from ?g27)) (ZLe.cons (AVle.eq (show AV.i IntKind.i64 (0 : Int) = AV.i IntKind.i64 (sortR es).snd from ?g26)) ZLe.nil))); rotate_left 2
  rotate_left
  revert i_0 h_2 h_3 h_4 h_5 h_6; rotate_left
  revert i_0 h_2 h_3 h_4 h_5 h_6; rotate_left
  revert i_0 h_2 h_3 h_4 h_5 h_6; rotate_left
  revert i_0 h_2 h_3 h_4 h_5; rotate_left
  revert i_0 h_2 h_3 h_4 h_5 i_7 a_8 l_9 h_11 h_12 h_13 h_14 h_15 h_16; rotate_left
  revert i_0 h_2 h_3 h_4 h_5 i_7 a_8 l_9 h_11 h_12 h_13 h_14 h_15 h_16; rotate_left
  revert i_0 h_2 h_3 h_4 h_5 i_7 a_8 l_9 h_11 h_12 h_13 h_14 h_15 h_16; rotate_left
  revert i_0 h_2 h_3 h_4 h_5 i_7 a_8 l_9 h_11 h_12 h_13 h_14 h_15 h_16 h_18; rotate_left
  revert i_0 h_2 h_3 h_4 h_5 i_7 a_8 l_9 h_11 h_12 h_13 h_14 h_15 h_16 h_18; rotate_left
  revert i_0 h_2 h_3 h_4 h_5 i_7 a_8 l_9 h_11 h_12 h_13 h_14 h_15 h_16 h_18; rotate_left
  revert i_0 h_2 h_3 h_4 h_5 i_7 a_8 l_9 h_11 h_12 h_13 h_14 h_15 h_16 h_18; rotate_left
  revert i_0 h_2 h_3 h_4 h_5 i_7 a_8 l_9 h_11 h_12 h_13 h_14 h_15 h_16 h_19; rotate_left
  revert i_0 h_2 h_3 h_4 h_5 i_7 a_8 l_9 h_11 h_12 h_13 h_14 h_15 h_16 h_19; rotate_left
  revert i_0 h_2 h_3 h_4 h_5 i_7 a_8 l_9 h_11 h_12 h_13 h_14 h_15 h_16 h_19; rotate_left
  revert i_0 h_2 h_3 h_4 h_5 i_7 a_8 l_9 h_11 h_12 h_13 h_14 h_15 h_16 h_19; rotate_left
  revert i_0 h_2 h_3 h_4 h_5 i_7 a_8 l_9 h_11 h_12 h_13 h_14 h_15 h_16 h_19 h_20; rotate_left
  revert i_0 h_2 h_3 h_4 h_5 i_7 a_8 l_9 h_11 h_12 h_13 h_14 h_15 h_16 h_19 h_20; rotate_left
  revert i_0 h_2 h_3 h_4 h_5 i_7 a_8 l_9 h_11 h_12 h_13 h_14 h_15 h_16 h_19 h_20; rotate_left
  revert i_0 h_2 h_3 h_4 h_5 i_7 a_8 l_9 h_11 h_12 h_13 h_14 h_15 h_16 h_19 h_20; rotate_left
  revert i_0 h_2 h_3 h_4 h_5 i_7 a_8 l_9 h_11 h_12 h_13 h_14 h_15 h_16 h_19 h_20; rotate_left
  revert i_0 h_2 h_3 h_4 h_5 i_7 a_8 l_9 h_11 h_12 h_13 h_14 h_15 h_16 h_19; rotate_left
  revert i_0 h_2 h_3 h_4 h_5 i_7 a_8 l_9 h_11 h_12 h_13 h_14 h_15 h_16 h_19; rotate_left
  revert i_0 h_2 h_3 h_4 h_5 i_7 a_8 l_9 h_11 h_12 h_13 h_14 h_15 h_16 h_19; rotate_left
  revert i_0 h_2 h_3 h_4 h_5 i_7 a_8 l_9 h_11 h_12 h_13 h_14 h_15 h_16 h_19; rotate_left
  revert i_0 h_2 h_3 h_4 h_5 i_7 a_8 l_9 h_11 h_12 h_13 h_14 h_15 h_16 h_19; rotate_left
  revert i_0 h_2 h_3 h_4 h_5 i_7 a_8 l_9 h_11 h_12 h_13 h_14 h_15 h_16; rotate_left
  revert i_0 h_2 h_3 h_4 h_5 i_7 a_8 l_9 h_11 h_12 h_13 h_14 h_15 h_16; rotate_left
  case g1 => intro i h0 h1 h2 h3 h4; rw [sortR_bad (by omega) h4 (fun j hj => h2 j (by omega))]
  case g2 => intro i h0 h1 h2 h3 h4; rw [sortR_bad (by omega) h4 (fun j hj => h2 j (by omega))]; rfl
  case g3 =>
    intro i h0 h1 h2 h3 h4
    refine ⟨by omega, by omega, fun j hj => ?_⟩
    by_cases e : j = i.toNat
    · rw [e]; exact Classical.not_not.1 h4
    · exact h2 j (by omega)
  case g4 => intro i h0 h1 h2 h3; exact ⟨rfl, by omega, by omega, rfl, by simp⟩
  case g16 => intro i h0 h1 h2 h3 i7 a l k0 k1 k2 k3 k4 k5 k6 k7; subst k0; rw [sortR_ok (fun j hj => h2 j (by omega)), once_clash k1 k3 (by omega) k6 k7]
  case g17 => intro i h0 h1 h2 h3 i7 a l k0 k1 k2 k3 k4 k5 k6 k7; subst k0; rw [sortR_ok (fun j hj => h2 j (by omega)), once_clash k1 k3 (by omega) k6 k7]; rfl
  case g20 => intro i h0 h1 h2 h3 i7 a l k0 k1 k2 k3 k4 k5 k6 k7; subst k0; exact ⟨rfl, once_skip k1 k3 (by omega) k4 k6 k7⟩
  case g25 => intro i h0 h1 h2 h3 i7 a l k0 k1 k2 k3 k4 k5 k6; subst k0; exact ⟨rfl, once_app k1 k3 (by omega) k4 k6⟩
  case g26 => intro i h0 h1 h2 h3 i7 a l k0 k1 k2 k3 k4 k5; rw [sortR_ok (fun j hj => h2 j (by omega)), once_end k1 k3 k2 (by omega)]
  case g27 => intro i h0 h1 h2 h3 i7 a l k0 k1 k2 k3 k4 k5; rw [sortR_ok (fun j hj => h2 j (by omega)), once_end k1 k3 k2 (by omega)]
  all_goals intros
  all_goals (try subst_vars)
  all_goals first
    | omega
    | (simp only [List.length_map, List.length_append, List.length_cons, List.length_nil, Go.maxLen]; omega)
    | exact get_map (by omega)
    | exact Nat.le_of_ble_eq_true rfl
    | exact ⟨by omega, by omega, fun j hj => by omega⟩
theorem con57 (s : List Entry) (hl : s.length * 40 ≤ 140737488351232) : Con Try.prog 57 [.sl (s.map c28)] (.tup [.sl ((onceR s).1.map c28), .i .i64 (onceR s).2]) :=
  by
  refine con_lens 0 (c28) (s) (by kernel_rfl) Go.Proofs.Try.func57 (by kernel_rfl) fun hl_0 => ?_
  refine st_con tab_ok (by kernel_rfl) [.tmp 2, .tmp 3] 46 Go.Proofs.Try.func57 (by kernel_rfl) (by kernel_rfl) ?_
  intro e0 cx
  refine sq ?_
  refine rg (A := True) cx [] [0] [] trivial ?_
  refine sn ?_
  refine sq ?_
  refine rg (A := True) cx [] [0, 4] [] trivial ?_
  refine sn ?_
  refine sq ?_
  refine sq ?_
  refine rg (A := True) cx [] [0, 4, 5] [] trivial ?_
  refine sn ?_
  refine st_block 0 (by kernel_rfl) ?_
  refine awp_adopt 4 1004 28 4 (σ' := ⟨[(0, .sl (List.map c28 s)), (4, .own 1004 0), (5, .i .i64 ((0 : Int)))], [(1004, ⟨0, 28, .row 4 (List.map c28 [])⟩)]⟩) (by kernel_rfl) ?_
  refine st_loop (X := Int × List Entry) (fun x => ⟨[(0, .sl (List.map c28 s)), (4, .own 1004 0), (5, .i .i64 (x.fst))], [(1004, ⟨0, 28, .row 4 (List.map c28 x.snd)⟩)]⟩) (fun x ↦ dec57 s x.fst x.snd) (fun x ↦ inv57 s x.fst x.snd) [0, 4, 5] [1004] (((0 : Int), [])) (by kernel_rfl) (by kernel_rfl) (show inv57 s (0 : Int) [] from ?g0) ?_; rotate_left 1
  rintro ⟨i_0, l_1⟩ h_2
  obtain ⟨h_3, h_4, h_5, h_6⟩ : (0 : Int) ≤ i_0 ∧ i_0 ≤ (↑s.length : Int) ∧ onceN s i_0.toNat = some l_1 ∧ (↑l_1.length : Int) ≤ i_0 := h_2
  refine sq ?_
  refine sq ?_
  refine rg (A := _ ∧ (AV.b (decide (i_0 < (↑s.length : Int))) = AV.b (decide (i_0 < (↑s.length : Int))))) cx [(2, { tell := some (.i .i64 ((↑s.length : Int))) }), (3, { tell := some (.b (decide (i_0 < (↑s.length : Int)))) })] [0, 4, 5, 9] [1004] ⟨(told_len c28 s), (by kernel_rfl)⟩ ?_
  refine sn ?_
  refine st_dec (i_0 < (↑s.length : Int)) (by kernel_rfl) (by kernel_rfl) (fun h_7 => ?_) (fun h_7 => ?_)
  refine st_skip (by kernel_rfl) ?_
  refine sn ?_
  refine sq ?_
  refine st_block 1 (by kernel_rfl) ?_
  refine sq ?_
  refine sq ?_
  refine st_join (σ' := ⟨[(0, .sl (List.map c28 s)), (4, .own 1004 0), (5, .i .i64 (i_0)), (27, .b (decide (i_0 = (0 : Int) ∨ ¬s[i_0.toNat]!.dot = s[(i_0 - (1 : Int)).toNat]!.dot)))], [(1004, ⟨0, 28, .row 4 (List.map c28 l_1)⟩)]⟩) ?_ ?_
  refine st_split (i_0 = (0 : Int)) (fun h_9 => ?_) (fun h_9 => ?_)
  refine ra (A := _ ∧ (AV.b true = AV.b (decide (i_0 = (0 : Int) ∨ ¬s[i_0.toNat]!.dot = s[(i_0 - (1 : Int)).toNat]!.dot)))) cx [(1, { tell := some (.b (true)) }), (15, { tell := some (.b (decide (i_0 = (0 : Int) ∨ ¬s[i_0.toNat]!.dot = s[(i_0 - (1 : Int)).toNat]!.dot))) })] [0, 4, 5, 27] [1004] ⟨(told_true h_9), (by simp only [eq_true h_9, told_simp1, told_simp2, and_true, true_and, and_false, false_and, or_true, true_or, or_false, false_or, not_true_eq_false, not_false_eq_true, decide_true, decide_false, Bool.decide_eq_true])⟩ ?_
  exact ⟨rfl, by kernel_rfl⟩
  refine ra (A := _ ∧ ((0 : Int) ≤ i_0) ∧ ((List.map c28 s)[i_0.toNat]? = some (c28 s[i_0.toNat]!)) ∧ ((c28 s[i_0.toNat]!).length = (4 : Nat)) ∧ ((2 : Nat) ≤ [AV.i IntKind.i64 s[i_0.toNat]!.dot.rep, AV.i IntKind.i64 s[i_0.toNat]!.dot.num, AV.s s[i_0.toNat]!.sku, AV.i IntKind.i64 s[i_0.toNat]!.qty].length) ∧ (AV.i IntKind.i64 (IntKind.i64.wrap (i_0 - (1 : Int))) = AV.i IntKind.i64 (i_0 - (1 : Int))) ∧ ((0 : Int) ≤ i_0 - (1 : Int)) ∧ ((List.map c28 s)[(i_0 - (1 : Int)).toNat]? = some (c28 s[(i_0 - (1 : Int)).toNat]!)) ∧ ((c28 s[(i_0 - (1 : Int)).toNat]!).length = (4 : Nat)) ∧ ((2 : Nat) ≤ [AV.i IntKind.i64 s[(i_0 - (1 : Int)).toNat]!.dot.rep, AV.i IntKind.i64 s[(i_0 - (1 : Int)).toNat]!.dot.num, AV.s s[(i_0 - (1 : Int)).toNat]!.sku, AV.i IntKind.i64 s[(i_0 - (1 : Int)).toNat]!.qty].length) ∧ (AggEq Try.prog (26 : Nat) [AV.i IntKind.i64 s[i_0.toNat]!.dot.rep, AV.i IntKind.i64 s[i_0.toNat]!.dot.num] [AV.i IntKind.i64 s[(i_0 - (1 : Int)).toNat]!.dot.rep, AV.i IntKind.i64 s[(i_0 - (1 : Int)).toNat]!.dot.num] !decide ¬s[i_0.toNat]!.dot = s[(i_0 - (1 : Int)).toNat]!.dot) ∧ (AV.b (decide ¬s[i_0.toNat]!.dot = s[(i_0 - (1 : Int)).toNat]!.dot) = AV.b (decide (i_0 = (0 : Int) ∨ ¬s[i_0.toNat]!.dot = s[(i_0 - (1 : Int)).toNat]!.dot)))) cx [(1, { tell := some (.b (false)) }), (5, { row := (c28 s[i_0.toNat]!) }), (10, { tell := some (.i .i64 (i_0 - (1 : Int))) }), (11, { row := (c28 s[(i_0 - (1 : Int)).toNat]!) }), (14, { val := some (.b (decide ¬s[i_0.toNat]!.dot = s[(i_0 - (1 : Int)).toNat]!.dot)) }), (15, { tell := some (.b (decide (i_0 = (0 : Int) ∨ ¬s[i_0.toNat]!.dot = s[(i_0 - (1 : Int)).toNat]!.dot))) })] [0, 4, 5, 27] [1004] ⟨(told_false h_9), (by (with_reducible assumption)), (by (with_reducible refine get_map ?_; omega)), (by kernel_rfl), (by (simp only [List.length_append, List.length_cons, List.length_nil]; omega)), (told_i64 (by omega) (by omega)), (by omega), (by (with_reducible refine get_map ?_; omega)), (by kernel_rfl), (by (simp only [List.length_append, List.length_cons, List.length_nil]; omega)), (aggNe_dec (eq26 s[i_0.toNat]!.dot s[(i_0 - (1 : Int)).toNat]!.dot)), (by simp only [eq_false h_9, told_simp1, told_simp2, and_true, true_and, and_false, false_and, or_true, true_or, or_false, false_or, not_true_eq_false, not_false_eq_true, decide_true, decide_false, Bool.decide_eq_true])⟩ ?_
  exact ⟨rfl, by kernel_rfl⟩
  refine sn ?_
  refine st_dec (i_0 = (0 : Int) ∨ ¬s[i_0.toNat]!.dot = s[(i_0 - (1 : Int)).toNat]!.dot) (by kernel_rfl) (by kernel_rfl) (fun h_10 => ?_) (fun h_10 => ?_)
  refine sq ?_
  refine rg (A := ((0 : Int) ≤ i_0) ∧ ((List.map c28 s)[i_0.toNat]? = some (c28 s[i_0.toNat]!)) ∧ ((c28 s[i_0.toNat]!).length = (4 : Nat)) ∧ ((4 : Nat) ≤ [AV.i IntKind.i64 s[i_0.toNat]!.dot.rep, AV.i IntKind.i64 s[i_0.toNat]!.dot.num, AV.s s[i_0.toNat]!.sku, AV.i IntKind.i64 s[i_0.toNat]!.qty].length) ∧ (28 = (28 : Nat)) ∧ ((4 : Nat) = 4) ∧ ([AV.i IntKind.i64 (0 : Int), AV.i IntKind.i64 (0 : Int), AV.s { data := #[] : ByteArray }, AV.i IntKind.i64 (0 : Int)].length = (4 : Nat)) ∧ (∀ (r : List AV), r ∈ List.map c28 [s[i_0.toNat]!] → r.length = 4) ∧ ((List.map c28 l_1).length + (List.map c28 [s[i_0.toNat]!]).length ≤ maxLen) ∧ (((List.map c28 l_1).length + (List.map c28 [s[i_0.toNat]!]).length) * (40 : Nat) ≤ (140737488355328 : Nat)) ∧ (List.map c28 l_1 ++ List.map c28 [s[i_0.toNat]!] = List.map c28 (l_1 ++ [s[i_0.toNat]!]))) cx [(3, { row := (c28 s[i_0.toNat]!) }), (6, { rows := some (List.map c28 (l_1 ++ [s[i_0.toNat]!])) })] [0, 4, 5] [1004] ⟨(by (with_reducible assumption)), (by (with_reducible refine get_map ?_; omega)), (by kernel_rfl), (by (simp only [List.length_append, List.length_cons, List.length_nil]; omega)), (by kernel_rfl), (by kernel_rfl), (by kernel_rfl), (by (with_reducible refine len_map (fun _ => ?_) _; kernel_rfl)), (by (simp only [Go.maxLen, List.length_map, List.length_append, List.length_cons, List.length_nil]; omega)), (by (simp only [Go.maxLen, List.length_map, List.length_append, List.length_cons, List.length_nil]; omega)), (by (with_reducible refine app_map ?_; kernel_rfl))⟩ ?_
  refine sn ?_
  refine st_exit 1 (by kernel_rfl) ?_
  refine q_seq_exit ?_
  refine q_blk_hit ?_
  refine sn ?_
  refine rg (A := (AV.i IntKind.i64 (IntKind.i64.wrap (i_0 + (1 : Int))) = AV.i IntKind.i64 (i_0 + (1 : Int)))) cx [(1, { tell := some (.i .i64 (i_0 + (1 : Int))) })] [0, 4, 5] [1004] (told_i64 (by omega) (by omega)) ?_
  refine sn ?_
  refine loop_next ((i_0 + (1 : Int), l_1 ++ [s[i_0.toNat]!])) (by kernel_rfl) (show ((↑s.length : Int) - (i_0 + (1 : Int))).toNat < ((↑s.length : Int) - i_0).toNat from (by omega)) (show inv57 s (i_0 + (1 : Int)) (l_1 ++ [s[i_0.toNat]!]) from ?g1); rotate_left 1
  refine st_skip (by kernel_rfl) ?_
  refine sn ?_
  refine sq ?_
  refine ra (A := ((0 : Int) ≤ i_0) ∧ ((List.map c28 s)[i_0.toNat]? = some (c28 s[i_0.toNat]!)) ∧ ((c28 s[i_0.toNat]!).length = (4 : Nat)) ∧ ((4 : Nat) ≤ [AV.i IntKind.i64 s[i_0.toNat]!.dot.rep, AV.i IntKind.i64 s[i_0.toNat]!.dot.num, AV.s s[i_0.toNat]!.sku, AV.i IntKind.i64 s[i_0.toNat]!.qty].length) ∧ (AV.i IntKind.i64 (IntKind.i64.wrap (i_0 - (1 : Int))) = AV.i IntKind.i64 (i_0 - (1 : Int))) ∧ ((0 : Int) ≤ i_0 - (1 : Int)) ∧ ((List.map c28 s)[(i_0 - (1 : Int)).toNat]? = some (c28 s[(i_0 - (1 : Int)).toNat]!)) ∧ ((c28 s[(i_0 - (1 : Int)).toNat]!).length = (4 : Nat)) ∧ ((4 : Nat) ≤ [AV.i IntKind.i64 s[(i_0 - (1 : Int)).toNat]!.dot.rep, AV.i IntKind.i64 s[(i_0 - (1 : Int)).toNat]!.dot.num, AV.s s[(i_0 - (1 : Int)).toNat]!.sku, AV.i IntKind.i64 s[(i_0 - (1 : Int)).toNat]!.qty].length) ∧ (AggEq Try.prog (28 : Nat) [AV.i IntKind.i64 s[i_0.toNat]!.dot.rep, AV.i IntKind.i64 s[i_0.toNat]!.dot.num, AV.s s[i_0.toNat]!.sku, AV.i IntKind.i64 s[i_0.toNat]!.qty] [AV.i IntKind.i64 s[(i_0 - (1 : Int)).toNat]!.dot.rep, AV.i IntKind.i64 s[(i_0 - (1 : Int)).toNat]!.dot.num, AV.s s[(i_0 - (1 : Int)).toNat]!.sku, AV.i IntKind.i64 s[(i_0 - (1 : Int)).toNat]!.qty] !decide ¬s[i_0.toNat]! = s[(i_0 - (1 : Int)).toNat]!)) cx [(2, { row := (c28 s[i_0.toNat]!) }), (6, { tell := some (.i .i64 (i_0 - (1 : Int))) }), (7, { row := (c28 s[(i_0 - (1 : Int)).toNat]!) }), (9, { val := some (.b (decide ¬s[i_0.toNat]! = s[(i_0 - (1 : Int)).toNat]!)) })] [0, 4, 5, 44] [1004] ⟨(by (with_reducible assumption)), (by (with_reducible refine get_map ?_; omega)), (by kernel_rfl), (by (simp only [List.length_append, List.length_cons, List.length_nil]; omega)), (told_i64 (by omega) (by omega)), (by omega), (by (with_reducible refine get_map ?_; omega)), (by kernel_rfl), (by (simp only [List.length_append, List.length_cons, List.length_nil]; omega)), (aggNe_dec (eq28 s[i_0.toNat]! s[(i_0 - (1 : Int)).toNat]!))⟩ ?_
  refine sn ?_
  refine st_dec (¬s[i_0.toNat]! = s[(i_0 - (1 : Int)).toNat]!) (by kernel_rfl) (by kernel_rfl) (fun h_11 => ?_) (fun h_11 => ?_)
  refine sq ?_
  refine rg (A := True) cx [] [2, 3] [] trivial ?_
  refine sn ?_
  refine st_ret (by kernel_rfl) ?_
  refine q_blk_ret ?_
  refine q_seq_ret ?_
  refine q_seq_ret ?_
  refine q_blk_ret ?_
  refine q_seq_ret ?_
  refine q_ret (r := .tup [.nl, .i .i64 ((10 : Int))]) (obl := []) (by kernel_rfl) trivial (AVle.tup (ZLe.cons (AVle.nl' (show List.map c28 (onceR s).fst = [] from ?g3)) (ZLe.cons (AVle.eq (show AV.i IntKind.i64 (10 : Int) = AV.i IntKind.i64 (onceR s).snd from ?g2)) ZLe.nil))); rotate_left 2
  refine st_skip (by kernel_rfl) ?_
  refine q_blk_normal ?_
  refine sn ?_
  refine rg (A := (AV.i IntKind.i64 (IntKind.i64.wrap (i_0 + (1 : Int))) = AV.i IntKind.i64 (i_0 + (1 : Int)))) cx [(1, { tell := some (.i .i64 (i_0 + (1 : Int))) })] [0, 4, 5] [1004] (told_i64 (by omega) (by omega)) ?_
  refine sn ?_
  refine loop_next ((i_0 + (1 : Int), l_1)) (by kernel_rfl) (show ((↑s.length : Int) - (i_0 + (1 : Int))).toNat < ((↑s.length : Int) - i_0).toNat from (by omega)) (show inv57 s (i_0 + (1 : Int)) l_1 from ?g4); rotate_left 1
  refine st_exit 0 (by kernel_rfl) ?_
  refine q_seq_exit ?_
  refine q_seq_exit ?_
  refine q_blk_hit ?_
  refine sn ?_
  refine sq ?_
  refine rg (A := True) cx [] [2, 3] [1004] trivial ?_
  refine sn ?_
  refine st_ret (by kernel_rfl) ?_
  refine q_ret (r := .tup [.sl (List.map c28 l_1), .i .i64 ((0 : Int))]) (obl := []) (by kernel_rfl) trivial (AVle.tup (ZLe.cons (AVle.eq (show AV.sl (List.map c28 l_1) = AV.sl (List.map c28 (onceR s).fst) from ?g6)) (ZLe.cons (AVle.eq (show AV.i IntKind.i64 (0 : Int) = AV.i IntKind.i64 (onceR s).snd from ?g5)) ZLe.nil))); rotate_left 2
  rotate_left
  revert i_0 l_1 h_3 h_4 h_5 h_6 h_7 h_10; rotate_left
  revert i_0 l_1 h_3 h_4 h_5 h_6 h_7 h_10 h_11; rotate_left
  revert i_0 l_1 h_3 h_4 h_5 h_6 h_7 h_10 h_11; rotate_left
  revert i_0 l_1 h_3 h_4 h_5 h_6 h_7 h_10 h_11; rotate_left
  revert i_0 l_1 h_3 h_4 h_5 h_6 h_7; rotate_left
  revert i_0 l_1 h_3 h_4 h_5 h_6 h_7; rotate_left
  case g0 => exact ⟨by omega, by omega, rfl, by simp⟩
  case g1 => exact (fun i l h0 h1 h2 h3 h4 h5 => once_app h0 h2 h4 h3 ((flip_dot h0).1 h5))
  case g2 => exact (fun i l h0 h1 h2 h3 h4 h5 h6 => by rw [once_clash h0 h2 h4 (Classical.not_not.1 fun k => h5 ((flip_dot h0).2 k)) (fun k => h6 k.symm)])
  case g3 => exact (fun i l h0 h1 h2 h3 h4 h5 h6 => by rw [once_clash h0 h2 h4 (Classical.not_not.1 fun k => h5 ((flip_dot h0).2 k)) (fun k => h6 k.symm)]; rfl)
  case g4 => exact (fun i l h0 h1 h2 h3 h4 h5 h6 => once_skip h0 h2 h4 h3 (Classical.not_not.1 fun k => h5 ((flip_dot h0).2 k)) (fun k => h6 fun g => k g.symm))
  case g5 => exact (fun i l h0 h1 h2 h3 h4 => by rw [once_end h0 h2 h1 h4])
  case g6 => exact (fun i l h0 h1 h2 h3 h4 => by rw [once_end h0 h2 h1 h4])
theorem con58 (es : List Entry) (m : Int) (hl : es.length * 40 ≤ 140737488351232) : Con Try.prog 58 [.sl (es.map c28), .i .i64 m] (.sl ((botS (leM m) 1 es).map c28)) :=
  by
  refine con_lens 0 (c28) (es) (by kernel_rfl) Go.Proofs.Try.func58 (by kernel_rfl) fun hl_0 => ?_
  refine st_con tab_ok (by kernel_rfl) [.tmp 4] 109 Go.Proofs.Try.func58 (by kernel_rfl) (by kernel_rfl) ?_
  intro e0 cx
  refine sq ?_
  refine rg (A := True) cx [] [0, 1] [] trivial ?_
  refine sn ?_
  refine sq ?_
  refine rg (A := True) cx [] [0, 1, 5] [] trivial ?_
  refine sn ?_
  refine sq ?_
  refine sq ?_
  refine rg (A := True) cx [] [0, 1, 5, 6] [] trivial ?_
  refine sn ?_
  refine st_block 0 (by kernel_rfl) ?_
  refine awp_adopt 5 1005 28 4 (σ' := ⟨[(0, .sl (List.map c28 es)), (1, .i .i64 (m)), (5, .own 1005 0), (6, .i .i64 ((0 : Int)))], [(1005, ⟨0, 28, .row 4 (List.map c28 [])⟩)]⟩) (by kernel_rfl) ?_
  refine st_loop (X := Int × List Entry) (fun x => ⟨[(0, .sl (List.map c28 es)), (1, .i .i64 (m)), (5, .own 1005 0), (6, .i .i64 (x.fst))], [(1005, ⟨0, 28, .row 4 (List.map c28 x.snd)⟩)]⟩) (fun x ↦ dec58a es x.fst x.snd) (fun x ↦ inv58a es x.fst x.snd) [0, 1, 5, 6] [1005] (((0 : Int), [])) (by kernel_rfl) (by kernel_rfl) (show inv58a es (0 : Int) [] from ?g0) ?_; rotate_left 1
  rintro ⟨i_0, l_1⟩ h_2
  obtain ⟨h_3, h_4, h_5, h_6⟩ : (0 : Int) ≤ i_0 ∧ i_0 ≤ (↑es.length : Int) ∧ (↑l_1.length : Int) = i_0 ∧ isPre es i_0 l_1 := h_2
  refine sq ?_
  refine sq ?_
  refine rg (A := _ ∧ (AV.b (decide (i_0 < (↑es.length : Int))) = AV.b (decide (i_0 < (↑es.length : Int))))) cx [(2, { tell := some (.i .i64 ((↑es.length : Int))) }), (3, { tell := some (.b (decide (i_0 < (↑es.length : Int)))) })] [0, 1, 5, 6, 18] [1005] ⟨(told_len c28 es), (by kernel_rfl)⟩ ?_
  refine sn ?_
  refine st_dec (i_0 < (↑es.length : Int)) (by kernel_rfl) (by kernel_rfl) (fun h_7 => ?_) (fun h_7 => ?_)
  refine st_skip (by kernel_rfl) ?_
  refine sn ?_
  refine sq ?_
  refine st_block 1 (by kernel_rfl) ?_
  refine rg (A := ((0 : Int) ≤ i_0) ∧ ((List.map c28 es)[i_0.toNat]? = some (c28 es[i_0.toNat]!)) ∧ ((c28 es[i_0.toNat]!).length = (4 : Nat)) ∧ ((4 : Nat) ≤ [AV.i IntKind.i64 es[i_0.toNat]!.dot.rep, AV.i IntKind.i64 es[i_0.toNat]!.dot.num, AV.s es[i_0.toNat]!.sku, AV.i IntKind.i64 es[i_0.toNat]!.qty].length) ∧ (28 = (28 : Nat)) ∧ ((4 : Nat) = 4) ∧ ([AV.i IntKind.i64 (0 : Int), AV.i IntKind.i64 (0 : Int), AV.s { data := #[] : ByteArray }, AV.i IntKind.i64 (0 : Int)].length = (4 : Nat)) ∧ (∀ (r : List AV), r ∈ List.map c28 [es[i_0.toNat]!] → r.length = 4) ∧ ((List.map c28 l_1).length + (List.map c28 [es[i_0.toNat]!]).length ≤ maxLen) ∧ (((List.map c28 l_1).length + (List.map c28 [es[i_0.toNat]!]).length) * (40 : Nat) ≤ (140737488355328 : Nat)) ∧ (List.map c28 l_1 ++ List.map c28 [es[i_0.toNat]!] = List.map c28 (l_1 ++ [es[i_0.toNat]!]))) cx [(3, { row := (c28 es[i_0.toNat]!) }), (6, { rows := some (List.map c28 (l_1 ++ [es[i_0.toNat]!])) })] [0, 1, 5, 6] [1005] ⟨(by (with_reducible assumption)), (by (with_reducible refine get_map ?_; omega)), (by kernel_rfl), (by (simp only [List.length_append, List.length_cons, List.length_nil]; omega)), (by kernel_rfl), (by kernel_rfl), (by kernel_rfl), (by (with_reducible refine len_map (fun _ => ?_) _; kernel_rfl)), (by (simp only [Go.maxLen, List.length_map, List.length_append, List.length_cons, List.length_nil]; omega)), (by (simp only [Go.maxLen, List.length_map, List.length_append, List.length_cons, List.length_nil]; omega)), (by (with_reducible refine app_map ?_; kernel_rfl))⟩ ?_
  refine q_blk_normal ?_
  refine sn ?_
  refine rg (A := (AV.i IntKind.i64 (IntKind.i64.wrap (i_0 + (1 : Int))) = AV.i IntKind.i64 (i_0 + (1 : Int)))) cx [(1, { tell := some (.i .i64 (i_0 + (1 : Int))) })] [0, 1, 5, 6] [1005] (told_i64 (by omega) (by omega)) ?_
  refine sn ?_
  refine loop_next ((i_0 + (1 : Int), l_1 ++ [es[i_0.toNat]!])) (by kernel_rfl) (show ((↑es.length : Int) - (i_0 + (1 : Int))).toNat < ((↑es.length : Int) - i_0).toNat from (by omega)) (show inv58a es (i_0 + (1 : Int)) (l_1 ++ [es[i_0.toNat]!]) from ?g1); rotate_left 1
  refine st_exit 0 (by kernel_rfl) ?_
  refine q_seq_exit ?_
  refine q_seq_exit ?_
  refine q_blk_hit ?_
  refine sn ?_
  refine sq ?_
  refine rg (A := _) cx [(1, { tell := some (.i .i64 ((↑l_1.length : Int))) })] [1, 5, 7] [1005] (told_len c28 l_1) ?_
  refine sn ?_
  refine sq ?_
  refine sq ?_
  refine rg (A := True) cx [] [1, 5, 7, 8] [1005] trivial ?_
  refine sn ?_
  refine st_block 2 (by kernel_rfl) ?_
  refine st_loop (X := Int × List Entry) (fun x => ⟨[(1, .i .i64 (m)), (5, .own 1005 0), (7, .i .i64 ((↑l_1.length : Int))), (8, .i .i64 (x.fst))], [(1005, ⟨0, 28, .row 4 (List.map c28 x.snd)⟩)]⟩) (fun x ↦ decB1 (↑l_1.length : Int) x.fst x.snd) (fun x ↦ invB1 (leM m) es (↑l_1.length : Int) x.fst x.snd) [1, 5, 7, 8] [1005] (((1 : Int), l_1)) (by kernel_rfl) (by kernel_rfl) (show invB1 (leM m) es (↑l_1.length : Int) (1 : Int) l_1 from ?g2) ?_; rotate_left 1
  rintro ⟨w_8, l_9⟩ h_10
  obtain ⟨h_11, h_12, h_13, h_14⟩ : (1 : Int) ≤ w_8 ∧ w_8 ≤ (2 : Int) * (↑l_1.length : Int) + (1 : Int) ∧ (↑l_9.length : Int) = (↑l_1.length : Int) ∧ botS (leM m) w_8.toNat l_9 = botS (leM m) (1 : Nat) es := h_10
  refine sq ?_
  refine sq ?_
  refine rg (A := (AV.b (decide (w_8 < (↑l_1.length : Int))) = AV.b (decide (w_8 < (↑l_1.length : Int))))) cx [(2, { tell := some (.b (decide (w_8 < (↑l_1.length : Int)))) })] [1, 5, 7, 8, 32] [1005] (by kernel_rfl) ?_
  refine sn ?_
  refine st_dec (w_8 < (↑l_1.length : Int)) (by kernel_rfl) (by kernel_rfl) (fun h_15 => ?_) (fun h_15 => ?_)
  refine st_skip (by kernel_rfl) ?_
  refine sn ?_
  refine sq ?_
  refine st_block 3 (by kernel_rfl) ?_
  refine sq ?_
  refine rg (A := ((0 : Int) = (0 : Int)) ∧ ((↑l_1.length : Int) = (↑l_1.length : Int)) ∧ ((40 : Nat) * l_1.length ≤ (281474976710656 : Nat)) ∧ (l_1.length ≤ maxLen)) cx [(1, { n := l_1.length, flat := true })] [1, 5, 7, 8, 9] [1005, 36] ⟨(by kernel_rfl), (by kernel_rfl), (by omega), (by (simp only [Go.maxLen]; omega))⟩ ?_
  refine sn ?_
  refine sq ?_
  refine sq ?_
  refine rg (A := True) cx [] [1, 5, 7, 8, 9, 10] [1005, 36] trivial ?_
  refine sn ?_
  refine st_block 4 (by kernel_rfl) ?_
  refine st_loop (X := Int × List Entry × List Entry) (fun x => ⟨[(1, .i .i64 (m)), (5, .own 1005 0), (7, .i .i64 ((↑l_1.length : Int))), (8, .i .i64 (w_8)), (9, .own 36 0), (10, .i .i64 (x.fst))], [(1005, ⟨0, 28, .row 4 (List.map c28 x.snd.fst)⟩), (36, ⟨0, 28, .row 4 (List.map c28 x.snd.snd)⟩)]⟩) (fun x ↦ decB2 (↑l_1.length : Int) x.fst x.snd.fst x.snd.snd) (fun x ↦ invB2 (leM m) l_9 (↑l_1.length : Int) w_8 x.fst x.snd.fst x.snd.snd) [1, 5, 7, 8, 9, 10] [1005, 36] (((0 : Int), l_9, [])) (by kernel_rfl) (by kernel_rfl) (show invB2 (leM m) l_9 (↑l_1.length : Int) w_8 (0 : Int) l_9 [] from ?g3) ?_; rotate_left 1
  rintro ⟨f_16, l_17, m_18⟩ h_19
  obtain ⟨h_20, h_21, h_22, h_23⟩ : l_17 = l_9 ∧ (0 : Int) ≤ f_16 ∧ f_16 < (↑l_1.length : Int) + (2 : Int) * w_8 ∧ ∃ k, f_16.toNat = k * ((2 : Nat) * w_8.toNat) ∧ m_18 = mgP (leM m) w_8.toNat l_9 k := h_19
  refine sq ?_
  refine sq ?_
  refine rg (A := (AV.b (decide (f_16 < (↑l_1.length : Int))) = AV.b (decide (f_16 < (↑l_1.length : Int))))) cx [(2, { tell := some (.b (decide (f_16 < (↑l_1.length : Int)))) })] [1, 5, 7, 8, 9, 10, 39] [1005, 36] (by kernel_rfl) ?_
  refine sn ?_
  refine st_dec (f_16 < (↑l_1.length : Int)) (by kernel_rfl) (by kernel_rfl) (fun h_24 => ?_) (fun h_24 => ?_)
  refine st_skip (by kernel_rfl) ?_
  refine sn ?_
  refine sq ?_
  refine st_block 5 (by kernel_rfl) ?_
  refine sq ?_
  refine rg (A := (AV.i IntKind.i64 (IntKind.i64.wrap (f_16 + w_8)) = AV.i IntKind.i64 (f_16 + w_8))) cx [(2, { tell := some (.i .i64 (f_16 + w_8)) })] [1, 5, 7, 8, 9, 10, 11] [1005, 36] (told_i64 (by omega) (by omega)) ?_
  refine sn ?_
  refine sq ?_
  refine sq ?_
  refine rg (A := (AV.b (decide (f_16 + w_8 > (↑l_1.length : Int))) = AV.b (decide ((↑l_1.length : Int) < f_16 + w_8)))) cx [(2, { tell := some (.b (decide ((↑l_1.length : Int) < f_16 + w_8))) })] [1, 5, 7, 8, 9, 10, 11, 49] [1005, 36] (by kernel_rfl) ?_
  refine sn ?_
  refine st_dec ((↑l_1.length : Int) < f_16 + w_8) (by kernel_rfl) (by kernel_rfl) (fun h_25 => ?_) (fun h_25 => ?_)
  refine rg (A := True) cx [] [1, 5, 7, 8, 9, 10, 11] [1005, 36] trivial ?_
  refine sn ?_
  refine sq ?_
  refine rg (A := (AV.i IntKind.i64 (IntKind.i64.wrap ((↑l_1.length : Int) + w_8)) = AV.i IntKind.i64 ((↑l_1.length : Int) + w_8))) cx [(2, { tell := some (.i .i64 ((↑l_1.length : Int) + w_8)) })] [1, 5, 7, 8, 9, 10, 11, 12] [1005, 36] (told_i64 (by omega) (by omega)) ?_
  refine sn ?_
  refine sq ?_
  refine sq ?_
  refine rg (A := (AV.b (decide ((↑l_1.length : Int) + w_8 > (↑l_1.length : Int))) = AV.b (decide ((↑l_1.length : Int) < (↑l_1.length : Int) + w_8)))) cx [(2, { tell := some (.b (decide ((↑l_1.length : Int) < (↑l_1.length : Int) + w_8))) })] [1, 5, 7, 8, 9, 10, 11, 12, 56] [1005, 36] (by kernel_rfl) ?_
  refine sn ?_
  refine st_dec ((↑l_1.length : Int) < (↑l_1.length : Int) + w_8) (by kernel_rfl) (by kernel_rfl) (fun h_26 => ?_) (fun h_26 => absurd (by omega) h_26)
  refine rg (A := True) cx [] [1, 5, 7, 8, 9, 10, 11, 12] [1005, 36] trivial ?_
  refine sn ?_
  refine sq ?_
  refine rg (A := True) cx [] [1, 5, 7, 8, 9, 10, 11, 12, 13] [1005, 36] trivial ?_
  refine sn ?_
  refine sq ?_
  refine rg (A := True) cx [] ([1, 5] ++ List.range' 7 8) [1005, 36] trivial ?_
  refine sn ?_
  refine st_block 6 (by kernel_rfl) ?_
  refine st_loop (X := Int × Int × List Entry × List Entry) (fun x => ⟨[(1, .i .i64 (m)), (5, .own 1005 0), (7, .i .i64 ((↑l_1.length : Int))), (8, .i .i64 (w_8)), (9, .own 36 0), (10, .i .i64 (f_16)), (11, .i .i64 ((↑l_1.length : Int))), (12, .i .i64 ((↑l_1.length : Int))), (13, .i .i64 (x.fst)), (14, .i .i64 (x.snd.fst))], [(1005, ⟨0, 28, .row 4 (List.map c28 x.snd.snd.fst)⟩), (36, ⟨0, 28, .row 4 (List.map c28 x.snd.snd.snd)⟩)]⟩) (fun x ↦ decB3 (min (f_16 + w_8) (↑l_1.length : Int)) (min (min (f_16 + w_8) (↑l_1.length : Int) + w_8) (↑l_1.length : Int)) x.fst x.snd.fst x.snd.snd.fst x.snd.snd.snd) (fun x ↦ invB3 (leM m) l_17 f_16 (min (f_16 + w_8) (↑l_1.length : Int)) (min (min (f_16 + w_8) (↑l_1.length : Int) + w_8) (↑l_1.length : Int)) m_18 x.fst x.snd.fst x.snd.snd.fst x.snd.snd.snd) ([1, 5] ++ List.range' 7 8) [1005, 36] ((f_16, (↑l_1.length : Int), l_17, m_18)) (by kernel_rfl) (by kernel_rfl) (show invB3 (leM m) l_17 f_16 (min (f_16 + w_8) (↑l_1.length : Int)) (min (min (f_16 + w_8) (↑l_1.length : Int) + w_8) (↑l_1.length : Int)) m_18 f_16 (↑l_1.length : Int) l_17 m_18 from ?g4) ?_; rotate_left 1
  rintro ⟨i_27, j_28, l_29, m_30⟩ h_31
  obtain ⟨h_32, h_33, h_34, h_35, h_36, h_37, h_38⟩ : l_29 = l_17 ∧ f_16 ≤ i_27 ∧ i_27 ≤ min (f_16 + w_8) (↑l_1.length : Int) ∧ min (f_16 + w_8) (↑l_1.length : Int) ≤ j_28 ∧ j_28 ≤ min (min (f_16 + w_8) (↑l_1.length : Int) + w_8) (↑l_1.length : Int) ∧ (↑m_30.length : Int) = i_27 + (j_28 - min (f_16 + w_8) (↑l_1.length : Int)) ∧ m_30 ++ (subP l_17 i_27 (min (f_16 + w_8) (↑l_1.length : Int))).merge (subP l_17 j_28 (min (min (f_16 + w_8) (↑l_1.length : Int) + w_8) (↑l_1.length : Int))) (leM m) = m_18 ++ (subP l_17 f_16 (min (f_16 + w_8) (↑l_1.length : Int))).merge (subP l_17 (min (f_16 + w_8) (↑l_1.length : Int)) (min (min (f_16 + w_8) (↑l_1.length : Int) + w_8) (↑l_1.length : Int))) (leM m) := h_31
  refine sq ?_
  refine sq ?_
  refine st_join (σ' := ⟨[(1, .i .i64 (m)), (5, .own 1005 0), (7, .i .i64 ((↑l_1.length : Int))), (8, .i .i64 (w_8)), (9, .own 36 0), (10, .i .i64 (f_16)), (11, .i .i64 ((↑l_1.length : Int))), (12, .i .i64 ((↑l_1.length : Int))), (13, .i .i64 (i_27)), (14, .i .i64 (j_28)), (67, .b (decide (i_27 < (↑l_1.length : Int) ∨ j_28 < (↑l_1.length : Int))))], [(1005, ⟨0, 28, .row 4 (List.map c28 l_29)⟩), (36, ⟨0, 28, .row 4 (List.map c28 m_30)⟩)]⟩) ?_ ?_
  refine st_split (i_27 < (↑l_1.length : Int)) (fun h_40 => ?_) (fun h_40 => ?_)
  refine rg (A := _ ∧ (AV.b true = AV.b (decide (i_27 < (↑l_1.length : Int) ∨ j_28 < (↑l_1.length : Int))))) cx [(2, { tell := some (.b (true)) }), (7, { tell := some (.b (decide (i_27 < (↑l_1.length : Int) ∨ j_28 < (↑l_1.length : Int)))) })] ([1, 5] ++ List.range' 7 8 ++ [67]) [1005, 36] ⟨(told_true h_40), (by simp only [eq_true h_40, told_simp1, told_simp2, and_true, true_and, and_false, false_and, or_true, true_or, or_false, false_or, not_true_eq_false, not_false_eq_true, decide_true, decide_false, Bool.decide_eq_true])⟩ ?_
  exact ⟨rfl, by kernel_rfl⟩
  refine rg (A := _ ∧ (AV.b (decide (j_28 < (↑l_1.length : Int))) = AV.b (decide (j_28 < (↑l_1.length : Int)))) ∧ (AV.b (decide (j_28 < (↑l_1.length : Int))) = AV.b (decide (i_27 < (↑l_1.length : Int) ∨ j_28 < (↑l_1.length : Int))))) cx [(2, { tell := some (.b (false)) }), (6, { tell := some (.b (decide (j_28 < (↑l_1.length : Int)))) }), (7, { tell := some (.b (decide (i_27 < (↑l_1.length : Int) ∨ j_28 < (↑l_1.length : Int)))) })] ([1, 5] ++ List.range' 7 8 ++ [67]) [1005, 36] ⟨(told_false h_40), (by kernel_rfl), (by simp only [eq_false h_40, told_simp1, told_simp2, and_true, true_and, and_false, false_and, or_true, true_or, or_false, false_or, not_true_eq_false, not_false_eq_true, decide_true, decide_false, Bool.decide_eq_true])⟩ ?_
  exact ⟨rfl, by kernel_rfl⟩
  refine sn ?_
  refine st_dec (i_27 < (↑l_1.length : Int) ∨ j_28 < (↑l_1.length : Int)) (by kernel_rfl) (by kernel_rfl) (fun h_41 => ?_) (fun h_41 => ?_)
  refine st_skip (by kernel_rfl) ?_
  refine sn ?_
  refine st_block 7 (by kernel_rfl) ?_
  refine sq ?_
  refine st_split ((↑l_1.length : Int) ≤ j_28) (fun h_42 => ?_) (fun h_42 => absurd (by omega) h_42)
  refine ra (A := _) cx [(2, { tell := some (.b (true)) })] ([1, 5] ++ List.range' 7 8 ++ [88]) [1005, 36] (told_true h_42) ?_
  refine sn ?_
  refine st_true (by kernel_rfl) (by kernel_rfl) ?_
  refine sq ?_
  refine rg (A := ((0 : Int) ≤ i_27) ∧ (i_27.toNat < (List.map c28 l_29).length) ∧ ((4 : Nat) = 4) ∧ (E.rowAt { ver := 0, ty := 28, k := BK.row (4) (List.map c28 l_29) : Blk } i_27.toNat (c28 l_29[i_27.toNat]!)) ∧ (0 + (4 : Nat) ≤ (c28 l_29[i_27.toNat]!).length) ∧ (28 = (28 : Nat)) ∧ ((4 : Nat) = 4) ∧ ([AV.i IntKind.i64 (0 : Int), AV.i IntKind.i64 (0 : Int), AV.s { data := #[] : ByteArray }, AV.i IntKind.i64 (0 : Int)].length = (4 : Nat)) ∧ (∀ (r : List AV), r ∈ List.map c28 [l_29[i_27.toNat]!] → r.length = 4) ∧ ((List.map c28 m_30).length + (List.map c28 [l_29[i_27.toNat]!]).length ≤ maxLen) ∧ (((List.map c28 m_30).length + (List.map c28 [l_29[i_27.toNat]!]).length) * (40 : Nat) ≤ (140737488355328 : Nat)) ∧ (List.map c28 m_30 ++ List.map c28 [l_29[i_27.toNat]!] = List.map c28 (m_30 ++ [l_29[i_27.toNat]!]))) cx [(4, { row := (c28 l_29[i_27.toNat]!) }), (6, { rows := some (List.map c28 (m_30 ++ [l_29[i_27.toNat]!])) })] ([1, 5] ++ List.range' 7 8) [1005, 36] ⟨(by omega), ?g5, (by kernel_rfl), ?g6, ?g7, (by kernel_rfl), (by kernel_rfl), (by kernel_rfl), (by (with_reducible refine len_map (fun _ => ?_) _; kernel_rfl)), (by (simp only [Go.maxLen, List.length_map, List.length_append, List.length_cons, List.length_nil]; omega)), (by (simp only [Go.maxLen, List.length_map, List.length_append, List.length_cons, List.length_nil]; omega)), (by (with_reducible refine app_map ?_; kernel_rfl))⟩ ?_; rotate_left 3
  refine sn ?_
  refine rg (A := (AV.i IntKind.i64 (IntKind.i64.wrap (i_27 + (1 : Int))) = AV.i IntKind.i64 (i_27 + (1 : Int)))) cx [(1, { tell := some (.i .i64 (i_27 + (1 : Int))) })] ([1, 5] ++ List.range' 7 8) [1005, 36] (told_i64 (by omega) (by omega)) ?_
  refine q_blk_normal ?_
  refine sn ?_
  refine loop_next ((i_27 + (1 : Int), j_28, l_29, m_30 ++ [l_29[i_27.toNat]!])) (by kernel_rfl) (show (min (f_16 + w_8) (↑l_1.length : Int) - (i_27 + (1 : Int)) + (min (min (f_16 + w_8) (↑l_1.length : Int) + w_8) (↑l_1.length : Int) - j_28)).toNat < (min (f_16 + w_8) (↑l_1.length : Int) - i_27 + (min (min (f_16 + w_8) (↑l_1.length : Int) + w_8) (↑l_1.length : Int) - j_28)).toNat from (by omega)) (show invB3 (leM m) l_17 f_16 (min (f_16 + w_8) (↑l_1.length : Int)) (min (min (f_16 + w_8) (↑l_1.length : Int) + w_8) (↑l_1.length : Int)) m_18 (i_27 + (1 : Int)) j_28 l_29 (m_30 ++ [l_29[i_27.toNat]!]) from ?g8); rotate_left 1
  refine st_exit 6 (by kernel_rfl) ?_
  refine q_seq_exit ?_
  refine q_seq_exit ?_
  refine q_blk_hit ?_
  refine q_blk_normal ?_
  refine sn ?_
  refine rg (A := (AV.i IntKind.i64 (IntKind.i64.wrap ((2 : Int) * w_8)) = AV.i IntKind.i64 ((2 : Int) * w_8)) ∧ (AV.i IntKind.i64 (IntKind.i64.wrap (f_16 + (2 : Int) * w_8)) = AV.i IntKind.i64 (f_16 + (2 : Int) * w_8))) cx [(2, { tell := some (.i .i64 ((2 : Int) * w_8)) }), (3, { tell := some (.i .i64 (f_16 + (2 : Int) * w_8)) })] [1, 5, 7, 8, 9, 10] [1005, 36] ⟨(told_i64 (by omega) (by omega)), (told_i64 (by omega) (by omega))⟩ ?_
  refine sn ?_
  refine loop_next ((f_16 + (2 : Int) * w_8, l_29, m_30)) (by kernel_rfl) (show ((↑l_1.length : Int) - (f_16 + (2 : Int) * w_8)).toNat < ((↑l_1.length : Int) - f_16).toNat from (by omega)) (show invB2 (leM m) l_9 (↑l_1.length : Int) w_8 (f_16 + (2 : Int) * w_8) l_29 m_30 from ?g9); rotate_left 1
  refine st_skip (by kernel_rfl) ?_
  refine sn ?_
  refine sq ?_
  refine rg (A := (AV.i IntKind.i64 (IntKind.i64.wrap (f_16 + w_8 + w_8)) = AV.i IntKind.i64 (f_16 + w_8 + w_8))) cx [(2, { tell := some (.i .i64 (f_16 + w_8 + w_8)) })] [1, 5, 7, 8, 9, 10, 11, 12] [1005, 36] (told_i64 (by omega) (by omega)) ?_
  refine sn ?_
  refine sq ?_
  refine sq ?_
  refine rg (A := (AV.b (decide (f_16 + w_8 + w_8 > (↑l_1.length : Int))) = AV.b (decide ((↑l_1.length : Int) < f_16 + w_8 + w_8)))) cx [(2, { tell := some (.b (decide ((↑l_1.length : Int) < f_16 + w_8 + w_8))) })] [1, 5, 7, 8, 9, 10, 11, 12, 56] [1005, 36] (by kernel_rfl) ?_
  refine sn ?_
  refine st_dec ((↑l_1.length : Int) < f_16 + w_8 + w_8) (by kernel_rfl) (by kernel_rfl) (fun h_43 => ?_) (fun h_43 => ?_)
  refine rg (A := True) cx [] [1, 5, 7, 8, 9, 10, 11, 12] [1005, 36] trivial ?_
  refine sn ?_
  refine sq ?_
  refine rg (A := True) cx [] [1, 5, 7, 8, 9, 10, 11, 12, 13] [1005, 36] trivial ?_
  refine sn ?_
  refine sq ?_
  refine rg (A := True) cx [] ([1, 5] ++ List.range' 7 8) [1005, 36] trivial ?_
  refine sn ?_
  refine st_block 6 (by kernel_rfl) ?_
  refine st_loop (X := Int × Int × List Entry × List Entry) (fun x => ⟨[(1, .i .i64 (m)), (5, .own 1005 0), (7, .i .i64 ((↑l_1.length : Int))), (8, .i .i64 (w_8)), (9, .own 36 0), (10, .i .i64 (f_16)), (11, .i .i64 (f_16 + w_8)), (12, .i .i64 ((↑l_1.length : Int))), (13, .i .i64 (x.fst)), (14, .i .i64 (x.snd.fst))], [(1005, ⟨0, 28, .row 4 (List.map c28 x.snd.snd.fst)⟩), (36, ⟨0, 28, .row 4 (List.map c28 x.snd.snd.snd)⟩)]⟩) (fun x ↦ decB3 (min (f_16 + w_8) (↑l_1.length : Int)) (min (min (f_16 + w_8) (↑l_1.length : Int) + w_8) (↑l_1.length : Int)) x.fst x.snd.fst x.snd.snd.fst x.snd.snd.snd) (fun x ↦ invB3 (leM m) l_17 f_16 (min (f_16 + w_8) (↑l_1.length : Int)) (min (min (f_16 + w_8) (↑l_1.length : Int) + w_8) (↑l_1.length : Int)) m_18 x.fst x.snd.fst x.snd.snd.fst x.snd.snd.snd) ([1, 5] ++ List.range' 7 8) [1005, 36] ((f_16, f_16 + w_8, l_17, m_18)) (by kernel_rfl) (by kernel_rfl) (show invB3 (leM m) l_17 f_16 (min (f_16 + w_8) (↑l_1.length : Int)) (min (min (f_16 + w_8) (↑l_1.length : Int) + w_8) (↑l_1.length : Int)) m_18 f_16 (f_16 + w_8) l_17 m_18 from ?g10) ?_; rotate_left 1
  rintro ⟨i_44, j_45, l_46, m_47⟩ h_48
  obtain ⟨h_49, h_50, h_51, h_52, h_53, h_54, h_55⟩ : l_46 = l_17 ∧ f_16 ≤ i_44 ∧ i_44 ≤ min (f_16 + w_8) (↑l_1.length : Int) ∧ min (f_16 + w_8) (↑l_1.length : Int) ≤ j_45 ∧ j_45 ≤ min (min (f_16 + w_8) (↑l_1.length : Int) + w_8) (↑l_1.length : Int) ∧ (↑m_47.length : Int) = i_44 + (j_45 - min (f_16 + w_8) (↑l_1.length : Int)) ∧ m_47 ++ (subP l_17 i_44 (min (f_16 + w_8) (↑l_1.length : Int))).merge (subP l_17 j_45 (min (min (f_16 + w_8) (↑l_1.length : Int) + w_8) (↑l_1.length : Int))) (leM m) = m_18 ++ (subP l_17 f_16 (min (f_16 + w_8) (↑l_1.length : Int))).merge (subP l_17 (min (f_16 + w_8) (↑l_1.length : Int)) (min (min (f_16 + w_8) (↑l_1.length : Int) + w_8) (↑l_1.length : Int))) (leM m) := h_48
  refine sq ?_
  refine sq ?_
  refine st_join (σ' := ⟨[(1, .i .i64 (m)), (5, .own 1005 0), (7, .i .i64 ((↑l_1.length : Int))), (8, .i .i64 (w_8)), (9, .own 36 0), (10, .i .i64 (f_16)), (11, .i .i64 (f_16 + w_8)), (12, .i .i64 ((↑l_1.length : Int))), (13, .i .i64 (i_44)), (14, .i .i64 (j_45)), (67, .b (decide (i_44 < f_16 + w_8 ∨ j_45 < (↑l_1.length : Int))))], [(1005, ⟨0, 28, .row 4 (List.map c28 l_46)⟩), (36, ⟨0, 28, .row 4 (List.map c28 m_47)⟩)]⟩) ?_ ?_
  refine st_split (i_44 < f_16 + w_8) (fun h_57 => ?_) (fun h_57 => ?_)
  refine rg (A := _ ∧ (AV.b true = AV.b (decide (i_44 < f_16 + w_8 ∨ j_45 < (↑l_1.length : Int))))) cx [(2, { tell := some (.b (true)) }), (7, { tell := some (.b (decide (i_44 < f_16 + w_8 ∨ j_45 < (↑l_1.length : Int)))) })] ([1, 5] ++ List.range' 7 8 ++ [67]) [1005, 36] ⟨(told_true h_57), (by simp only [eq_true h_57, told_simp1, told_simp2, and_true, true_and, and_false, false_and, or_true, true_or, or_false, false_or, not_true_eq_false, not_false_eq_true, decide_true, decide_false, Bool.decide_eq_true])⟩ ?_
  exact ⟨rfl, by kernel_rfl⟩
  refine rg (A := _ ∧ (AV.b (decide (j_45 < (↑l_1.length : Int))) = AV.b (decide (j_45 < (↑l_1.length : Int)))) ∧ (AV.b (decide (j_45 < (↑l_1.length : Int))) = AV.b (decide (i_44 < f_16 + w_8 ∨ j_45 < (↑l_1.length : Int))))) cx [(2, { tell := some (.b (false)) }), (6, { tell := some (.b (decide (j_45 < (↑l_1.length : Int)))) }), (7, { tell := some (.b (decide (i_44 < f_16 + w_8 ∨ j_45 < (↑l_1.length : Int)))) })] ([1, 5] ++ List.range' 7 8 ++ [67]) [1005, 36] ⟨(told_false h_57), (by kernel_rfl), (by simp only [eq_false h_57, told_simp1, told_simp2, and_true, true_and, and_false, false_and, or_true, true_or, or_false, false_or, not_true_eq_false, not_false_eq_true, decide_true, decide_false, Bool.decide_eq_true])⟩ ?_
  exact ⟨rfl, by kernel_rfl⟩
  refine sn ?_
  refine st_dec (i_44 < f_16 + w_8 ∨ j_45 < (↑l_1.length : Int)) (by kernel_rfl) (by kernel_rfl) (fun h_58 => ?_) (fun h_58 => ?_)
  refine st_skip (by kernel_rfl) ?_
  refine sn ?_
  refine st_block 7 (by kernel_rfl) ?_
  refine sq ?_
  refine st_join (σ' := ⟨[(1, .i .i64 (m)), (5, .own 1005 0), (7, .i .i64 ((↑l_1.length : Int))), (8, .i .i64 (w_8)), (9, .own 36 0), (10, .i .i64 (f_16)), (11, .i .i64 (f_16 + w_8)), (12, .i .i64 ((↑l_1.length : Int))), (13, .i .i64 (i_44)), (14, .i .i64 (j_45)), (88, .b (decide ((↑l_1.length : Int) ≤ j_45 ∨ i_44 < f_16 + w_8 ∧ ¬laterV l_46[i_44.toNat]! l_46[j_45.toNat]! m = true)))], [(1005, ⟨0, 28, .row 4 (List.map c28 l_46)⟩), (36, ⟨0, 28, .row 4 (List.map c28 m_47)⟩)]⟩) ?_ ?_
  refine st_split ((↑l_1.length : Int) ≤ j_45) (fun h_60 => ?_) (fun h_60 => ?_)
  refine ra (A := _ ∧ (AV.b true = AV.b (decide ((↑l_1.length : Int) ≤ j_45 ∨ i_44 < f_16 + w_8 ∧ ¬laterV l_46[i_44.toNat]! l_46[j_45.toNat]! m = true)))) cx [(2, { tell := some (.b (true)) }), (20, { tell := some (.b (decide ((↑l_1.length : Int) ≤ j_45 ∨ i_44 < f_16 + w_8 ∧ ¬laterV l_46[i_44.toNat]! l_46[j_45.toNat]! m = true))) })] ([1, 5] ++ List.range' 7 8 ++ [88]) [1005, 36] ⟨(told_true h_60), (by simp only [eq_true h_60, told_simp1, told_simp2, and_true, true_and, and_false, false_and, or_true, true_or, or_false, false_or, not_true_eq_false, not_false_eq_true, decide_true, decide_false, Bool.decide_eq_true])⟩ ?_
  exact ⟨rfl, by kernel_rfl⟩
  refine st_split (i_44 < f_16 + w_8) (fun h_61 => ?_) (fun h_61 => ?_)
  refine ra (A := _ ∧ _ ∧ ((0 : Int) ≤ i_44) ∧ (i_44.toNat < (List.map c28 l_46).length) ∧ ((4 : Nat) = 4) ∧ (E.rowAt { ver := 0, ty := 28, k := BK.row (4) (List.map c28 l_46) : Blk } i_44.toNat (c28 l_46[i_44.toNat]!)) ∧ (0 + (4 : Nat) ≤ (c28 l_46[i_44.toNat]!).length) ∧ ((0 : Int) ≤ j_45) ∧ (j_45.toNat < (List.map c28 l_46).length) ∧ ((4 : Nat) = 4) ∧ (E.rowAt { ver := 0, ty := 28, k := BK.row (4) (List.map c28 l_46) : Blk } j_45.toNat (c28 l_46[j_45.toNat]!)) ∧ (0 + (4 : Nat) ≤ (c28 l_46[j_45.toNat]!).length) ∧ _ ∧ ((AV.b !laterV l_46[i_44.toNat]! l_46[j_45.toNat]! m) = AV.b (decide ¬laterV l_46[i_44.toNat]! l_46[j_45.toNat]! m = true)) ∧ (AV.b (decide ¬laterV l_46[i_44.toNat]! l_46[j_45.toNat]! m = true) = AV.b (decide ((↑l_1.length : Int) ≤ j_45 ∨ i_44 < f_16 + w_8 ∧ ¬laterV l_46[i_44.toNat]! l_46[j_45.toNat]! m = true)))) cx [(2, { tell := some (.b (false)) }), (6, { tell := some (.b (true)) }), (11, { row := (c28 l_46[i_44.toNat]!) }), (15, { row := (c28 l_46[j_45.toNat]!) }), (17, { val := some (.b (laterV l_46[i_44.toNat]! l_46[j_45.toNat]! m)) }), (18, { tell := some (.b (decide ¬laterV l_46[i_44.toNat]! l_46[j_45.toNat]! m = true)) }), (20, { tell := some (.b (decide ((↑l_1.length : Int) ≤ j_45 ∨ i_44 < f_16 + w_8 ∧ ¬laterV l_46[i_44.toNat]! l_46[j_45.toNat]! m = true))) })] ([1, 5] ++ List.range' 7 8 ++ [88]) [1005, 36] ⟨(told_false h_60), (told_true h_61), (by omega), ?g11, (by kernel_rfl), ?g12, ?g13, (by omega), ?g14, (by kernel_rfl), ?g15, ?g16, (con76 (l_46[i_44.toNat]!) (l_46[j_45.toNat]!) (m)), (told_not), (by simp only [eq_false h_60, eq_true h_61, told_simp1, told_simp2, and_true, true_and, and_false, false_and, or_true, true_or, or_false, false_or, not_true_eq_false, not_false_eq_true, decide_true, decide_false, Bool.decide_eq_true])⟩ ?_; rotate_left 6
  exact ⟨rfl, by kernel_rfl⟩
  refine ra (A := _ ∧ _ ∧ (AV.b false = AV.b (decide ((↑l_1.length : Int) ≤ j_45 ∨ i_44 < f_16 + w_8 ∧ ¬laterV l_46[i_44.toNat]! l_46[j_45.toNat]! m = true)))) cx [(2, { tell := some (.b (false)) }), (6, { tell := some (.b (false)) }), (20, { tell := some (.b (decide ((↑l_1.length : Int) ≤ j_45 ∨ i_44 < f_16 + w_8 ∧ ¬laterV l_46[i_44.toNat]! l_46[j_45.toNat]! m = true))) })] ([1, 5] ++ List.range' 7 8 ++ [88]) [1005, 36] ⟨(told_false h_60), (told_false h_61), (by simp only [eq_false h_60, eq_false h_61, told_simp1, told_simp2, and_true, true_and, and_false, false_and, or_true, true_or, or_false, false_or, not_true_eq_false, not_false_eq_true, decide_true, decide_false, Bool.decide_eq_true])⟩ ?_
  exact ⟨rfl, by kernel_rfl⟩
  refine sn ?_
  refine st_dec ((↑l_1.length : Int) ≤ j_45 ∨ i_44 < f_16 + w_8 ∧ ¬laterV l_46[i_44.toNat]! l_46[j_45.toNat]! m = true) (by kernel_rfl) (by kernel_rfl) (fun h_62 => ?_) (fun h_62 => ?_)
  refine sq ?_
  refine rg (A := ((0 : Int) ≤ i_44) ∧ (i_44.toNat < (List.map c28 l_46).length) ∧ ((4 : Nat) = 4) ∧ (E.rowAt { ver := 0, ty := 28, k := BK.row (4) (List.map c28 l_46) : Blk } i_44.toNat (c28 l_46[i_44.toNat]!)) ∧ (0 + (4 : Nat) ≤ (c28 l_46[i_44.toNat]!).length) ∧ (28 = (28 : Nat)) ∧ ((4 : Nat) = 4) ∧ ([AV.i IntKind.i64 (0 : Int), AV.i IntKind.i64 (0 : Int), AV.s { data := #[] : ByteArray }, AV.i IntKind.i64 (0 : Int)].length = (4 : Nat)) ∧ (∀ (r : List AV), r ∈ List.map c28 [l_46[i_44.toNat]!] → r.length = 4) ∧ ((List.map c28 m_47).length + (List.map c28 [l_46[i_44.toNat]!]).length ≤ maxLen) ∧ (((List.map c28 m_47).length + (List.map c28 [l_46[i_44.toNat]!]).length) * (40 : Nat) ≤ (140737488355328 : Nat)) ∧ (List.map c28 m_47 ++ List.map c28 [l_46[i_44.toNat]!] = List.map c28 (m_47 ++ [l_46[i_44.toNat]!]))) cx [(4, { row := (c28 l_46[i_44.toNat]!) }), (6, { rows := some (List.map c28 (m_47 ++ [l_46[i_44.toNat]!])) })] ([1, 5] ++ List.range' 7 8) [1005, 36] ⟨(by omega), ?g17, (by kernel_rfl), ?g18, ?g19, (by kernel_rfl), (by kernel_rfl), (by kernel_rfl), (by (with_reducible refine len_map (fun _ => ?_) _; kernel_rfl)), (by (simp only [Go.maxLen, List.length_map, List.length_append, List.length_cons, List.length_nil]; omega)), (by (simp only [Go.maxLen, List.length_map, List.length_append, List.length_cons, List.length_nil]; omega)), (by (with_reducible refine app_map ?_; kernel_rfl))⟩ ?_; rotate_left 3
  refine sn ?_
  refine rg (A := (AV.i IntKind.i64 (IntKind.i64.wrap (i_44 + (1 : Int))) = AV.i IntKind.i64 (i_44 + (1 : Int)))) cx [(1, { tell := some (.i .i64 (i_44 + (1 : Int))) })] ([1, 5] ++ List.range' 7 8) [1005, 36] (told_i64 (by omega) (by omega)) ?_
  refine q_blk_normal ?_
  refine sn ?_
  refine loop_next ((i_44 + (1 : Int), j_45, l_46, m_47 ++ [l_46[i_44.toNat]!])) (by kernel_rfl) (show (min (f_16 + w_8) (↑l_1.length : Int) - (i_44 + (1 : Int)) + (min (min (f_16 + w_8) (↑l_1.length : Int) + w_8) (↑l_1.length : Int) - j_45)).toNat < (min (f_16 + w_8) (↑l_1.length : Int) - i_44 + (min (min (f_16 + w_8) (↑l_1.length : Int) + w_8) (↑l_1.length : Int) - j_45)).toNat from (by omega)) (show invB3 (leM m) l_17 f_16 (min (f_16 + w_8) (↑l_1.length : Int)) (min (min (f_16 + w_8) (↑l_1.length : Int) + w_8) (↑l_1.length : Int)) m_18 (i_44 + (1 : Int)) j_45 l_46 (m_47 ++ [l_46[i_44.toNat]!]) from ?g20); rotate_left 1
  refine sq ?_
  refine rg (A := ((0 : Int) ≤ j_45) ∧ (j_45.toNat < (List.map c28 l_46).length) ∧ ((4 : Nat) = 4) ∧ (E.rowAt { ver := 0, ty := 28, k := BK.row (4) (List.map c28 l_46) : Blk } j_45.toNat (c28 l_46[j_45.toNat]!)) ∧ (0 + (4 : Nat) ≤ (c28 l_46[j_45.toNat]!).length) ∧ (28 = (28 : Nat)) ∧ ((4 : Nat) = 4) ∧ ([AV.i IntKind.i64 (0 : Int), AV.i IntKind.i64 (0 : Int), AV.s { data := #[] : ByteArray }, AV.i IntKind.i64 (0 : Int)].length = (4 : Nat)) ∧ (∀ (r : List AV), r ∈ List.map c28 [l_46[j_45.toNat]!] → r.length = 4) ∧ ((List.map c28 m_47).length + (List.map c28 [l_46[j_45.toNat]!]).length ≤ maxLen) ∧ (((List.map c28 m_47).length + (List.map c28 [l_46[j_45.toNat]!]).length) * (40 : Nat) ≤ (140737488355328 : Nat)) ∧ (List.map c28 m_47 ++ List.map c28 [l_46[j_45.toNat]!] = List.map c28 (m_47 ++ [l_46[j_45.toNat]!]))) cx [(4, { row := (c28 l_46[j_45.toNat]!) }), (6, { rows := some (List.map c28 (m_47 ++ [l_46[j_45.toNat]!])) })] ([1, 5] ++ List.range' 7 8) [1005, 36] ⟨(by omega), ?g21, (by kernel_rfl), ?g22, ?g23, (by kernel_rfl), (by kernel_rfl), (by kernel_rfl), (by (with_reducible refine len_map (fun _ => ?_) _; kernel_rfl)), (by (simp only [Go.maxLen, List.length_map, List.length_append, List.length_cons, List.length_nil]; omega)), (by (simp only [Go.maxLen, List.length_map, List.length_append, List.length_cons, List.length_nil]; omega)), (by (with_reducible refine app_map ?_; kernel_rfl))⟩ ?_; rotate_left 3
  refine sn ?_
  refine rg (A := (AV.i IntKind.i64 (IntKind.i64.wrap (j_45 + (1 : Int))) = AV.i IntKind.i64 (j_45 + (1 : Int)))) cx [(1, { tell := some (.i .i64 (j_45 + (1 : Int))) })] ([1, 5] ++ List.range' 7 8) [1005, 36] (told_i64 (by omega) (by omega)) ?_
  refine q_blk_normal ?_
  refine sn ?_
  refine loop_next ((i_44, j_45 + (1 : Int), l_46, m_47 ++ [l_46[j_45.toNat]!])) (by kernel_rfl) (show (min (f_16 + w_8) (↑l_1.length : Int) - i_44 + (min (min (f_16 + w_8) (↑l_1.length : Int) + w_8) (↑l_1.length : Int) - (j_45 + (1 : Int)))).toNat < (min (f_16 + w_8) (↑l_1.length : Int) - i_44 + (min (min (f_16 + w_8) (↑l_1.length : Int) + w_8) (↑l_1.length : Int) - j_45)).toNat from (by omega)) (show invB3 (leM m) l_17 f_16 (min (f_16 + w_8) (↑l_1.length : Int)) (min (min (f_16 + w_8) (↑l_1.length : Int) + w_8) (↑l_1.length : Int)) m_18 i_44 (j_45 + (1 : Int)) l_46 (m_47 ++ [l_46[j_45.toNat]!]) from ?g24); rotate_left 1
  refine st_exit 6 (by kernel_rfl) ?_
  refine q_seq_exit ?_
  refine q_seq_exit ?_
  refine q_blk_hit ?_
  refine q_blk_normal ?_
  refine sn ?_
  refine rg (A := (AV.i IntKind.i64 (IntKind.i64.wrap ((2 : Int) * w_8)) = AV.i IntKind.i64 ((2 : Int) * w_8)) ∧ (AV.i IntKind.i64 (IntKind.i64.wrap (f_16 + (2 : Int) * w_8)) = AV.i IntKind.i64 (f_16 + (2 : Int) * w_8))) cx [(2, { tell := some (.i .i64 ((2 : Int) * w_8)) }), (3, { tell := some (.i .i64 (f_16 + (2 : Int) * w_8)) })] [1, 5, 7, 8, 9, 10] [1005, 36] ⟨(told_i64 (by omega) (by omega)), (told_i64 (by omega) (by omega))⟩ ?_
  refine sn ?_
  refine loop_next ((f_16 + (2 : Int) * w_8, l_46, m_47)) (by kernel_rfl) (show ((↑l_1.length : Int) - (f_16 + (2 : Int) * w_8)).toNat < ((↑l_1.length : Int) - f_16).toNat from (by omega)) (show invB2 (leM m) l_9 (↑l_1.length : Int) w_8 (f_16 + (2 : Int) * w_8) l_46 m_47 from ?g25); rotate_left 1
  refine st_skip (by kernel_rfl) ?_
  refine sn ?_
  refine sq ?_
  refine rg (A := True) cx [] [1, 5, 7, 8, 9, 10, 11, 12, 13] [1005, 36] trivial ?_
  refine sn ?_
  refine sq ?_
  refine rg (A := True) cx [] ([1, 5] ++ List.range' 7 8) [1005, 36] trivial ?_
  refine sn ?_
  refine st_block 6 (by kernel_rfl) ?_
  refine st_loop (X := Int × Int × List Entry × List Entry) (fun x => ⟨[(1, .i .i64 (m)), (5, .own 1005 0), (7, .i .i64 ((↑l_1.length : Int))), (8, .i .i64 (w_8)), (9, .own 36 0), (10, .i .i64 (f_16)), (11, .i .i64 (f_16 + w_8)), (12, .i .i64 (f_16 + w_8 + w_8)), (13, .i .i64 (x.fst)), (14, .i .i64 (x.snd.fst))], [(1005, ⟨0, 28, .row 4 (List.map c28 x.snd.snd.fst)⟩), (36, ⟨0, 28, .row 4 (List.map c28 x.snd.snd.snd)⟩)]⟩) (fun x ↦ decB3 (min (f_16 + w_8) (↑l_1.length : Int)) (min (min (f_16 + w_8) (↑l_1.length : Int) + w_8) (↑l_1.length : Int)) x.fst x.snd.fst x.snd.snd.fst x.snd.snd.snd) (fun x ↦ invB3 (leM m) l_17 f_16 (min (f_16 + w_8) (↑l_1.length : Int)) (min (min (f_16 + w_8) (↑l_1.length : Int) + w_8) (↑l_1.length : Int)) m_18 x.fst x.snd.fst x.snd.snd.fst x.snd.snd.snd) ([1, 5] ++ List.range' 7 8) [1005, 36] ((f_16, f_16 + w_8, l_17, m_18)) (by kernel_rfl) (by kernel_rfl) (show invB3 (leM m) l_17 f_16 (min (f_16 + w_8) (↑l_1.length : Int)) (min (min (f_16 + w_8) (↑l_1.length : Int) + w_8) (↑l_1.length : Int)) m_18 f_16 (f_16 + w_8) l_17 m_18 from ?g26) ?_; rotate_left 1
  rintro ⟨i_63, j_64, l_65, m_66⟩ h_67
  obtain ⟨h_68, h_69, h_70, h_71, h_72, h_73, h_74⟩ : l_65 = l_17 ∧ f_16 ≤ i_63 ∧ i_63 ≤ min (f_16 + w_8) (↑l_1.length : Int) ∧ min (f_16 + w_8) (↑l_1.length : Int) ≤ j_64 ∧ j_64 ≤ min (min (f_16 + w_8) (↑l_1.length : Int) + w_8) (↑l_1.length : Int) ∧ (↑m_66.length : Int) = i_63 + (j_64 - min (f_16 + w_8) (↑l_1.length : Int)) ∧ m_66 ++ (subP l_17 i_63 (min (f_16 + w_8) (↑l_1.length : Int))).merge (subP l_17 j_64 (min (min (f_16 + w_8) (↑l_1.length : Int) + w_8) (↑l_1.length : Int))) (leM m) = m_18 ++ (subP l_17 f_16 (min (f_16 + w_8) (↑l_1.length : Int))).merge (subP l_17 (min (f_16 + w_8) (↑l_1.length : Int)) (min (min (f_16 + w_8) (↑l_1.length : Int) + w_8) (↑l_1.length : Int))) (leM m) := h_67
  refine sq ?_
  refine sq ?_
  refine st_join (σ' := ⟨[(1, .i .i64 (m)), (5, .own 1005 0), (7, .i .i64 ((↑l_1.length : Int))), (8, .i .i64 (w_8)), (9, .own 36 0), (10, .i .i64 (f_16)), (11, .i .i64 (f_16 + w_8)), (12, .i .i64 (f_16 + w_8 + w_8)), (13, .i .i64 (i_63)), (14, .i .i64 (j_64)), (67, .b (decide (i_63 < f_16 + w_8 ∨ j_64 < f_16 + w_8 + w_8)))], [(1005, ⟨0, 28, .row 4 (List.map c28 l_65)⟩), (36, ⟨0, 28, .row 4 (List.map c28 m_66)⟩)]⟩) ?_ ?_
  refine st_split (i_63 < f_16 + w_8) (fun h_76 => ?_) (fun h_76 => ?_)
  refine rg (A := _ ∧ (AV.b true = AV.b (decide (i_63 < f_16 + w_8 ∨ j_64 < f_16 + w_8 + w_8)))) cx [(2, { tell := some (.b (true)) }), (7, { tell := some (.b (decide (i_63 < f_16 + w_8 ∨ j_64 < f_16 + w_8 + w_8))) })] ([1, 5] ++ List.range' 7 8 ++ [67]) [1005, 36] ⟨(told_true h_76), (by simp only [eq_true h_76, told_simp1, told_simp2, and_true, true_and, and_false, false_and, or_true, true_or, or_false, false_or, not_true_eq_false, not_false_eq_true, decide_true, decide_false, Bool.decide_eq_true])⟩ ?_
  exact ⟨rfl, by kernel_rfl⟩
  refine rg (A := _ ∧ (AV.b (decide (j_64 < f_16 + w_8 + w_8)) = AV.b (decide (j_64 < f_16 + w_8 + w_8))) ∧ (AV.b (decide (j_64 < f_16 + w_8 + w_8)) = AV.b (decide (i_63 < f_16 + w_8 ∨ j_64 < f_16 + w_8 + w_8)))) cx [(2, { tell := some (.b (false)) }), (6, { tell := some (.b (decide (j_64 < f_16 + w_8 + w_8))) }), (7, { tell := some (.b (decide (i_63 < f_16 + w_8 ∨ j_64 < f_16 + w_8 + w_8))) })] ([1, 5] ++ List.range' 7 8 ++ [67]) [1005, 36] ⟨(told_false h_76), (by kernel_rfl), (by simp only [eq_false h_76, told_simp1, told_simp2, and_true, true_and, and_false, false_and, or_true, true_or, or_false, false_or, not_true_eq_false, not_false_eq_true, decide_true, decide_false, Bool.decide_eq_true])⟩ ?_
  exact ⟨rfl, by kernel_rfl⟩
  refine sn ?_
  refine st_dec (i_63 < f_16 + w_8 ∨ j_64 < f_16 + w_8 + w_8) (by kernel_rfl) (by kernel_rfl) (fun h_77 => ?_) (fun h_77 => ?_)
  refine st_skip (by kernel_rfl) ?_
  refine sn ?_
  refine st_block 7 (by kernel_rfl) ?_
  refine sq ?_
  refine st_join (σ' := ⟨[(1, .i .i64 (m)), (5, .own 1005 0), (7, .i .i64 ((↑l_1.length : Int))), (8, .i .i64 (w_8)), (9, .own 36 0), (10, .i .i64 (f_16)), (11, .i .i64 (f_16 + w_8)), (12, .i .i64 (f_16 + w_8 + w_8)), (13, .i .i64 (i_63)), (14, .i .i64 (j_64)), (88, .b (decide (f_16 + w_8 + w_8 ≤ j_64 ∨ i_63 < f_16 + w_8 ∧ ¬laterV l_65[i_63.toNat]! l_65[j_64.toNat]! m = true)))], [(1005, ⟨0, 28, .row 4 (List.map c28 l_65)⟩), (36, ⟨0, 28, .row 4 (List.map c28 m_66)⟩)]⟩) ?_ ?_
  refine st_split (f_16 + w_8 + w_8 ≤ j_64) (fun h_79 => ?_) (fun h_79 => ?_)
  refine ra (A := _ ∧ (AV.b true = AV.b (decide (f_16 + w_8 + w_8 ≤ j_64 ∨ i_63 < f_16 + w_8 ∧ ¬laterV l_65[i_63.toNat]! l_65[j_64.toNat]! m = true)))) cx [(2, { tell := some (.b (true)) }), (20, { tell := some (.b (decide (f_16 + w_8 + w_8 ≤ j_64 ∨ i_63 < f_16 + w_8 ∧ ¬laterV l_65[i_63.toNat]! l_65[j_64.toNat]! m = true))) })] ([1, 5] ++ List.range' 7 8 ++ [88]) [1005, 36] ⟨(told_true h_79), (by simp only [eq_true h_79, told_simp1, told_simp2, and_true, true_and, and_false, false_and, or_true, true_or, or_false, false_or, not_true_eq_false, not_false_eq_true, decide_true, decide_false, Bool.decide_eq_true])⟩ ?_
  exact ⟨rfl, by kernel_rfl⟩
  refine st_split (i_63 < f_16 + w_8) (fun h_80 => ?_) (fun h_80 => ?_)
  refine ra (A := _ ∧ _ ∧ ((0 : Int) ≤ i_63) ∧ (i_63.toNat < (List.map c28 l_65).length) ∧ ((4 : Nat) = 4) ∧ (E.rowAt { ver := 0, ty := 28, k := BK.row (4) (List.map c28 l_65) : Blk } i_63.toNat (c28 l_65[i_63.toNat]!)) ∧ (0 + (4 : Nat) ≤ (c28 l_65[i_63.toNat]!).length) ∧ ((0 : Int) ≤ j_64) ∧ (j_64.toNat < (List.map c28 l_65).length) ∧ ((4 : Nat) = 4) ∧ (E.rowAt { ver := 0, ty := 28, k := BK.row (4) (List.map c28 l_65) : Blk } j_64.toNat (c28 l_65[j_64.toNat]!)) ∧ (0 + (4 : Nat) ≤ (c28 l_65[j_64.toNat]!).length) ∧ _ ∧ ((AV.b !laterV l_65[i_63.toNat]! l_65[j_64.toNat]! m) = AV.b (decide ¬laterV l_65[i_63.toNat]! l_65[j_64.toNat]! m = true)) ∧ (AV.b (decide ¬laterV l_65[i_63.toNat]! l_65[j_64.toNat]! m = true) = AV.b (decide (f_16 + w_8 + w_8 ≤ j_64 ∨ i_63 < f_16 + w_8 ∧ ¬laterV l_65[i_63.toNat]! l_65[j_64.toNat]! m = true)))) cx [(2, { tell := some (.b (false)) }), (6, { tell := some (.b (true)) }), (11, { row := (c28 l_65[i_63.toNat]!) }), (15, { row := (c28 l_65[j_64.toNat]!) }), (17, { val := some (.b (laterV l_65[i_63.toNat]! l_65[j_64.toNat]! m)) }), (18, { tell := some (.b (decide ¬laterV l_65[i_63.toNat]! l_65[j_64.toNat]! m = true)) }), (20, { tell := some (.b (decide (f_16 + w_8 + w_8 ≤ j_64 ∨ i_63 < f_16 + w_8 ∧ ¬laterV l_65[i_63.toNat]! l_65[j_64.toNat]! m = true))) })] ([1, 5] ++ List.range' 7 8 ++ [88]) [1005, 36] ⟨(told_false h_79), (told_true h_80), (by omega), ?g27, (by kernel_rfl), ?g28, ?g29, (by omega), ?g30, (by kernel_rfl), ?g31, ?g32, (con76 (l_65[i_63.toNat]!) (l_65[j_64.toNat]!) (m)), (told_not), (by simp only [eq_false h_79, eq_true h_80, told_simp1, told_simp2, and_true, true_and, and_false, false_and, or_true, true_or, or_false, false_or, not_true_eq_false, not_false_eq_true, decide_true, decide_false, Bool.decide_eq_true])⟩ ?_; rotate_left 6
  exact ⟨rfl, by kernel_rfl⟩
  refine ra (A := _ ∧ _ ∧ (AV.b false = AV.b (decide (f_16 + w_8 + w_8 ≤ j_64 ∨ i_63 < f_16 + w_8 ∧ ¬laterV l_65[i_63.toNat]! l_65[j_64.toNat]! m = true)))) cx [(2, { tell := some (.b (false)) }), (6, { tell := some (.b (false)) }), (20, { tell := some (.b (decide (f_16 + w_8 + w_8 ≤ j_64 ∨ i_63 < f_16 + w_8 ∧ ¬laterV l_65[i_63.toNat]! l_65[j_64.toNat]! m = true))) })] ([1, 5] ++ List.range' 7 8 ++ [88]) [1005, 36] ⟨(told_false h_79), (told_false h_80), (by simp only [eq_false h_79, eq_false h_80, told_simp1, told_simp2, and_true, true_and, and_false, false_and, or_true, true_or, or_false, false_or, not_true_eq_false, not_false_eq_true, decide_true, decide_false, Bool.decide_eq_true])⟩ ?_
  exact ⟨rfl, by kernel_rfl⟩
  refine sn ?_
  refine st_dec (f_16 + w_8 + w_8 ≤ j_64 ∨ i_63 < f_16 + w_8 ∧ ¬laterV l_65[i_63.toNat]! l_65[j_64.toNat]! m = true) (by kernel_rfl) (by kernel_rfl) (fun h_81 => ?_) (fun h_81 => ?_)
  refine sq ?_
  refine rg (A := ((0 : Int) ≤ i_63) ∧ (i_63.toNat < (List.map c28 l_65).length) ∧ ((4 : Nat) = 4) ∧ (E.rowAt { ver := 0, ty := 28, k := BK.row (4) (List.map c28 l_65) : Blk } i_63.toNat (c28 l_65[i_63.toNat]!)) ∧ (0 + (4 : Nat) ≤ (c28 l_65[i_63.toNat]!).length) ∧ (28 = (28 : Nat)) ∧ ((4 : Nat) = 4) ∧ ([AV.i IntKind.i64 (0 : Int), AV.i IntKind.i64 (0 : Int), AV.s { data := #[] : ByteArray }, AV.i IntKind.i64 (0 : Int)].length = (4 : Nat)) ∧ (∀ (r : List AV), r ∈ List.map c28 [l_65[i_63.toNat]!] → r.length = 4) ∧ ((List.map c28 m_66).length + (List.map c28 [l_65[i_63.toNat]!]).length ≤ maxLen) ∧ (((List.map c28 m_66).length + (List.map c28 [l_65[i_63.toNat]!]).length) * (40 : Nat) ≤ (140737488355328 : Nat)) ∧ (List.map c28 m_66 ++ List.map c28 [l_65[i_63.toNat]!] = List.map c28 (m_66 ++ [l_65[i_63.toNat]!]))) cx [(4, { row := (c28 l_65[i_63.toNat]!) }), (6, { rows := some (List.map c28 (m_66 ++ [l_65[i_63.toNat]!])) })] ([1, 5] ++ List.range' 7 8) [1005, 36] ⟨(by omega), ?g33, (by kernel_rfl), ?g34, ?g35, (by kernel_rfl), (by kernel_rfl), (by kernel_rfl), (by (with_reducible refine len_map (fun _ => ?_) _; kernel_rfl)), (by (simp only [Go.maxLen, List.length_map, List.length_append, List.length_cons, List.length_nil]; omega)), (by (simp only [Go.maxLen, List.length_map, List.length_append, List.length_cons, List.length_nil]; omega)), (by (with_reducible refine app_map ?_; kernel_rfl))⟩ ?_; rotate_left 3
  refine sn ?_
  refine rg (A := (AV.i IntKind.i64 (IntKind.i64.wrap (i_63 + (1 : Int))) = AV.i IntKind.i64 (i_63 + (1 : Int)))) cx [(1, { tell := some (.i .i64 (i_63 + (1 : Int))) })] ([1, 5] ++ List.range' 7 8) [1005, 36] (told_i64 (by omega) (by omega)) ?_
  refine q_blk_normal ?_
  refine sn ?_
  refine loop_next ((i_63 + (1 : Int), j_64, l_65, m_66 ++ [l_65[i_63.toNat]!])) (by kernel_rfl) (show (min (f_16 + w_8) (↑l_1.length : Int) - (i_63 + (1 : Int)) + (min (min (f_16 + w_8) (↑l_1.length : Int) + w_8) (↑l_1.length : Int) - j_64)).toNat < (min (f_16 + w_8) (↑l_1.length : Int) - i_63 + (min (min (f_16 + w_8) (↑l_1.length : Int) + w_8) (↑l_1.length : Int) - j_64)).toNat from (by omega)) (show invB3 (leM m) l_17 f_16 (min (f_16 + w_8) (↑l_1.length : Int)) (min (min (f_16 + w_8) (↑l_1.length : Int) + w_8) (↑l_1.length : Int)) m_18 (i_63 + (1 : Int)) j_64 l_65 (m_66 ++ [l_65[i_63.toNat]!]) from ?g36); rotate_left 1
  refine sq ?_
  refine rg (A := ((0 : Int) ≤ j_64) ∧ (j_64.toNat < (List.map c28 l_65).length) ∧ ((4 : Nat) = 4) ∧ (E.rowAt { ver := 0, ty := 28, k := BK.row (4) (List.map c28 l_65) : Blk } j_64.toNat (c28 l_65[j_64.toNat]!)) ∧ (0 + (4 : Nat) ≤ (c28 l_65[j_64.toNat]!).length) ∧ (28 = (28 : Nat)) ∧ ((4 : Nat) = 4) ∧ ([AV.i IntKind.i64 (0 : Int), AV.i IntKind.i64 (0 : Int), AV.s { data := #[] : ByteArray }, AV.i IntKind.i64 (0 : Int)].length = (4 : Nat)) ∧ (∀ (r : List AV), r ∈ List.map c28 [l_65[j_64.toNat]!] → r.length = 4) ∧ ((List.map c28 m_66).length + (List.map c28 [l_65[j_64.toNat]!]).length ≤ maxLen) ∧ (((List.map c28 m_66).length + (List.map c28 [l_65[j_64.toNat]!]).length) * (40 : Nat) ≤ (140737488355328 : Nat)) ∧ (List.map c28 m_66 ++ List.map c28 [l_65[j_64.toNat]!] = List.map c28 (m_66 ++ [l_65[j_64.toNat]!]))) cx [(4, { row := (c28 l_65[j_64.toNat]!) }), (6, { rows := some (List.map c28 (m_66 ++ [l_65[j_64.toNat]!])) })] ([1, 5] ++ List.range' 7 8) [1005, 36] ⟨(by omega), ?g37, (by kernel_rfl), ?g38, ?g39, (by kernel_rfl), (by kernel_rfl), (by kernel_rfl), (by (with_reducible refine len_map (fun _ => ?_) _; kernel_rfl)), (by (simp only [Go.maxLen, List.length_map, List.length_append, List.length_cons, List.length_nil]; omega)), (by (simp only [Go.maxLen, List.length_map, List.length_append, List.length_cons, List.length_nil]; omega)), (by (with_reducible refine app_map ?_; kernel_rfl))⟩ ?_; rotate_left 3
  refine sn ?_
  refine rg (A := (AV.i IntKind.i64 (IntKind.i64.wrap (j_64 + (1 : Int))) = AV.i IntKind.i64 (j_64 + (1 : Int)))) cx [(1, { tell := some (.i .i64 (j_64 + (1 : Int))) })] ([1, 5] ++ List.range' 7 8) [1005, 36] (told_i64 (by omega) (by omega)) ?_
  refine q_blk_normal ?_
  refine sn ?_
  refine loop_next ((i_63, j_64 + (1 : Int), l_65, m_66 ++ [l_65[j_64.toNat]!])) (by kernel_rfl) (show (min (f_16 + w_8) (↑l_1.length : Int) - i_63 + (min (min (f_16 + w_8) (↑l_1.length : Int) + w_8) (↑l_1.length : Int) - (j_64 + (1 : Int)))).toNat < (min (f_16 + w_8) (↑l_1.length : Int) - i_63 + (min (min (f_16 + w_8) (↑l_1.length : Int) + w_8) (↑l_1.length : Int) - j_64)).toNat from (by omega)) (show invB3 (leM m) l_17 f_16 (min (f_16 + w_8) (↑l_1.length : Int)) (min (min (f_16 + w_8) (↑l_1.length : Int) + w_8) (↑l_1.length : Int)) m_18 i_63 (j_64 + (1 : Int)) l_65 (m_66 ++ [l_65[j_64.toNat]!]) from ?g40); rotate_left 1
  refine st_exit 6 (by kernel_rfl) ?_
  refine q_seq_exit ?_
  refine q_seq_exit ?_
  refine q_blk_hit ?_
  refine q_blk_normal ?_
  refine sn ?_
  refine rg (A := (AV.i IntKind.i64 (IntKind.i64.wrap ((2 : Int) * w_8)) = AV.i IntKind.i64 ((2 : Int) * w_8)) ∧ (AV.i IntKind.i64 (IntKind.i64.wrap (f_16 + (2 : Int) * w_8)) = AV.i IntKind.i64 (f_16 + (2 : Int) * w_8))) cx [(2, { tell := some (.i .i64 ((2 : Int) * w_8)) }), (3, { tell := some (.i .i64 (f_16 + (2 : Int) * w_8)) })] [1, 5, 7, 8, 9, 10] [1005, 36] ⟨(told_i64 (by omega) (by omega)), (told_i64 (by omega) (by omega))⟩ ?_
  refine sn ?_
  refine loop_next ((f_16 + (2 : Int) * w_8, l_65, m_66)) (by kernel_rfl) (show ((↑l_1.length : Int) - (f_16 + (2 : Int) * w_8)).toNat < ((↑l_1.length : Int) - f_16).toNat from (by omega)) (show invB2 (leM m) l_9 (↑l_1.length : Int) w_8 (f_16 + (2 : Int) * w_8) l_65 m_66 from ?g41); rotate_left 1
  refine st_exit 4 (by kernel_rfl) ?_
  refine q_seq_exit ?_
  refine q_seq_exit ?_
  refine q_blk_hit ?_
  refine sn ?_
  refine rg (A := True) cx [] [1, 5, 7, 8] [36] trivial ?_
  refine q_blk_normal ?_
  refine sn ?_
  refine rg (A := (AV.i IntKind.i64 (IntKind.i64.wrap ((2 : Int) * w_8)) = AV.i IntKind.i64 ((2 : Int) * w_8))) cx [(1, { tell := some (.i .i64 ((2 : Int) * w_8)) })] [1, 5, 7, 8] [36] (told_i64 (by omega) (by omega)) ?_
  refine sn ?_
  refine loop_next_sw [(1005, 36)] [] (((2 : Int) * w_8, m_18)) (by kernel_rfl) (show ((↑l_1.length : Int) - (2 : Int) * w_8).toNat < ((↑l_1.length : Int) - w_8).toNat from (by omega)) (show invB1 (leM m) es (↑l_1.length : Int) ((2 : Int) * w_8) m_18 from ?g42); rotate_left 1
  refine st_exit 2 (by kernel_rfl) ?_
  refine q_seq_exit ?_
  refine q_seq_exit ?_
  refine q_blk_hit ?_
  refine sn ?_
  refine sq ?_
  refine rg (A := True) cx [] [4] [1005] trivial ?_
  refine sn ?_
  refine st_ret (by kernel_rfl) ?_
  refine q_ret (r := .sl (List.map c28 l_9)) (obl := []) (by kernel_rfl) trivial (AVle.eq (show AV.sl (List.map c28 l_9) = AV.sl (List.map c28 (botS (leM m) (1 : Nat) es)) from ?g43)); rotate_left 1
  rotate_left
  revert i_0 l_1 h_3 h_4 h_5 h_6 h_7; rotate_left
  revert i_0 l_1 h_3 h_4 h_5 h_6 h_7; rotate_left
  revert i_0 l_1 h_3 h_4 h_5 h_6 h_7 w_8 l_9 h_11 h_12 h_13 h_14 h_15; rotate_left
  revert i_0 l_1 h_3 h_4 h_5 h_6 h_7 w_8 l_9 h_11 h_12 h_13 h_14 h_15 f_16 l_17 m_18 h_20 h_21 h_22 h_23 h_24 h_25 h_26; rotate_left
  revert i_0 l_1 h_3 h_4 h_5 h_6 h_7 w_8 l_9 h_11 h_12 h_13 h_14 h_15 f_16 l_17 m_18 h_20 h_21 h_22 h_23 h_24 h_25 h_26 i_27 j_28 l_29 m_30 h_32 h_33 h_34 h_35 h_36 h_37 h_38 h_41 h_42; rotate_left
  revert i_0 l_1 h_3 h_4 h_5 h_6 h_7 w_8 l_9 h_11 h_12 h_13 h_14 h_15 f_16 l_17 m_18 h_20 h_21 h_22 h_23 h_24 h_25 h_26 i_27 j_28 l_29 m_30 h_32 h_33 h_34 h_35 h_36 h_37 h_38 h_41 h_42; rotate_left
  revert i_0 l_1 h_3 h_4 h_5 h_6 h_7 w_8 l_9 h_11 h_12 h_13 h_14 h_15 f_16 l_17 m_18 h_20 h_21 h_22 h_23 h_24 h_25 h_26 i_27 j_28 l_29 m_30 h_32 h_33 h_34 h_35 h_36 h_37 h_38 h_41 h_42; rotate_left
  revert i_0 l_1 h_3 h_4 h_5 h_6 h_7 w_8 l_9 h_11 h_12 h_13 h_14 h_15 f_16 l_17 m_18 h_20 h_21 h_22 h_23 h_24 h_25 h_26 i_27 j_28 l_29 m_30 h_32 h_33 h_34 h_35 h_36 h_37 h_38 h_41 h_42; rotate_left
  revert i_0 l_1 h_3 h_4 h_5 h_6 h_7 w_8 l_9 h_11 h_12 h_13 h_14 h_15 f_16 l_17 m_18 h_20 h_21 h_22 h_23 h_24 h_25 h_26 i_27 j_28 l_29 m_30 h_32 h_33 h_34 h_35 h_36 h_37 h_38 h_41; rotate_left
  revert i_0 l_1 h_3 h_4 h_5 h_6 h_7 w_8 l_9 h_11 h_12 h_13 h_14 h_15 f_16 l_17 m_18 h_20 h_21 h_22 h_23 h_24 h_25 h_43; rotate_left
  revert i_0 l_1 h_3 h_4 h_5 h_6 h_7 w_8 l_9 h_11 h_12 h_13 h_14 h_15 f_16 l_17 m_18 h_20 h_21 h_22 h_23 h_24 h_25 h_43 i_44 j_45 l_46 m_47 h_49 h_50 h_51 h_52 h_53 h_54 h_55 h_58 h_60 h_61; rotate_left
  revert i_0 l_1 h_3 h_4 h_5 h_6 h_7 w_8 l_9 h_11 h_12 h_13 h_14 h_15 f_16 l_17 m_18 h_20 h_21 h_22 h_23 h_24 h_25 h_43 i_44 j_45 l_46 m_47 h_49 h_50 h_51 h_52 h_53 h_54 h_55 h_58 h_60 h_61; rotate_left
  revert i_0 l_1 h_3 h_4 h_5 h_6 h_7 w_8 l_9 h_11 h_12 h_13 h_14 h_15 f_16 l_17 m_18 h_20 h_21 h_22 h_23 h_24 h_25 h_43 i_44 j_45 l_46 m_47 h_49 h_50 h_51 h_52 h_53 h_54 h_55 h_58 h_60 h_61; rotate_left
  revert i_0 l_1 h_3 h_4 h_5 h_6 h_7 w_8 l_9 h_11 h_12 h_13 h_14 h_15 f_16 l_17 m_18 h_20 h_21 h_22 h_23 h_24 h_25 h_43 i_44 j_45 l_46 m_47 h_49 h_50 h_51 h_52 h_53 h_54 h_55 h_58 h_60 h_61; rotate_left
  revert i_0 l_1 h_3 h_4 h_5 h_6 h_7 w_8 l_9 h_11 h_12 h_13 h_14 h_15 f_16 l_17 m_18 h_20 h_21 h_22 h_23 h_24 h_25 h_43 i_44 j_45 l_46 m_47 h_49 h_50 h_51 h_52 h_53 h_54 h_55 h_58 h_60 h_61; rotate_left
  revert i_0 l_1 h_3 h_4 h_5 h_6 h_7 w_8 l_9 h_11 h_12 h_13 h_14 h_15 f_16 l_17 m_18 h_20 h_21 h_22 h_23 h_24 h_25 h_43 i_44 j_45 l_46 m_47 h_49 h_50 h_51 h_52 h_53 h_54 h_55 h_58 h_60 h_61; rotate_left
  revert i_0 l_1 h_3 h_4 h_5 h_6 h_7 w_8 l_9 h_11 h_12 h_13 h_14 h_15 f_16 l_17 m_18 h_20 h_21 h_22 h_23 h_24 h_25 h_43 i_44 j_45 l_46 m_47 h_49 h_50 h_51 h_52 h_53 h_54 h_55 h_58 h_62; rotate_left
  revert i_0 l_1 h_3 h_4 h_5 h_6 h_7 w_8 l_9 h_11 h_12 h_13 h_14 h_15 f_16 l_17 m_18 h_20 h_21 h_22 h_23 h_24 h_25 h_43 i_44 j_45 l_46 m_47 h_49 h_50 h_51 h_52 h_53 h_54 h_55 h_58 h_62; rotate_left
  revert i_0 l_1 h_3 h_4 h_5 h_6 h_7 w_8 l_9 h_11 h_12 h_13 h_14 h_15 f_16 l_17 m_18 h_20 h_21 h_22 h_23 h_24 h_25 h_43 i_44 j_45 l_46 m_47 h_49 h_50 h_51 h_52 h_53 h_54 h_55 h_58 h_62; rotate_left
  revert i_0 l_1 h_3 h_4 h_5 h_6 h_7 w_8 l_9 h_11 h_12 h_13 h_14 h_15 f_16 l_17 m_18 h_20 h_21 h_22 h_23 h_24 h_25 h_43 i_44 j_45 l_46 m_47 h_49 h_50 h_51 h_52 h_53 h_54 h_55 h_58 h_62; rotate_left
  revert i_0 l_1 h_3 h_4 h_5 h_6 h_7 w_8 l_9 h_11 h_12 h_13 h_14 h_15 f_16 l_17 m_18 h_20 h_21 h_22 h_23 h_24 h_25 h_43 i_44 j_45 l_46 m_47 h_49 h_50 h_51 h_52 h_53 h_54 h_55 h_58 h_62; rotate_left
  revert i_0 l_1 h_3 h_4 h_5 h_6 h_7 w_8 l_9 h_11 h_12 h_13 h_14 h_15 f_16 l_17 m_18 h_20 h_21 h_22 h_23 h_24 h_25 h_43 i_44 j_45 l_46 m_47 h_49 h_50 h_51 h_52 h_53 h_54 h_55 h_58 h_62; rotate_left
  revert i_0 l_1 h_3 h_4 h_5 h_6 h_7 w_8 l_9 h_11 h_12 h_13 h_14 h_15 f_16 l_17 m_18 h_20 h_21 h_22 h_23 h_24 h_25 h_43 i_44 j_45 l_46 m_47 h_49 h_50 h_51 h_52 h_53 h_54 h_55 h_58 h_62; rotate_left
  revert i_0 l_1 h_3 h_4 h_5 h_6 h_7 w_8 l_9 h_11 h_12 h_13 h_14 h_15 f_16 l_17 m_18 h_20 h_21 h_22 h_23 h_24 h_25 h_43 i_44 j_45 l_46 m_47 h_49 h_50 h_51 h_52 h_53 h_54 h_55 h_58 h_62; rotate_left
  revert i_0 l_1 h_3 h_4 h_5 h_6 h_7 w_8 l_9 h_11 h_12 h_13 h_14 h_15 f_16 l_17 m_18 h_20 h_21 h_22 h_23 h_24 h_25 h_43 i_44 j_45 l_46 m_47 h_49 h_50 h_51 h_52 h_53 h_54 h_55 h_58; rotate_left
  revert i_0 l_1 h_3 h_4 h_5 h_6 h_7 w_8 l_9 h_11 h_12 h_13 h_14 h_15 f_16 l_17 m_18 h_20 h_21 h_22 h_23 h_24 h_25 h_43; rotate_left
  revert i_0 l_1 h_3 h_4 h_5 h_6 h_7 w_8 l_9 h_11 h_12 h_13 h_14 h_15 f_16 l_17 m_18 h_20 h_21 h_22 h_23 h_24 h_25 h_43 i_63 j_64 l_65 m_66 h_68 h_69 h_70 h_71 h_72 h_73 h_74 h_77 h_79 h_80; rotate_left
  revert i_0 l_1 h_3 h_4 h_5 h_6 h_7 w_8 l_9 h_11 h_12 h_13 h_14 h_15 f_16 l_17 m_18 h_20 h_21 h_22 h_23 h_24 h_25 h_43 i_63 j_64 l_65 m_66 h_68 h_69 h_70 h_71 h_72 h_73 h_74 h_77 h_79 h_80; rotate_left
  revert i_0 l_1 h_3 h_4 h_5 h_6 h_7 w_8 l_9 h_11 h_12 h_13 h_14 h_15 f_16 l_17 m_18 h_20 h_21 h_22 h_23 h_24 h_25 h_43 i_63 j_64 l_65 m_66 h_68 h_69 h_70 h_71 h_72 h_73 h_74 h_77 h_79 h_80; rotate_left
  revert i_0 l_1 h_3 h_4 h_5 h_6 h_7 w_8 l_9 h_11 h_12 h_13 h_14 h_15 f_16 l_17 m_18 h_20 h_21 h_22 h_23 h_24 h_25 h_43 i_63 j_64 l_65 m_66 h_68 h_69 h_70 h_71 h_72 h_73 h_74 h_77 h_79 h_80; rotate_left
  revert i_0 l_1 h_3 h_4 h_5 h_6 h_7 w_8 l_9 h_11 h_12 h_13 h_14 h_15 f_16 l_17 m_18 h_20 h_21 h_22 h_23 h_24 h_25 h_43 i_63 j_64 l_65 m_66 h_68 h_69 h_70 h_71 h_72 h_73 h_74 h_77 h_79 h_80; rotate_left
  revert i_0 l_1 h_3 h_4 h_5 h_6 h_7 w_8 l_9 h_11 h_12 h_13 h_14 h_15 f_16 l_17 m_18 h_20 h_21 h_22 h_23 h_24 h_25 h_43 i_63 j_64 l_65 m_66 h_68 h_69 h_70 h_71 h_72 h_73 h_74 h_77 h_79 h_80; rotate_left
  revert i_0 l_1 h_3 h_4 h_5 h_6 h_7 w_8 l_9 h_11 h_12 h_13 h_14 h_15 f_16 l_17 m_18 h_20 h_21 h_22 h_23 h_24 h_25 h_43 i_63 j_64 l_65 m_66 h_68 h_69 h_70 h_71 h_72 h_73 h_74 h_77 h_81; rotate_left
  revert i_0 l_1 h_3 h_4 h_5 h_6 h_7 w_8 l_9 h_11 h_12 h_13 h_14 h_15 f_16 l_17 m_18 h_20 h_21 h_22 h_23 h_24 h_25 h_43 i_63 j_64 l_65 m_66 h_68 h_69 h_70 h_71 h_72 h_73 h_74 h_77 h_81; rotate_left
  revert i_0 l_1 h_3 h_4 h_5 h_6 h_7 w_8 l_9 h_11 h_12 h_13 h_14 h_15 f_16 l_17 m_18 h_20 h_21 h_22 h_23 h_24 h_25 h_43 i_63 j_64 l_65 m_66 h_68 h_69 h_70 h_71 h_72 h_73 h_74 h_77 h_81; rotate_left
  revert i_0 l_1 h_3 h_4 h_5 h_6 h_7 w_8 l_9 h_11 h_12 h_13 h_14 h_15 f_16 l_17 m_18 h_20 h_21 h_22 h_23 h_24 h_25 h_43 i_63 j_64 l_65 m_66 h_68 h_69 h_70 h_71 h_72 h_73 h_74 h_77 h_81; rotate_left
  revert i_0 l_1 h_3 h_4 h_5 h_6 h_7 w_8 l_9 h_11 h_12 h_13 h_14 h_15 f_16 l_17 m_18 h_20 h_21 h_22 h_23 h_24 h_25 h_43 i_63 j_64 l_65 m_66 h_68 h_69 h_70 h_71 h_72 h_73 h_74 h_77 h_81; rotate_left
  revert i_0 l_1 h_3 h_4 h_5 h_6 h_7 w_8 l_9 h_11 h_12 h_13 h_14 h_15 f_16 l_17 m_18 h_20 h_21 h_22 h_23 h_24 h_25 h_43 i_63 j_64 l_65 m_66 h_68 h_69 h_70 h_71 h_72 h_73 h_74 h_77 h_81; rotate_left
  revert i_0 l_1 h_3 h_4 h_5 h_6 h_7 w_8 l_9 h_11 h_12 h_13 h_14 h_15 f_16 l_17 m_18 h_20 h_21 h_22 h_23 h_24 h_25 h_43 i_63 j_64 l_65 m_66 h_68 h_69 h_70 h_71 h_72 h_73 h_74 h_77 h_81; rotate_left
  revert i_0 l_1 h_3 h_4 h_5 h_6 h_7 w_8 l_9 h_11 h_12 h_13 h_14 h_15 f_16 l_17 m_18 h_20 h_21 h_22 h_23 h_24 h_25 h_43 i_63 j_64 l_65 m_66 h_68 h_69 h_70 h_71 h_72 h_73 h_74 h_77 h_81; rotate_left
  revert i_0 l_1 h_3 h_4 h_5 h_6 h_7 w_8 l_9 h_11 h_12 h_13 h_14 h_15 f_16 l_17 m_18 h_20 h_21 h_22 h_23 h_24 h_25 h_43 i_63 j_64 l_65 m_66 h_68 h_69 h_70 h_71 h_72 h_73 h_74 h_77; rotate_left
  revert i_0 l_1 h_3 h_4 h_5 h_6 h_7 w_8 l_9 h_11 h_12 h_13 h_14 h_15 f_16 l_17 m_18 h_20 h_21 h_22 h_23 h_24; rotate_left
  revert i_0 l_1 h_3 h_4 h_5 h_6 h_7 w_8 l_9 h_11 h_12 h_13 h_14 h_15; rotate_left
  all_goals
    ( intros <;> (try subst_vars) <;> first
    | omega
    | (simp only [List.length_map, List.length_append, List.length_cons, List.length_nil, Go.maxLen]; omega)
    | exact get_map (by omega)
    | exact Nat.le_of_ble_eq_true rfl
    | exact inv58a_init _
    | (apply inv58a_step <;> first | assumption | omega | rfl)
    | (apply inv58a_done <;> first | assumption | omega | rfl)
    | (apply invB2_init <;> first | assumption | omega | rfl)
    | (apply invB3_init <;> first | assumption | omega | rfl)
    | (apply invB3_leftJ <;> first | assumption | omega | rfl)
    | (apply invB3_leftM <;> first | assumption | omega | rfl)
    | (apply invB3_rightM <;> first | assumption | omega | rfl)
    | (apply invB3_done <;> first | assumption | omega | rfl)
    | (apply invB1_next <;> first | assumption | omega | rfl)
    | (apply fin58 <;> first | assumption | omega | rfl)
    | skip)
theorem con28 (es : List Entry) (d : Dot) : Con Try.prog 28 [.sl (es.map c28), .agg (c26 d)] (.tup [.agg (c28 (findE es d).1), .b (findE es d).2]) :=
  by
  refine con_lens 0 (c28) (es) (by kernel_rfl) Go.Proofs.Try.func28 (by kernel_rfl) fun hl_0 => ?_
  refine st_con tab_ok (by kernel_rfl) [.cell 4 28, .tmp 5] 21 Go.Proofs.Try.func28 (by kernel_rfl) (by kernel_rfl) ?_
  intro e0 cx
  refine sq ?_
  refine rg (A := True) cx [] [0, 3, 4] [3, 4] trivial ?_
  refine sn ?_
  refine sq ?_
  refine sq ?_
  refine rg (A := _) cx [(1, { tell := some (.i .i64 ((↑es.length : Int))) })] [3, 4, 8, 9, 10] [3, 4] (told_len c28 es) ?_
  refine sn ?_
  refine st_block 0 (by kernel_rfl) ?_
  refine st_loop (X := Int × Int × Int × Int × Int × ByteArray × Int) (fun x => ⟨[(3, .ptr (3) (0) (0) (0)), (4, .ptr (4) (0) (0) (0)), (8, .sl (List.map c28 es)), (9, .i .i64 ((↑es.length : Int))), (10, .i .i64 (x.fst))], [(3, ⟨0, 26, .var [.i .i64 (x.snd.fst), .i .i64 (x.snd.snd.fst)]⟩), (4, ⟨0, 28, .var [.i .i64 (x.snd.snd.snd.fst), .i .i64 (x.snd.snd.snd.snd.fst), .s (x.snd.snd.snd.snd.snd.fst), .i .i64 (x.snd.snd.snd.snd.snd.snd)]⟩)]⟩) (fun x ↦ dec28 es x.fst x.snd.fst x.snd.snd.fst x.snd.snd.snd.fst x.snd.snd.snd.snd.fst x.snd.snd.snd.snd.snd.fst x.snd.snd.snd.snd.snd.snd) (fun x ↦ inv28 es d x.fst x.snd.fst x.snd.snd.fst x.snd.snd.snd.fst x.snd.snd.snd.snd.fst x.snd.snd.snd.snd.snd.fst x.snd.snd.snd.snd.snd.snd) [3, 4, 8, 9, 10] [3, 4] (((0 : Int), d.rep, d.num, (0 : Int), (0 : Int), { data := #[] : ByteArray }, (0 : Int))) (by kernel_rfl) (by kernel_rfl) (show inv28 es d (0 : Int) d.rep d.num (0 : Int) (0 : Int) { data := #[] : ByteArray } (0 : Int) from ?g0) ?_; rotate_left 1
  rintro ⟨i_0, r_1, n_2, a_3, b_4, s_5, q_6⟩ h_7
  obtain ⟨h_8, h_9, h_10, h_11, h_12⟩ : (0 : Int) ≤ i_0 ∧ i_0 ≤ (↑es.length : Int) ∧ r_1 = d.rep ∧ n_2 = d.num ∧ ∀ (j : Nat), (↑j : Int) < i_0 → ¬es[j]!.dot = d := h_7
  refine sq ?_
  refine rg (A := (AV.b (decide (i_0 < (↑es.length : Int))) = AV.b (decide (i_0 < (↑es.length : Int))))) cx [(0, { tell := some (.b (decide (i_0 < (↑es.length : Int)))) })] [3, 4, 8, 9, 10, 11] [3, 4] (by kernel_rfl) ?_
  refine sn ?_
  refine sq ?_
  refine st_dec (i_0 < (↑es.length : Int)) (by kernel_rfl) (by kernel_rfl) (fun h_13 => ?_) (fun h_13 => ?_)
  refine st_skip (by kernel_rfl) ?_
  refine sn ?_
  refine sq ?_
  refine st_block 1 (by kernel_rfl) ?_
  refine sq ?_
  refine rg (A := ((0 : Int) ≤ i_0) ∧ ((List.map c28 es)[i_0.toNat]? = some (c28 es[i_0.toNat]!)) ∧ ((c28 es[i_0.toNat]!).length = (4 : Nat)) ∧ ((4 : Nat) ≤ [AV.i IntKind.i64 es[i_0.toNat]!.dot.rep, AV.i IntKind.i64 es[i_0.toNat]!.dot.num, AV.s es[i_0.toNat]!.sku, AV.i IntKind.i64 es[i_0.toNat]!.qty].length)) cx [(0, { row := (c28 es[i_0.toNat]!) })] [3, 4, 8, 9, 10, 7] [3, 4, 7] ⟨(by (with_reducible assumption)), (by (with_reducible refine get_map ?_; omega)), (by kernel_rfl), (by (simp only [List.length_append, List.length_cons, List.length_nil]; omega))⟩ ?_
  refine sn ?_
  refine sq ?_
  refine rg (A := (AggEq Try.prog (26 : Nat) [AV.i IntKind.i64 es[i_0.toNat]!.dot.rep, AV.i IntKind.i64 es[i_0.toNat]!.dot.num] [AV.i IntKind.i64 r_1, AV.i IntKind.i64 n_2] (decide (es[i_0.toNat]!.dot = { rep := r_1, num := n_2 : Dot })))) cx [(3, { val := some (.b (decide (es[i_0.toNat]!.dot = { rep := r_1, num := n_2 : Dot }))) })] [3, 4, 8, 9, 10, 7, 17] [3, 4, 7] (eq26 es[i_0.toNat]!.dot { rep := r_1, num := n_2 : Dot }) ?_
  refine sn ?_
  refine st_dec (es[i_0.toNat]!.dot = { rep := r_1, num := n_2 : Dot }) (by kernel_rfl) (by kernel_rfl) (fun h_14 => ?_) (fun h_14 => ?_)
  refine sq ?_
  refine rg (A := True) cx [] [4, 5] [4] trivial ?_
  refine sn ?_
  refine st_ret (by kernel_rfl) ?_
  refine q_blk_ret ?_
  refine q_seq_ret ?_
  refine q_seq_ret ?_
  refine q_blk_ret ?_
  refine q_seq_ret ?_
  refine q_ret (r := .tup [.agg [.i .i64 (es[i_0.toNat]!.dot.rep), .i .i64 (es[i_0.toNat]!.dot.num), .s (es[i_0.toNat]!.sku), .i .i64 (es[i_0.toNat]!.qty)], .b (true)]) (obl := []) (by kernel_rfl) trivial (AVle.tup (ZLe.cons (AVle.eq (show AV.agg [AV.i IntKind.i64 es[i_0.toNat]!.dot.rep, AV.i IntKind.i64 es[i_0.toNat]!.dot.num, AV.s es[i_0.toNat]!.sku, AV.i IntKind.i64 es[i_0.toNat]!.qty] = AV.agg [AV.i IntKind.i64 (findE es d).fst.dot.rep, AV.i IntKind.i64 (findE es d).fst.dot.num, AV.s (findE es d).fst.sku, AV.i IntKind.i64 (findE es d).fst.qty] from ?g2)) (ZLe.cons (AVle.eq (show AV.b true = AV.b (findE es d).snd from ?g1)) ZLe.nil))); rotate_left 2
  refine st_skip (by kernel_rfl) ?_
  refine q_blk_normal ?_
  refine sn ?_
  refine rg (A := (AV.i IntKind.i64 (IntKind.i64.wrap (i_0 + (1 : Int))) = AV.i IntKind.i64 (i_0 + (1 : Int)))) cx [(0, { tell := some (.i .i64 (i_0 + (1 : Int))) })] [3, 4, 8, 9, 10] [3, 4] (told_i64 (by omega) (by omega)) ?_
  refine sn ?_
  refine loop_next ((i_0 + (1 : Int), r_1, n_2, a_3, b_4, s_5, q_6)) (by kernel_rfl) (show ((↑es.length : Int) - (i_0 + (1 : Int))).toNat < ((↑es.length : Int) - i_0).toNat from (by omega)) (show inv28 es d (i_0 + (1 : Int)) r_1 n_2 a_3 b_4 s_5 q_6 from ?g3); rotate_left 1
  refine st_exit 0 (by kernel_rfl) ?_
  refine q_seq_exit ?_
  refine q_seq_exit ?_
  refine q_blk_hit ?_
  refine sn ?_
  refine sq ?_
  refine rg (A := True) cx [] [4, 5] [4] trivial ?_
  refine sn ?_
  refine st_ret (by kernel_rfl) ?_
  refine q_ret (r := .tup [.agg [.i .i64 ((0 : Int)), .i .i64 ((0 : Int)), .s ({ data := #[] : ByteArray }), .i .i64 ((0 : Int))], .b (false)]) (obl := []) (by kernel_rfl) trivial (AVle.tup (ZLe.cons (AVle.eq (show AV.agg [AV.i IntKind.i64 (0 : Int), AV.i IntKind.i64 (0 : Int), AV.s { data := #[] : ByteArray }, AV.i IntKind.i64 (0 : Int)] = AV.agg [AV.i IntKind.i64 (findE es d).fst.dot.rep, AV.i IntKind.i64 (findE es d).fst.dot.num, AV.s (findE es d).fst.sku, AV.i IntKind.i64 (findE es d).fst.qty] from ?g5)) (ZLe.cons (AVle.eq (show AV.b false = AV.b (findE es d).snd from ?g4)) ZLe.nil))); rotate_left 2
  rotate_left
  revert i_0 r_1 n_2 a_3 b_4 s_5 q_6 h_8 h_9 h_10 h_11 h_12 h_13 h_14; rotate_left
  revert i_0 r_1 n_2 a_3 b_4 s_5 q_6 h_8 h_9 h_10 h_11 h_12 h_13 h_14; rotate_left
  revert i_0 r_1 n_2 a_3 b_4 s_5 q_6 h_8 h_9 h_10 h_11 h_12 h_13 h_14; rotate_left
  revert i_0 r_1 n_2 a_3 b_4 s_5 q_6 h_8 h_9 h_10 h_11 h_12 h_13; rotate_left
  revert i_0 r_1 n_2 a_3 b_4 s_5 q_6 h_8 h_9 h_10 h_11 h_12 h_13; rotate_left
  case g0 => exact ⟨by omega, by omega, rfl, rfl, fun j hj => by omega⟩
  case g1 => exact (fun i r n a b s q h0 h1 h2 h3 h4 h5 h6 => by subst h2 h3; rw [find_at (by omega) h6 (fun j hj => h4 j (by omega))])
  case g2 => exact (fun i r n a b s q h0 h1 h2 h3 h4 h5 h6 => by subst h2 h3; rw [find_at (by omega) h6 (fun j hj => h4 j (by omega))])
  case g3 => exact (fun i r n a b s q h0 h1 h2 h3 h4 h5 h6 => ⟨by omega, by omega, h2, h3, fun j hj => by
      subst h2 h3
      by_cases e : j = i.toNat
      · rw [e]; exact h6
      · exact h4 j (by omega)⟩)
  case g4 => exact (fun i r n a b s q h0 h1 h2 h3 h4 h5 => by rw [find_no (fun j hj => h4 j (by omega))])
  case g5 => exact (fun i r n a b s q h0 h1 h2 h3 h4 h5 => by rw [find_no (fun j hj => h4 j (by omega))]; rfl)
theorem con27 (es : List Entry) (d : Dot) : Con Try.prog 27 [.sl (es.map c28), .agg (c26 d)] (.tup [.agg (c28 (findE es d).1), .b (findE es d).2]) :=
  by
  refine con_lens 0 (c28) (es) (by kernel_rfl) Go.Proofs.Try.func27 (by kernel_rfl) fun hl_0 => ?_
  refine st_con tab_ok (by kernel_rfl) [.cell 4 28, .tmp 5] 25 Go.Proofs.Try.func27 (by kernel_rfl) (by kernel_rfl) ?_
  intro e0 cx
  refine sq ?_
  refine rg (A := True) cx [] [0, 3, 4] [3, 4] trivial ?_
  refine sn ?_
  refine sq ?_
  refine sq ?_
  refine rg (A := True) cx [] [0, 3, 4, 6] [3, 4] trivial ?_
  refine sn ?_
  refine st_block 0 (by kernel_rfl) ?_
  refine st_loop (X := Int × Int × Int × Int × Int × ByteArray × Int) (fun x => ⟨[(0, .sl (List.map c28 es)), (3, .ptr (3) (0) (0) (0)), (4, .ptr (4) (0) (0) (0)), (6, .i .i64 (x.fst))], [(3, ⟨0, 26, .var [.i .i64 (x.snd.fst), .i .i64 (x.snd.snd.fst)]⟩), (4, ⟨0, 28, .var [.i .i64 (x.snd.snd.snd.fst), .i .i64 (x.snd.snd.snd.snd.fst), .s (x.snd.snd.snd.snd.snd.fst), .i .i64 (x.snd.snd.snd.snd.snd.snd)]⟩)]⟩) (fun x ↦ dec28 es x.fst x.snd.fst x.snd.snd.fst x.snd.snd.snd.fst x.snd.snd.snd.snd.fst x.snd.snd.snd.snd.snd.fst x.snd.snd.snd.snd.snd.snd) (fun x ↦ inv28 es d x.fst x.snd.fst x.snd.snd.fst x.snd.snd.snd.fst x.snd.snd.snd.snd.fst x.snd.snd.snd.snd.snd.fst x.snd.snd.snd.snd.snd.snd) [0, 3, 4, 6] [3, 4] (((0 : Int), d.rep, d.num, (0 : Int), (0 : Int), { data := #[] : ByteArray }, (0 : Int))) (by kernel_rfl) (by kernel_rfl) (show inv28 es d (0 : Int) d.rep d.num (0 : Int) (0 : Int) { data := #[] : ByteArray } (0 : Int) from ?g0) ?_; rotate_left 1
  rintro ⟨i_0, r_1, n_2, a_3, b_4, s_5, q_6⟩ h_7
  obtain ⟨h_8, h_9, h_10, h_11, h_12⟩ : (0 : Int) ≤ i_0 ∧ i_0 ≤ (↑es.length : Int) ∧ r_1 = d.rep ∧ n_2 = d.num ∧ ∀ (j : Nat), (↑j : Int) < i_0 → ¬es[j]!.dot = d := h_7
  refine sq ?_
  refine sq ?_
  refine rg (A := _ ∧ (AV.b (decide (i_0 < (↑es.length : Int))) = AV.b (decide (i_0 < (↑es.length : Int))))) cx [(2, { tell := some (.i .i64 ((↑es.length : Int))) }), (3, { tell := some (.b (decide (i_0 < (↑es.length : Int)))) })] [0, 3, 4, 6, 10] [3, 4] ⟨(told_len c28 es), (by kernel_rfl)⟩ ?_
  refine sn ?_
  refine st_dec (i_0 < (↑es.length : Int)) (by kernel_rfl) (by kernel_rfl) (fun h_13 => ?_) (fun h_13 => ?_)
  refine st_skip (by kernel_rfl) ?_
  refine sn ?_
  refine sq ?_
  refine st_block 1 (by kernel_rfl) ?_
  refine sq ?_
  refine ra (A := ((0 : Int) ≤ i_0) ∧ ((List.map c28 es)[i_0.toNat]? = some (c28 es[i_0.toNat]!)) ∧ ((c28 es[i_0.toNat]!).length = (4 : Nat)) ∧ ((2 : Nat) ≤ [AV.i IntKind.i64 es[i_0.toNat]!.dot.rep, AV.i IntKind.i64 es[i_0.toNat]!.dot.num, AV.s es[i_0.toNat]!.sku, AV.i IntKind.i64 es[i_0.toNat]!.qty].length) ∧ (AggEq Try.prog (26 : Nat) [AV.i IntKind.i64 es[i_0.toNat]!.dot.rep, AV.i IntKind.i64 es[i_0.toNat]!.dot.num] [AV.i IntKind.i64 r_1, AV.i IntKind.i64 n_2] (decide (es[i_0.toNat]!.dot = { rep := r_1, num := n_2 : Dot })))) cx [(2, { row := (c28 es[i_0.toNat]!) }), (6, { val := some (.b (decide (es[i_0.toNat]!.dot = { rep := r_1, num := n_2 : Dot }))) })] [0, 3, 4, 6, 19] [3, 4] ⟨(by (with_reducible assumption)), (by (with_reducible refine get_map ?_; omega)), (by kernel_rfl), (by (simp only [List.length_append, List.length_cons, List.length_nil]; omega)), (eq26 es[i_0.toNat]!.dot { rep := r_1, num := n_2 : Dot })⟩ ?_
  refine sn ?_
  refine st_dec (es[i_0.toNat]!.dot = { rep := r_1, num := n_2 : Dot }) (by kernel_rfl) (by kernel_rfl) (fun h_14 => ?_) (fun h_14 => ?_)
  refine sq ?_
  refine rg (A := ((0 : Int) ≤ i_0) ∧ ((List.map c28 es)[i_0.toNat]? = some (c28 es[i_0.toNat]!)) ∧ ((c28 es[i_0.toNat]!).length = (4 : Nat)) ∧ ((4 : Nat) ≤ [AV.i IntKind.i64 es[i_0.toNat]!.dot.rep, AV.i IntKind.i64 es[i_0.toNat]!.dot.num, AV.s es[i_0.toNat]!.sku, AV.i IntKind.i64 es[i_0.toNat]!.qty].length)) cx [(2, { row := (c28 es[i_0.toNat]!) })] [4, 5] [4] ⟨(by (with_reducible assumption)), (by (with_reducible refine get_map ?_; omega)), (by kernel_rfl), (by (simp only [List.length_append, List.length_cons, List.length_nil]; omega))⟩ ?_
  refine sn ?_
  refine st_ret (by kernel_rfl) ?_
  refine q_blk_ret ?_
  refine q_seq_ret ?_
  refine q_seq_ret ?_
  refine q_blk_ret ?_
  refine q_seq_ret ?_
  refine q_ret (r := .tup [.agg [.i .i64 (es[i_0.toNat]!.dot.rep), .i .i64 (es[i_0.toNat]!.dot.num), .s (es[i_0.toNat]!.sku), .i .i64 (es[i_0.toNat]!.qty)], .b (true)]) (obl := []) (by kernel_rfl) trivial (AVle.tup (ZLe.cons (AVle.eq (show AV.agg [AV.i IntKind.i64 es[i_0.toNat]!.dot.rep, AV.i IntKind.i64 es[i_0.toNat]!.dot.num, AV.s es[i_0.toNat]!.sku, AV.i IntKind.i64 es[i_0.toNat]!.qty] = AV.agg [AV.i IntKind.i64 (findE es d).fst.dot.rep, AV.i IntKind.i64 (findE es d).fst.dot.num, AV.s (findE es d).fst.sku, AV.i IntKind.i64 (findE es d).fst.qty] from ?g2)) (ZLe.cons (AVle.eq (show AV.b true = AV.b (findE es d).snd from ?g1)) ZLe.nil))); rotate_left 2
  refine st_skip (by kernel_rfl) ?_
  refine q_blk_normal ?_
  refine sn ?_
  refine rg (A := (AV.i IntKind.i64 (IntKind.i64.wrap (i_0 + (1 : Int))) = AV.i IntKind.i64 (i_0 + (1 : Int)))) cx [(1, { tell := some (.i .i64 (i_0 + (1 : Int))) })] [0, 3, 4, 6] [3, 4] (told_i64 (by omega) (by omega)) ?_
  refine sn ?_
  refine loop_next ((i_0 + (1 : Int), r_1, n_2, a_3, b_4, s_5, q_6)) (by kernel_rfl) (show ((↑es.length : Int) - (i_0 + (1 : Int))).toNat < ((↑es.length : Int) - i_0).toNat from (by omega)) (show inv28 es d (i_0 + (1 : Int)) r_1 n_2 a_3 b_4 s_5 q_6 from ?g3); rotate_left 1
  refine st_exit 0 (by kernel_rfl) ?_
  refine q_seq_exit ?_
  refine q_seq_exit ?_
  refine q_blk_hit ?_
  refine sn ?_
  refine sq ?_
  refine rg (A := True) cx [] [4, 5] [4] trivial ?_
  refine sn ?_
  refine st_ret (by kernel_rfl) ?_
  refine q_ret (r := .tup [.agg [.i .i64 ((0 : Int)), .i .i64 ((0 : Int)), .s ({ data := #[] : ByteArray }), .i .i64 ((0 : Int))], .b (false)]) (obl := []) (by kernel_rfl) trivial (AVle.tup (ZLe.cons (AVle.eq (show AV.agg [AV.i IntKind.i64 (0 : Int), AV.i IntKind.i64 (0 : Int), AV.s { data := #[] : ByteArray }, AV.i IntKind.i64 (0 : Int)] = AV.agg [AV.i IntKind.i64 (findE es d).fst.dot.rep, AV.i IntKind.i64 (findE es d).fst.dot.num, AV.s (findE es d).fst.sku, AV.i IntKind.i64 (findE es d).fst.qty] from ?g5)) (ZLe.cons (AVle.eq (show AV.b false = AV.b (findE es d).snd from ?g4)) ZLe.nil))); rotate_left 2
  rotate_left
  revert i_0 r_1 n_2 a_3 b_4 s_5 q_6 h_8 h_9 h_10 h_11 h_12 h_13 h_14; rotate_left
  revert i_0 r_1 n_2 a_3 b_4 s_5 q_6 h_8 h_9 h_10 h_11 h_12 h_13 h_14; rotate_left
  revert i_0 r_1 n_2 a_3 b_4 s_5 q_6 h_8 h_9 h_10 h_11 h_12 h_13 h_14; rotate_left
  revert i_0 r_1 n_2 a_3 b_4 s_5 q_6 h_8 h_9 h_10 h_11 h_12 h_13; rotate_left
  revert i_0 r_1 n_2 a_3 b_4 s_5 q_6 h_8 h_9 h_10 h_11 h_12 h_13; rotate_left
  case g0 => exact ⟨by omega, by omega, rfl, rfl, fun j hj => by omega⟩
  case g1 => exact (fun i r n a b s q h0 h1 h2 h3 h4 h5 h6 => by subst h2 h3; rw [find_at (by omega) h6 (fun j hj => h4 j (by omega))])
  case g2 => exact (fun i r n a b s q h0 h1 h2 h3 h4 h5 h6 => by subst h2 h3; rw [find_at (by omega) h6 (fun j hj => h4 j (by omega))])
  case g3 => exact (fun i r n a b s q h0 h1 h2 h3 h4 h5 h6 => ⟨by omega, by omega, h2, h3, fun j hj => by
      subst h2 h3
      by_cases e : j = i.toNat
      · rw [e]; exact h6
      · exact h4 j (by omega)⟩)
  case g4 => exact (fun i r n a b s q h0 h1 h2 h3 h4 h5 => by rw [find_no (fun j hj => h4 j (by omega))])
  case g5 => exact (fun i r n a b s q h0 h1 h2 h3 h4 h5 => by rw [find_no (fun j hj => h4 j (by omega))]; rfl)
end Go.Proofs.Ytjngmlkaijpbgaa
namespace Go.Proofs.Ytjngmlkaijpbgaa
open Go.E
set_option maxRecDepth 100000
set_option maxHeartbeats 4000000
theorem leM0 (a b : Entry) : leM 0 a b = !ltE b a := rfl
theorem bot_once (es : List Entry) : onceR (botS (leM 0) 1 es) = onceR (srtE es) := by
  refine onceR_perm ((botS_perm (leM 0) _ 1 es (Nat.le_refl _)).trans (List.mergeSort_perm es _).symm) ?_ (srtE_rises es)
  refine botS_rises (le := leM 0) ?_ ?_ _ 1 es (Nat.le_refl _) (by omega) (chunkyP_one _)
  · intro a b c h1 h2
    simp only [leM0, Bool.not_eq_true'] at *
    exact swo_ltE.ntrans _ _ _ h2 h1
  · intro a b
    simp only [leM0]
    cases h : ltE b a with
    | false => rfl
    | true => simp [swo_ltE.asymmA h]
theorem bot_len (m : Int) (es : List Entry) : (botS (leM m) 1 es).length = es.length := (botS_perm (leM m) _ 1 es (Nat.le_refl _)).length_eq
def lit6 : List Entry := [⟨⟨1, 1⟩, ⟨#[66]⟩, 2⟩, ⟨⟨0, 3⟩, ⟨#[65]⟩, 5⟩, ⟨⟨1, 1⟩, ⟨#[66]⟩, 2⟩]
def lit6s : List Entry := [⟨⟨0, 3⟩, ⟨#[65]⟩, 5⟩, ⟨⟨1, 1⟩, ⟨#[66]⟩, 2⟩, ⟨⟨1, 1⟩, ⟨#[66]⟩, 2⟩]
theorem sort_lit6 : sortR lit6 = ([⟨⟨0, 3⟩, ⟨#[65]⟩, 5⟩, ⟨⟨1, 1⟩, ⟨#[66]⟩, 2⟩], 0) := by
  have h0 : errL lit6 = 0 := by decide +kernel
  have h1 : onceR (srtE lit6) = onceR lit6s := onceR_perm ((List.mergeSort_perm lit6 _).trans (by decide +kernel)) (srtE_rises _) (by unfold risesE; decide +kernel)
  unfold sortR
  rw [if_pos h0, h1]
  decide +kernel
theorem con26 (es : List Entry) (hl : es.length * 40 ≤ 140737488351232) : Con Try.prog 26 [.sl (es.map c28)] (.tup [.sl ((sortR es).1.map c28), .i .i64 (sortR es).2]) :=
  by
  refine con_lens 0 (c28) (es) (by kernel_rfl) Go.Proofs.Try.func26 (by kernel_rfl) fun hl_0 => ?_
  refine st_con tab_ok (by kernel_rfl) [.tmp 2, .tmp 3] 25 Go.Proofs.Try.func26 (by kernel_rfl) (by kernel_rfl) ?_
  intro e0 cx
  refine sq ?_
  refine rg (A := True) cx [] [0] [] trivial ?_
  refine sn ?_
  refine sq ?_
  refine sq ?_
  refine rg (A := True) cx [] [0, 4] [] trivial ?_
  refine sn ?_
  refine st_block 0 (by kernel_rfl) ?_
  refine st_loop (X := Int) (fun x => ⟨[(0, .sl (List.map c28 es)), (4, .i .i64 (x))], []⟩) (fun x ↦ dec30i es x) (fun x ↦ inv25a es x) [0, 4] [] ((0 : Int)) (by kernel_rfl) (by kernel_rfl) (show inv25a es (0 : Int) from ?g0) ?_; rotate_left 1
  intro i_0 h_1
  obtain ⟨h_2, h_3, h_4⟩ : (0 : Int) ≤ i_0 ∧ i_0 ≤ (↑es.length : Int) ∧ ∀ (j : Nat), (↑j : Int) < i_0 → entE es[j]! = (0 : Int) := h_1
  refine sq ?_
  refine sq ?_
  refine rg (A := _ ∧ (AV.b (decide (i_0 < (↑es.length : Int))) = AV.b (decide (i_0 < (↑es.length : Int))))) cx [(2, { tell := some (.i .i64 ((↑es.length : Int))) }), (3, { tell := some (.b (decide (i_0 < (↑es.length : Int)))) })] [0, 4, 9] [] ⟨(told_len c28 es), (by kernel_rfl)⟩ ?_
  refine sn ?_
  refine st_dec (i_0 < (↑es.length : Int)) (by kernel_rfl) (by kernel_rfl) (fun h_5 => ?_) (fun h_5 => ?_)
  refine st_skip (by kernel_rfl) ?_
  refine sn ?_
  refine sq ?_
  refine st_block 1 (by kernel_rfl) ?_
  refine sq ?_
  refine rg (A := ((0 : Int) ≤ i_0) ∧ ((List.map c28 es)[i_0.toNat]? = some (c28 es[i_0.toNat]!)) ∧ ((c28 es[i_0.toNat]!).length = (4 : Nat)) ∧ ((4 : Nat) ≤ [AV.i IntKind.i64 es[i_0.toNat]!.dot.rep, AV.i IntKind.i64 es[i_0.toNat]!.dot.num, AV.s es[i_0.toNat]!.sku, AV.i IntKind.i64 es[i_0.toNat]!.qty].length) ∧ _) cx [(2, { row := (c28 es[i_0.toNat]!) }), (4, { val := some (.i .i64 (entE es[i_0.toNat]!)) })] [0, 4, 5] [] ⟨(by (with_reducible assumption)), (by (with_reducible refine get_map ?_; omega)), (by kernel_rfl), (by (simp only [List.length_append, List.length_cons, List.length_nil]; omega)), (con19 (es[i_0.toNat]!))⟩ ?_
  refine sn ?_
  refine sq ?_
  refine rg (A := (AV.b (entE es[i_0.toNat]! != (0 : Int)) = AV.b (decide ¬entE es[i_0.toNat]! = (0 : Int)))) cx [(1, { tell := some (.b (decide ¬entE es[i_0.toNat]! = (0 : Int))) })] [0, 4, 5, 18] [] (told_neq) ?_
  refine sn ?_
  refine st_dec (¬entE es[i_0.toNat]! = (0 : Int)) (by kernel_rfl) (by kernel_rfl) (fun h_6 => ?_) (fun h_6 => ?_)
  refine sq ?_
  refine rg (A := True) cx [] [2, 3] [] trivial ?_
  refine sn ?_
  refine st_ret (by kernel_rfl) ?_
  refine q_blk_ret ?_
  refine q_seq_ret ?_
  refine q_seq_ret ?_
  refine q_blk_ret ?_
  refine q_seq_ret ?_
  refine q_ret (r := .tup [.nl, .i .i64 (entE es[i_0.toNat]!)]) (obl := []) (by kernel_rfl) trivial (AVle.tup (ZLe.cons (AVle.nl' (show List.map c28 (sortR es).fst = [] from ?g2)) (ZLe.cons (AVle.eq (show AV.i IntKind.i64 (entE es[i_0.toNat]!) = AV.i IntKind.i64 (sortR es).snd from ?g1)) ZLe.nil))); rotate_left 2
  refine st_skip (by kernel_rfl) ?_
  refine q_blk_normal ?_
  refine sn ?_
  refine rg (A := (AV.i IntKind.i64 (IntKind.i64.wrap (i_0 + (1 : Int))) = AV.i IntKind.i64 (i_0 + (1 : Int)))) cx [(1, { tell := some (.i .i64 (i_0 + (1 : Int))) })] [0, 4] [] (told_i64 (by omega) (by omega)) ?_
  refine sn ?_
  refine loop_next (i_0 + (1 : Int)) (by kernel_rfl) (show ((↑es.length : Int) - (i_0 + (1 : Int))).toNat < ((↑es.length : Int) - i_0).toNat from (by omega)) (show inv25a es (i_0 + (1 : Int)) from ?g3); rotate_left 1
  refine st_exit 0 (by kernel_rfl) ?_
  refine q_seq_exit ?_
  refine q_seq_exit ?_
  refine q_blk_hit ?_
  refine sn ?_
  refine sq ?_
  have hl_7 := (rng_onceR (botS (leM (0 : Int)) (1 : Nat) es))
  refine rg (A := _ ∧ _) cx [(1, { val := some (.sl (List.map c28 (botS (leM (0 : Int)) (1 : Nat) es))) }), (2, { val := some (.tup [.sl (List.map c28 (onceR (botS (leM (0 : Int)) (1 : Nat) es)).fst), .i .i64 ((onceR (botS (leM (0 : Int)) (1 : Nat) es)).snd)]) })] [2, 3] [] ⟨(con58 (es) ((0 : Int)) (by (with_reducible assumption))), (con57 (botS (leM (0 : Int)) (1 : Nat) es) ?g4)⟩ ?_; rotate_left 1
  refine sn ?_
  refine st_ret (by kernel_rfl) ?_
  refine q_ret (r := .tup [.sl (List.map c28 (onceR (botS (leM (0 : Int)) (1 : Nat) es)).fst), .i .i64 ((onceR (botS (leM (0 : Int)) (1 : Nat) es)).snd)]) (obl := []) (by kernel_rfl) trivial (AVle.tup (ZLe.cons (AVle.eq (show AV.sl (List.map c28 (onceR (botS (leM (0 : Int)) (1 : Nat) es)).fst) = AV.sl (List.map c28 (sortR es).fst) from ?g6)) (ZLe.cons (AVle.eq (show AV.i IntKind.i64 (onceR (botS (leM (0 : Int)) (1 : Nat) es)).snd = AV.i IntKind.i64 (sortR es).snd from ?g5)) ZLe.nil))); rotate_left 2
  rotate_left
  revert i_0 h_2 h_3 h_4 h_5 h_6; rotate_left
  revert i_0 h_2 h_3 h_4 h_5 h_6; rotate_left
  revert i_0 h_2 h_3 h_4 h_5 h_6; rotate_left
  revert i_0 h_2 h_3 h_4 h_5; rotate_left
  revert i_0 h_2 h_3 h_4 h_5; rotate_left
  revert i_0 h_2 h_3 h_4 h_5; rotate_left
  case g0 => exact ⟨by omega, by omega, fun j hj => by omega⟩
  case g1 => exact (fun i h0 h1 h2 h3 h4 => by rw [sortR_bad (by omega) h4 (fun j hj => h2 j (by omega))])
  case g2 => exact (fun i h0 h1 h2 h3 h4 => by rw [sortR_bad (by omega) h4 (fun j hj => h2 j (by omega))]; rfl)
  case g3 => exact (fun i h0 h1 h2 h3 h4 => ⟨by omega, by omega, fun j hj => by
      by_cases e : j = i.toNat
      · rw [e]; exact Classical.not_not.1 h4
      · exact h2 j (by omega)⟩)
  case g4 => exact (fun i h0 h1 h2 h3 => by rw [bot_len]; exact hl)
  case g5 => exact (fun i h0 h1 h2 h3 => by rw [bot_once, sortR_ok (fun j hj => h2 j (by omega))])
  case g6 => exact (fun i h0 h1 h2 h3 => by rw [bot_once, sortR_ok (fun j hj => h2 j (by omega))])
theorem con6 (es : List Entry) (d : Dot) (hl : es.length * 40 ≤ 140737488351232) : Con Try.prog 6 [.sl (es.map c28), .agg (c26 d)] (.b true) :=
  by
  refine con_lens 0 (c28) (es) (by kernel_rfl) Go.Proofs.Try.func6 (by kernel_rfl) fun hl_0 => ?_
  refine st_con tab_ok (by kernel_rfl) [.tmp 4] 69 Go.Proofs.Try.func6 (by kernel_rfl) (by kernel_rfl) ?_
  intro e0 cx
  refine sq ?_
  refine rg (A := True) cx [] [0, 3] [3] trivial ?_
  refine sn ?_
  refine sq ?_
  have hl_0 := (rng_sortR [{ dot := { rep := (1 : Int), num := (1 : Int) : Dot }, sku := { dot := { rep := (1 : Int), num := (1 : Int) : Dot }, sku := { data := #[(66 : UInt8)] : ByteArray }, qty := (2 : Int) : Entry }.sku, qty := (2 : Int) : Entry }, { dot := { rep := (0 : Int), num := (3 : Int) : Dot }, sku := { dot := { rep := (0 : Int), num := (3 : Int) : Dot }, sku := { data := #[(65 : UInt8)] : ByteArray }, qty := (5 : Int) : Entry }.sku, qty := (5 : Int) : Entry }, { dot := { rep := (1 : Int), num := (1 : Int) : Dot }, sku := { dot := { rep := (1 : Int), num := (1 : Int) : Dot }, sku := { data := #[(66 : UInt8)] : ByteArray }, qty := (2 : Int) : Entry }.sku, qty := (2 : Int) : Entry }])
  refine rg (A := _ ∧ _ ∧ _ ∧ _) cx [(0, { val := some (resC (con15 ((1 : Int)) ((1 : Int)) ({ data := #[(66 : UInt8)] : ByteArray }) ((2 : Int)))) }), (1, { val := some (resC (con15 ((0 : Int)) ((3 : Int)) ({ data := #[(65 : UInt8)] : ByteArray }) ((5 : Int)))) }), (2, { val := some (resC (con15 ((1 : Int)) ((1 : Int)) ({ data := #[(66 : UInt8)] : ByteArray }) ((2 : Int)))) }), (4, { val := some (.tup [.sl (List.map c28 (sortR [{ dot := { rep := (1 : Int), num := (1 : Int) : Dot }, sku := { dot := { rep := (1 : Int), num := (1 : Int) : Dot }, sku := { data := #[(66 : UInt8)] : ByteArray }, qty := (2 : Int) : Entry }.sku, qty := (2 : Int) : Entry }, { dot := { rep := (0 : Int), num := (3 : Int) : Dot }, sku := { dot := { rep := (0 : Int), num := (3 : Int) : Dot }, sku := { data := #[(65 : UInt8)] : ByteArray }, qty := (5 : Int) : Entry }.sku, qty := (5 : Int) : Entry }, { dot := { rep := (1 : Int), num := (1 : Int) : Dot }, sku := { dot := { rep := (1 : Int), num := (1 : Int) : Dot }, sku := { data := #[(66 : UInt8)] : ByteArray }, qty := (2 : Int) : Entry }.sku, qty := (2 : Int) : Entry }]).fst), .i .i64 ((sortR [{ dot := { rep := (1 : Int), num := (1 : Int) : Dot }, sku := { dot := { rep := (1 : Int), num := (1 : Int) : Dot }, sku := { data := #[(66 : UInt8)] : ByteArray }, qty := (2 : Int) : Entry }.sku, qty := (2 : Int) : Entry }, { dot := { rep := (0 : Int), num := (3 : Int) : Dot }, sku := { dot := { rep := (0 : Int), num := (3 : Int) : Dot }, sku := { data := #[(65 : UInt8)] : ByteArray }, qty := (5 : Int) : Entry }.sku, qty := (5 : Int) : Entry }, { dot := { rep := (1 : Int), num := (1 : Int) : Dot }, sku := { dot := { rep := (1 : Int), num := (1 : Int) : Dot }, sku := { data := #[(66 : UInt8)] : ByteArray }, qty := (2 : Int) : Entry }.sku, qty := (2 : Int) : Entry }]).snd)]) })] [0, 3, 5, 6] [3] ⟨(con15 ((1 : Int)) ((1 : Int)) ({ data := #[(66 : UInt8)] : ByteArray }) ((2 : Int))), (con15 ((0 : Int)) ((3 : Int)) ({ data := #[(65 : UInt8)] : ByteArray }) ((5 : Int))), (con15 ((1 : Int)) ((1 : Int)) ({ data := #[(66 : UInt8)] : ByteArray }) ((2 : Int))), (con25 ([{ dot := { rep := (1 : Int), num := (1 : Int) : Dot }, sku := { dot := { rep := (1 : Int), num := (1 : Int) : Dot }, sku := { data := #[(66 : UInt8)] : ByteArray }, qty := (2 : Int) : Entry }.sku, qty := (2 : Int) : Entry }, { dot := { rep := (0 : Int), num := (3 : Int) : Dot }, sku := { dot := { rep := (0 : Int), num := (3 : Int) : Dot }, sku := { data := #[(65 : UInt8)] : ByteArray }, qty := (5 : Int) : Entry }.sku, qty := (5 : Int) : Entry }, { dot := { rep := (1 : Int), num := (1 : Int) : Dot }, sku := { dot := { rep := (1 : Int), num := (1 : Int) : Dot }, sku := { data := #[(66 : UInt8)] : ByteArray }, qty := (2 : Int) : Entry }.sku, qty := (2 : Int) : Entry }]) (by (simp only [List.length_append, List.length_cons, List.length_nil]; omega)))⟩ ?_
  refine sn ?_
  refine sq ?_
  refine sq ?_
  refine st_join (σ' := ⟨[(0, .sl (List.map c28 es)), (3, .ptr (3) (0) (0) (0)), (29, .b (decide (¬(sortR [{ dot := { rep := (1 : Int), num := (1 : Int) : Dot }, sku := { dot := { rep := (1 : Int), num := (1 : Int) : Dot }, sku := { data := #[(66 : UInt8)] : ByteArray }, qty := (2 : Int) : Entry }.sku, qty := (2 : Int) : Entry }, { dot := { rep := (0 : Int), num := (3 : Int) : Dot }, sku := { dot := { rep := (0 : Int), num := (3 : Int) : Dot }, sku := { data := #[(65 : UInt8)] : ByteArray }, qty := (5 : Int) : Entry }.sku, qty := (5 : Int) : Entry }, { dot := { rep := (1 : Int), num := (1 : Int) : Dot }, sku := { dot := { rep := (1 : Int), num := (1 : Int) : Dot }, sku := { data := #[(66 : UInt8)] : ByteArray }, qty := (2 : Int) : Entry }.sku, qty := (2 : Int) : Entry }]).snd = (0 : Int) ∨ ¬(sortR [{ dot := { rep := (1 : Int), num := (1 : Int) : Dot }, sku := { dot := { rep := (1 : Int), num := (1 : Int) : Dot }, sku := { data := #[(66 : UInt8)] : ByteArray }, qty := (2 : Int) : Entry }.sku, qty := (2 : Int) : Entry }, { dot := { rep := (0 : Int), num := (3 : Int) : Dot }, sku := { dot := { rep := (0 : Int), num := (3 : Int) : Dot }, sku := { data := #[(65 : UInt8)] : ByteArray }, qty := (5 : Int) : Entry }.sku, qty := (5 : Int) : Entry }, { dot := { rep := (1 : Int), num := (1 : Int) : Dot }, sku := { dot := { rep := (1 : Int), num := (1 : Int) : Dot }, sku := { data := #[(66 : UInt8)] : ByteArray }, qty := (2 : Int) : Entry }.sku, qty := (2 : Int) : Entry }]).fst = [{ dot := { rep := (0 : Int), num := (3 : Int) : Dot }, sku := { dot := { rep := (0 : Int), num := (3 : Int) : Dot }, sku := { data := #[(65 : UInt8)] : ByteArray }, qty := (5 : Int) : Entry }.sku, qty := (5 : Int) : Entry }, { dot := { rep := (1 : Int), num := (1 : Int) : Dot }, sku := { dot := { rep := (1 : Int), num := (1 : Int) : Dot }, sku := { data := #[(66 : UInt8)] : ByteArray }, qty := (2 : Int) : Entry }.sku, qty := (2 : Int) : Entry }])))], [(3, ⟨0, 26, .var [.i .i64 (d.rep), .i .i64 (d.num)]⟩)]⟩) ?_ ?_
  refine st_split (¬(sortR [{ dot := { rep := (1 : Int), num := (1 : Int) : Dot }, sku := { dot := { rep := (1 : Int), num := (1 : Int) : Dot }, sku := { data := #[(66 : UInt8)] : ByteArray }, qty := (2 : Int) : Entry }.sku, qty := (2 : Int) : Entry }, { dot := { rep := (0 : Int), num := (3 : Int) : Dot }, sku := { dot := { rep := (0 : Int), num := (3 : Int) : Dot }, sku := { data := #[(65 : UInt8)] : ByteArray }, qty := (5 : Int) : Entry }.sku, qty := (5 : Int) : Entry }, { dot := { rep := (1 : Int), num := (1 : Int) : Dot }, sku := { dot := { rep := (1 : Int), num := (1 : Int) : Dot }, sku := { data := #[(66 : UInt8)] : ByteArray }, qty := (2 : Int) : Entry }.sku, qty := (2 : Int) : Entry }]).snd = (0 : Int)) (fun h_2 => ?_) (fun h_2 => ?_)
  refine rg (A := (AV.b ((sortR [{ dot := { rep := (1 : Int), num := (1 : Int) : Dot }, sku := { dot := { rep := (1 : Int), num := (1 : Int) : Dot }, sku := { data := #[(66 : UInt8)] : ByteArray }, qty := (2 : Int) : Entry }.sku, qty := (2 : Int) : Entry }, { dot := { rep := (0 : Int), num := (3 : Int) : Dot }, sku := { dot := { rep := (0 : Int), num := (3 : Int) : Dot }, sku := { data := #[(65 : UInt8)] : ByteArray }, qty := (5 : Int) : Entry }.sku, qty := (5 : Int) : Entry }, { dot := { rep := (1 : Int), num := (1 : Int) : Dot }, sku := { dot := { rep := (1 : Int), num := (1 : Int) : Dot }, sku := { data := #[(66 : UInt8)] : ByteArray }, qty := (2 : Int) : Entry }.sku, qty := (2 : Int) : Entry }]).snd != (0 : Int)) = AV.b true) ∧ (AV.b true = AV.b (decide (¬(sortR [{ dot := { rep := (1 : Int), num := (1 : Int) : Dot }, sku := { dot := { rep := (1 : Int), num := (1 : Int) : Dot }, sku := { data := #[(66 : UInt8)] : ByteArray }, qty := (2 : Int) : Entry }.sku, qty := (2 : Int) : Entry }, { dot := { rep := (0 : Int), num := (3 : Int) : Dot }, sku := { dot := { rep := (0 : Int), num := (3 : Int) : Dot }, sku := { data := #[(65 : UInt8)] : ByteArray }, qty := (5 : Int) : Entry }.sku, qty := (5 : Int) : Entry }, { dot := { rep := (1 : Int), num := (1 : Int) : Dot }, sku := { dot := { rep := (1 : Int), num := (1 : Int) : Dot }, sku := { data := #[(66 : UInt8)] : ByteArray }, qty := (2 : Int) : Entry }.sku, qty := (2 : Int) : Entry }]).snd = (0 : Int) ∨ ¬(sortR [{ dot := { rep := (1 : Int), num := (1 : Int) : Dot }, sku := { dot := { rep := (1 : Int), num := (1 : Int) : Dot }, sku := { data := #[(66 : UInt8)] : ByteArray }, qty := (2 : Int) : Entry }.sku, qty := (2 : Int) : Entry }, { dot := { rep := (0 : Int), num := (3 : Int) : Dot }, sku := { dot := { rep := (0 : Int), num := (3 : Int) : Dot }, sku := { data := #[(65 : UInt8)] : ByteArray }, qty := (5 : Int) : Entry }.sku, qty := (5 : Int) : Entry }, { dot := { rep := (1 : Int), num := (1 : Int) : Dot }, sku := { dot := { rep := (1 : Int), num := (1 : Int) : Dot }, sku := { data := #[(66 : UInt8)] : ByteArray }, qty := (2 : Int) : Entry }.sku, qty := (2 : Int) : Entry }]).fst = [{ dot := { rep := (0 : Int), num := (3 : Int) : Dot }, sku := { dot := { rep := (0 : Int), num := (3 : Int) : Dot }, sku := { data := #[(65 : UInt8)] : ByteArray }, qty := (5 : Int) : Entry }.sku, qty := (5 : Int) : Entry }, { dot := { rep := (1 : Int), num := (1 : Int) : Dot }, sku := { dot := { rep := (1 : Int), num := (1 : Int) : Dot }, sku := { data := #[(66 : UInt8)] : ByteArray }, qty := (2 : Int) : Entry }.sku, qty := (2 : Int) : Entry }])))) cx [(1, { tell := some (.b (true)) }), (8, { tell := some (.b (decide (¬(sortR [{ dot := { rep := (1 : Int), num := (1 : Int) : Dot }, sku := { dot := { rep := (1 : Int), num := (1 : Int) : Dot }, sku := { data := #[(66 : UInt8)] : ByteArray }, qty := (2 : Int) : Entry }.sku, qty := (2 : Int) : Entry }, { dot := { rep := (0 : Int), num := (3 : Int) : Dot }, sku := { dot := { rep := (0 : Int), num := (3 : Int) : Dot }, sku := { data := #[(65 : UInt8)] : ByteArray }, qty := (5 : Int) : Entry }.sku, qty := (5 : Int) : Entry }, { dot := { rep := (1 : Int), num := (1 : Int) : Dot }, sku := { dot := { rep := (1 : Int), num := (1 : Int) : Dot }, sku := { data := #[(66 : UInt8)] : ByteArray }, qty := (2 : Int) : Entry }.sku, qty := (2 : Int) : Entry }]).snd = (0 : Int) ∨ ¬(sortR [{ dot := { rep := (1 : Int), num := (1 : Int) : Dot }, sku := { dot := { rep := (1 : Int), num := (1 : Int) : Dot }, sku := { data := #[(66 : UInt8)] : ByteArray }, qty := (2 : Int) : Entry }.sku, qty := (2 : Int) : Entry }, { dot := { rep := (0 : Int), num := (3 : Int) : Dot }, sku := { dot := { rep := (0 : Int), num := (3 : Int) : Dot }, sku := { data := #[(65 : UInt8)] : ByteArray }, qty := (5 : Int) : Entry }.sku, qty := (5 : Int) : Entry }, { dot := { rep := (1 : Int), num := (1 : Int) : Dot }, sku := { dot := { rep := (1 : Int), num := (1 : Int) : Dot }, sku := { data := #[(66 : UInt8)] : ByteArray }, qty := (2 : Int) : Entry }.sku, qty := (2 : Int) : Entry }]).fst = [{ dot := { rep := (0 : Int), num := (3 : Int) : Dot }, sku := { dot := { rep := (0 : Int), num := (3 : Int) : Dot }, sku := { data := #[(65 : UInt8)] : ByteArray }, qty := (5 : Int) : Entry }.sku, qty := (5 : Int) : Entry }, { dot := { rep := (1 : Int), num := (1 : Int) : Dot }, sku := { dot := { rep := (1 : Int), num := (1 : Int) : Dot }, sku := { data := #[(66 : UInt8)] : ByteArray }, qty := (2 : Int) : Entry }.sku, qty := (2 : Int) : Entry }]))) })] [0, 3, 29] [3] ⟨(told_neqt h_2), (by simp only [eq_false h_2, told_simp1, told_simp2, and_true, true_and, and_false, false_and, or_true, true_or, or_false, false_or, not_true_eq_false, not_false_eq_true, decide_true, decide_false, Bool.decide_eq_true])⟩ ?_
  exact ⟨rfl, by kernel_rfl⟩
  refine rg (A := (AV.b ((sortR [{ dot := { rep := (1 : Int), num := (1 : Int) : Dot }, sku := { dot := { rep := (1 : Int), num := (1 : Int) : Dot }, sku := { data := #[(66 : UInt8)] : ByteArray }, qty := (2 : Int) : Entry }.sku, qty := (2 : Int) : Entry }, { dot := { rep := (0 : Int), num := (3 : Int) : Dot }, sku := { dot := { rep := (0 : Int), num := (3 : Int) : Dot }, sku := { data := #[(65 : UInt8)] : ByteArray }, qty := (5 : Int) : Entry }.sku, qty := (5 : Int) : Entry }, { dot := { rep := (1 : Int), num := (1 : Int) : Dot }, sku := { dot := { rep := (1 : Int), num := (1 : Int) : Dot }, sku := { data := #[(66 : UInt8)] : ByteArray }, qty := (2 : Int) : Entry }.sku, qty := (2 : Int) : Entry }]).snd != (0 : Int)) = AV.b (decide ¬(sortR [{ dot := { rep := (1 : Int), num := (1 : Int) : Dot }, sku := { dot := { rep := (1 : Int), num := (1 : Int) : Dot }, sku := { data := #[(66 : UInt8)] : ByteArray }, qty := (2 : Int) : Entry }.sku, qty := (2 : Int) : Entry }, { dot := { rep := (0 : Int), num := (3 : Int) : Dot }, sku := { dot := { rep := (0 : Int), num := (3 : Int) : Dot }, sku := { data := #[(65 : UInt8)] : ByteArray }, qty := (5 : Int) : Entry }.sku, qty := (5 : Int) : Entry }, { dot := { rep := (1 : Int), num := (1 : Int) : Dot }, sku := { dot := { rep := (1 : Int), num := (1 : Int) : Dot }, sku := { data := #[(66 : UInt8)] : ByteArray }, qty := (2 : Int) : Entry }.sku, qty := (2 : Int) : Entry }]).snd = (0 : Int))) ∧ _ ∧ _ ∧ ((0 : Int) ≤ (0 : Int)) ∧ ((0 : Int) ≤ (2 : Int)) ∧ ((2 : Int) ≤ (↑(List.map c28 someL).length : Int)) ∧ (∀ (r : List AV), r ∈ List.map c28 someL → r.length = (4 : Nat)) ∧ _ ∧ ((AV.b !decide ((sortR [{ dot := { rep := (1 : Int), num := (1 : Int) : Dot }, sku := { dot := { rep := (1 : Int), num := (1 : Int) : Dot }, sku := { data := #[(66 : UInt8)] : ByteArray }, qty := (2 : Int) : Entry }.sku, qty := (2 : Int) : Entry }, { dot := { rep := (0 : Int), num := (3 : Int) : Dot }, sku := { dot := { rep := (0 : Int), num := (3 : Int) : Dot }, sku := { data := #[(65 : UInt8)] : ByteArray }, qty := (5 : Int) : Entry }.sku, qty := (5 : Int) : Entry }, { dot := { rep := (1 : Int), num := (1 : Int) : Dot }, sku := { dot := { rep := (1 : Int), num := (1 : Int) : Dot }, sku := { data := #[(66 : UInt8)] : ByteArray }, qty := (2 : Int) : Entry }.sku, qty := (2 : Int) : Entry }]).fst = [{ dot := { rep := (0 : Int), num := (3 : Int) : Dot }, sku := { dot := { rep := (0 : Int), num := (3 : Int) : Dot }, sku := { data := #[(65 : UInt8)] : ByteArray }, qty := (5 : Int) : Entry }.sku, qty := (5 : Int) : Entry }, { dot := { rep := (1 : Int), num := (1 : Int) : Dot }, sku := { dot := { rep := (1 : Int), num := (1 : Int) : Dot }, sku := { data := #[(66 : UInt8)] : ByteArray }, qty := (2 : Int) : Entry }.sku, qty := (2 : Int) : Entry }])) = AV.b (decide ¬(sortR [{ dot := { rep := (1 : Int), num := (1 : Int) : Dot }, sku := { dot := { rep := (1 : Int), num := (1 : Int) : Dot }, sku := { data := #[(66 : UInt8)] : ByteArray }, qty := (2 : Int) : Entry }.sku, qty := (2 : Int) : Entry }, { dot := { rep := (0 : Int), num := (3 : Int) : Dot }, sku := { dot := { rep := (0 : Int), num := (3 : Int) : Dot }, sku := { data := #[(65 : UInt8)] : ByteArray }, qty := (5 : Int) : Entry }.sku, qty := (5 : Int) : Entry }, { dot := { rep := (1 : Int), num := (1 : Int) : Dot }, sku := { dot := { rep := (1 : Int), num := (1 : Int) : Dot }, sku := { data := #[(66 : UInt8)] : ByteArray }, qty := (2 : Int) : Entry }.sku, qty := (2 : Int) : Entry }]).fst = [{ dot := { rep := (0 : Int), num := (3 : Int) : Dot }, sku := { dot := { rep := (0 : Int), num := (3 : Int) : Dot }, sku := { data := #[(65 : UInt8)] : ByteArray }, qty := (5 : Int) : Entry }.sku, qty := (5 : Int) : Entry }, { dot := { rep := (1 : Int), num := (1 : Int) : Dot }, sku := { dot := { rep := (1 : Int), num := (1 : Int) : Dot }, sku := { data := #[(66 : UInt8)] : ByteArray }, qty := (2 : Int) : Entry }.sku, qty := (2 : Int) : Entry }])) ∧ (AV.b (decide ¬(sortR [{ dot := { rep := (1 : Int), num := (1 : Int) : Dot }, sku := { dot := { rep := (1 : Int), num := (1 : Int) : Dot }, sku := { data := #[(66 : UInt8)] : ByteArray }, qty := (2 : Int) : Entry }.sku, qty := (2 : Int) : Entry }, { dot := { rep := (0 : Int), num := (3 : Int) : Dot }, sku := { dot := { rep := (0 : Int), num := (3 : Int) : Dot }, sku := { data := #[(65 : UInt8)] : ByteArray }, qty := (5 : Int) : Entry }.sku, qty := (5 : Int) : Entry }, { dot := { rep := (1 : Int), num := (1 : Int) : Dot }, sku := { dot := { rep := (1 : Int), num := (1 : Int) : Dot }, sku := { data := #[(66 : UInt8)] : ByteArray }, qty := (2 : Int) : Entry }.sku, qty := (2 : Int) : Entry }]).fst = [{ dot := { rep := (0 : Int), num := (3 : Int) : Dot }, sku := { dot := { rep := (0 : Int), num := (3 : Int) : Dot }, sku := { data := #[(65 : UInt8)] : ByteArray }, qty := (5 : Int) : Entry }.sku, qty := (5 : Int) : Entry }, { dot := { rep := (1 : Int), num := (1 : Int) : Dot }, sku := { dot := { rep := (1 : Int), num := (1 : Int) : Dot }, sku := { data := #[(66 : UInt8)] : ByteArray }, qty := (2 : Int) : Entry }.sku, qty := (2 : Int) : Entry }]) = AV.b (decide (¬(sortR [{ dot := { rep := (1 : Int), num := (1 : Int) : Dot }, sku := { dot := { rep := (1 : Int), num := (1 : Int) : Dot }, sku := { data := #[(66 : UInt8)] : ByteArray }, qty := (2 : Int) : Entry }.sku, qty := (2 : Int) : Entry }, { dot := { rep := (0 : Int), num := (3 : Int) : Dot }, sku := { dot := { rep := (0 : Int), num := (3 : Int) : Dot }, sku := { data := #[(65 : UInt8)] : ByteArray }, qty := (5 : Int) : Entry }.sku, qty := (5 : Int) : Entry }, { dot := { rep := (1 : Int), num := (1 : Int) : Dot }, sku := { dot := { rep := (1 : Int), num := (1 : Int) : Dot }, sku := { data := #[(66 : UInt8)] : ByteArray }, qty := (2 : Int) : Entry }.sku, qty := (2 : Int) : Entry }]).snd = (0 : Int) ∨ ¬(sortR [{ dot := { rep := (1 : Int), num := (1 : Int) : Dot }, sku := { dot := { rep := (1 : Int), num := (1 : Int) : Dot }, sku := { data := #[(66 : UInt8)] : ByteArray }, qty := (2 : Int) : Entry }.sku, qty := (2 : Int) : Entry }, { dot := { rep := (0 : Int), num := (3 : Int) : Dot }, sku := { dot := { rep := (0 : Int), num := (3 : Int) : Dot }, sku := { data := #[(65 : UInt8)] : ByteArray }, qty := (5 : Int) : Entry }.sku, qty := (5 : Int) : Entry }, { dot := { rep := (1 : Int), num := (1 : Int) : Dot }, sku := { dot := { rep := (1 : Int), num := (1 : Int) : Dot }, sku := { data := #[(66 : UInt8)] : ByteArray }, qty := (2 : Int) : Entry }.sku, qty := (2 : Int) : Entry }]).fst = [{ dot := { rep := (0 : Int), num := (3 : Int) : Dot }, sku := { dot := { rep := (0 : Int), num := (3 : Int) : Dot }, sku := { data := #[(65 : UInt8)] : ByteArray }, qty := (5 : Int) : Entry }.sku, qty := (5 : Int) : Entry }, { dot := { rep := (1 : Int), num := (1 : Int) : Dot }, sku := { dot := { rep := (1 : Int), num := (1 : Int) : Dot }, sku := { data := #[(66 : UInt8)] : ByteArray }, qty := (2 : Int) : Entry }.sku, qty := (2 : Int) : Entry }])))) cx [(1, { tell := some (.b (decide ¬(sortR [{ dot := { rep := (1 : Int), num := (1 : Int) : Dot }, sku := { dot := { rep := (1 : Int), num := (1 : Int) : Dot }, sku := { data := #[(66 : UInt8)] : ByteArray }, qty := (2 : Int) : Entry }.sku, qty := (2 : Int) : Entry }, { dot := { rep := (0 : Int), num := (3 : Int) : Dot }, sku := { dot := { rep := (0 : Int), num := (3 : Int) : Dot }, sku := { data := #[(65 : UInt8)] : ByteArray }, qty := (5 : Int) : Entry }.sku, qty := (5 : Int) : Entry }, { dot := { rep := (1 : Int), num := (1 : Int) : Dot }, sku := { dot := { rep := (1 : Int), num := (1 : Int) : Dot }, sku := { data := #[(66 : UInt8)] : ByteArray }, qty := (2 : Int) : Entry }.sku, qty := (2 : Int) : Entry }]).snd = (0 : Int))) }), (2, { tell := some (.b (false)) }), (4, { val := some (resC (con17 )) }), (6, { val := some (.b (decide ((sortR [{ dot := { rep := (1 : Int), num := (1 : Int) : Dot }, sku := { dot := { rep := (1 : Int), num := (1 : Int) : Dot }, sku := { data := #[(66 : UInt8)] : ByteArray }, qty := (2 : Int) : Entry }.sku, qty := (2 : Int) : Entry }, { dot := { rep := (0 : Int), num := (3 : Int) : Dot }, sku := { dot := { rep := (0 : Int), num := (3 : Int) : Dot }, sku := { data := #[(65 : UInt8)] : ByteArray }, qty := (5 : Int) : Entry }.sku, qty := (5 : Int) : Entry }, { dot := { rep := (1 : Int), num := (1 : Int) : Dot }, sku := { dot := { rep := (1 : Int), num := (1 : Int) : Dot }, sku := { data := #[(66 : UInt8)] : ByteArray }, qty := (2 : Int) : Entry }.sku, qty := (2 : Int) : Entry }]).fst = [{ dot := { rep := (0 : Int), num := (3 : Int) : Dot }, sku := { dot := { rep := (0 : Int), num := (3 : Int) : Dot }, sku := { data := #[(65 : UInt8)] : ByteArray }, qty := (5 : Int) : Entry }.sku, qty := (5 : Int) : Entry }, { dot := { rep := (1 : Int), num := (1 : Int) : Dot }, sku := { dot := { rep := (1 : Int), num := (1 : Int) : Dot }, sku := { data := #[(66 : UInt8)] : ByteArray }, qty := (2 : Int) : Entry }.sku, qty := (2 : Int) : Entry }]))) }), (7, { tell := some (.b (decide ¬(sortR [{ dot := { rep := (1 : Int), num := (1 : Int) : Dot }, sku := { dot := { rep := (1 : Int), num := (1 : Int) : Dot }, sku := { data := #[(66 : UInt8)] : ByteArray }, qty := (2 : Int) : Entry }.sku, qty := (2 : Int) : Entry }, { dot := { rep := (0 : Int), num := (3 : Int) : Dot }, sku := { dot := { rep := (0 : Int), num := (3 : Int) : Dot }, sku := { data := #[(65 : UInt8)] : ByteArray }, qty := (5 : Int) : Entry }.sku, qty := (5 : Int) : Entry }, { dot := { rep := (1 : Int), num := (1 : Int) : Dot }, sku := { dot := { rep := (1 : Int), num := (1 : Int) : Dot }, sku := { data := #[(66 : UInt8)] : ByteArray }, qty := (2 : Int) : Entry }.sku, qty := (2 : Int) : Entry }]).fst = [{ dot := { rep := (0 : Int), num := (3 : Int) : Dot }, sku := { dot := { rep := (0 : Int), num := (3 : Int) : Dot }, sku := { data := #[(65 : UInt8)] : ByteArray }, qty := (5 : Int) : Entry }.sku, qty := (5 : Int) : Entry }, { dot := { rep := (1 : Int), num := (1 : Int) : Dot }, sku := { dot := { rep := (1 : Int), num := (1 : Int) : Dot }, sku := { data := #[(66 : UInt8)] : ByteArray }, qty := (2 : Int) : Entry }.sku, qty := (2 : Int) : Entry }])) }), (8, { tell := some (.b (decide (¬(sortR [{ dot := { rep := (1 : Int), num := (1 : Int) : Dot }, sku := { dot := { rep := (1 : Int), num := (1 : Int) : Dot }, sku := { data := #[(66 : UInt8)] : ByteArray }, qty := (2 : Int) : Entry }.sku, qty := (2 : Int) : Entry }, { dot := { rep := (0 : Int), num := (3 : Int) : Dot }, sku := { dot := { rep := (0 : Int), num := (3 : Int) : Dot }, sku := { data := #[(65 : UInt8)] : ByteArray }, qty := (5 : Int) : Entry }.sku, qty := (5 : Int) : Entry }, { dot := { rep := (1 : Int), num := (1 : Int) : Dot }, sku := { dot := { rep := (1 : Int), num := (1 : Int) : Dot }, sku := { data := #[(66 : UInt8)] : ByteArray }, qty := (2 : Int) : Entry }.sku, qty := (2 : Int) : Entry }]).snd = (0 : Int) ∨ ¬(sortR [{ dot := { rep := (1 : Int), num := (1 : Int) : Dot }, sku := { dot := { rep := (1 : Int), num := (1 : Int) : Dot }, sku := { data := #[(66 : UInt8)] : ByteArray }, qty := (2 : Int) : Entry }.sku, qty := (2 : Int) : Entry }, { dot := { rep := (0 : Int), num := (3 : Int) : Dot }, sku := { dot := { rep := (0 : Int), num := (3 : Int) : Dot }, sku := { data := #[(65 : UInt8)] : ByteArray }, qty := (5 : Int) : Entry }.sku, qty := (5 : Int) : Entry }, { dot := { rep := (1 : Int), num := (1 : Int) : Dot }, sku := { dot := { rep := (1 : Int), num := (1 : Int) : Dot }, sku := { data := #[(66 : UInt8)] : ByteArray }, qty := (2 : Int) : Entry }.sku, qty := (2 : Int) : Entry }]).fst = [{ dot := { rep := (0 : Int), num := (3 : Int) : Dot }, sku := { dot := { rep := (0 : Int), num := (3 : Int) : Dot }, sku := { data := #[(65 : UInt8)] : ByteArray }, qty := (5 : Int) : Entry }.sku, qty := (5 : Int) : Entry }, { dot := { rep := (1 : Int), num := (1 : Int) : Dot }, sku := { dot := { rep := (1 : Int), num := (1 : Int) : Dot }, sku := { data := #[(66 : UInt8)] : ByteArray }, qty := (2 : Int) : Entry }.sku, qty := (2 : Int) : Entry }]))) })] [0, 3, 29] [3] ⟨(told_neq), (told_false h_2), (con17 ), (by omega), (by omega), ?g0, (by (with_reducible refine len_map (fun _ => ?_) _; kernel_rfl)), (con24 ((sortR [{ dot := { rep := (1 : Int), num := (1 : Int) : Dot }, sku := { dot := { rep := (1 : Int), num := (1 : Int) : Dot }, sku := { data := #[(66 : UInt8)] : ByteArray }, qty := (2 : Int) : Entry }.sku, qty := (2 : Int) : Entry }, { dot := { rep := (0 : Int), num := (3 : Int) : Dot }, sku := { dot := { rep := (0 : Int), num := (3 : Int) : Dot }, sku := { data := #[(65 : UInt8)] : ByteArray }, qty := (5 : Int) : Entry }.sku, qty := (5 : Int) : Entry }, { dot := { rep := (1 : Int), num := (1 : Int) : Dot }, sku := { dot := { rep := (1 : Int), num := (1 : Int) : Dot }, sku := { data := #[(66 : UInt8)] : ByteArray }, qty := (2 : Int) : Entry }.sku, qty := (2 : Int) : Entry }]).fst) ([{ dot := { rep := (0 : Int), num := (3 : Int) : Dot }, sku := { dot := { rep := (0 : Int), num := (3 : Int) : Dot }, sku := { data := #[(65 : UInt8)] : ByteArray }, qty := (5 : Int) : Entry }.sku, qty := (5 : Int) : Entry }, { dot := { rep := (1 : Int), num := (1 : Int) : Dot }, sku := { dot := { rep := (1 : Int), num := (1 : Int) : Dot }, sku := { data := #[(66 : UInt8)] : ByteArray }, qty := (2 : Int) : Entry }.sku, qty := (2 : Int) : Entry }])), (told_notd), (by simp only [eq_false h_2, told_simp1, told_simp2, and_true, true_and, and_false, false_and, or_true, true_or, or_false, false_or, not_true_eq_false, not_false_eq_true, decide_true, decide_false, Bool.decide_eq_true])⟩ ?_; rotate_left 1
  exact ⟨rfl, by kernel_rfl⟩
  refine sn ?_
  refine st_dec (¬(sortR [{ dot := { rep := (1 : Int), num := (1 : Int) : Dot }, sku := { dot := { rep := (1 : Int), num := (1 : Int) : Dot }, sku := { data := #[(66 : UInt8)] : ByteArray }, qty := (2 : Int) : Entry }.sku, qty := (2 : Int) : Entry }, { dot := { rep := (0 : Int), num := (3 : Int) : Dot }, sku := { dot := { rep := (0 : Int), num := (3 : Int) : Dot }, sku := { data := #[(65 : UInt8)] : ByteArray }, qty := (5 : Int) : Entry }.sku, qty := (5 : Int) : Entry }, { dot := { rep := (1 : Int), num := (1 : Int) : Dot }, sku := { dot := { rep := (1 : Int), num := (1 : Int) : Dot }, sku := { data := #[(66 : UInt8)] : ByteArray }, qty := (2 : Int) : Entry }.sku, qty := (2 : Int) : Entry }]).snd = (0 : Int) ∨ ¬(sortR [{ dot := { rep := (1 : Int), num := (1 : Int) : Dot }, sku := { dot := { rep := (1 : Int), num := (1 : Int) : Dot }, sku := { data := #[(66 : UInt8)] : ByteArray }, qty := (2 : Int) : Entry }.sku, qty := (2 : Int) : Entry }, { dot := { rep := (0 : Int), num := (3 : Int) : Dot }, sku := { dot := { rep := (0 : Int), num := (3 : Int) : Dot }, sku := { data := #[(65 : UInt8)] : ByteArray }, qty := (5 : Int) : Entry }.sku, qty := (5 : Int) : Entry }, { dot := { rep := (1 : Int), num := (1 : Int) : Dot }, sku := { dot := { rep := (1 : Int), num := (1 : Int) : Dot }, sku := { data := #[(66 : UInt8)] : ByteArray }, qty := (2 : Int) : Entry }.sku, qty := (2 : Int) : Entry }]).fst = [{ dot := { rep := (0 : Int), num := (3 : Int) : Dot }, sku := { dot := { rep := (0 : Int), num := (3 : Int) : Dot }, sku := { data := #[(65 : UInt8)] : ByteArray }, qty := (5 : Int) : Entry }.sku, qty := (5 : Int) : Entry }, { dot := { rep := (1 : Int), num := (1 : Int) : Dot }, sku := { dot := { rep := (1 : Int), num := (1 : Int) : Dot }, sku := { data := #[(66 : UInt8)] : ByteArray }, qty := (2 : Int) : Entry }.sku, qty := (2 : Int) : Entry }]) (by kernel_rfl) (by kernel_rfl) (fun h_3 => ?_) (fun h_3 => ?_)
  refine sq ?_
  refine rg (A := True) cx [] [4] [] trivial ?_
  refine sn ?_
  refine st_ret (by kernel_rfl) ?_
  refine q_seq_ret ?_
  refine q_ret (r := .b (false)) (obl := []) (by kernel_rfl) trivial (AVle.eq (show AV.b false = AV.b true from ?g1)); rotate_left 1
  refine st_skip (by kernel_rfl) ?_
  refine sn ?_
  refine sq ?_
  have hl_4 := (rng_sortR es)
  refine rg (A := _) cx [(1, { val := some (.tup [.sl (List.map c28 (sortR es).fst), .i .i64 ((sortR es).snd)]) })] [0, 3, 7, 8] [3] (con26 (es) (by (with_reducible assumption))) ?_
  refine sn ?_
  refine sq ?_
  refine rg (A := _) cx [(2, { val := some (resC (con27 (es) (d))) })] [0, 3, 7, 8, 9, 10] [3, 9] (con27 (es) (d)) ?_
  refine sn ?_
  refine sq ?_
  refine rg (A := _) cx [(1, { val := some (.tup [.sl (List.map c28 (sortR es).fst), .i .i64 ((sortR es).snd)]) })] [0, 3, 7, 8, 9, 10, 5, 6] [3, 9] (con25 (es) (by (with_reducible assumption))) ?_
  refine sn ?_
  refine sq ?_
  refine sq ?_
  refine rg (A := (AV.b ((sortR es).snd != (sortR es).snd) = AV.b false) ∧ _ ∧ ((AV.b !decide ((sortR es).fst = (sortR es).fst)) = AV.b (decide ¬(sortR es).fst = (sortR es).fst))) cx [(2, { tell := some (.b (false)) }), (6, { val := some (.b (decide ((sortR es).fst = (sortR es).fst))) }), (7, { tell := some (.b (decide ¬(sortR es).fst = (sortR es).fst)) })] [0, 3, 9, 10, 54] [3, 9] ⟨(told_ins), (con24 ((sortR es).fst) ((sortR es).fst)), (told_notd)⟩ ?_
  refine sn ?_
  refine st_dec (¬(sortR es).fst = (sortR es).fst) (by kernel_rfl) (by kernel_rfl) (fun h_5 => absurd h_5 (fun hn => hn rfl)) (fun h_5 => ?_)
  refine st_skip (by kernel_rfl) ?_
  refine sn ?_
  refine sq ?_
  refine rg (A := _) cx [(2, { val := some (resC (con28 (es) (d))) })] [9, 10, 11, 12] [9, 11] (con28 (es) (d)) ?_
  refine sn ?_
  refine sq ?_
  refine rg (A := (AV.b ((findE es d).snd == (findE es d).snd) = AV.b true) ∧ (AggEq Try.prog (28 : Nat) [AV.i IntKind.i64 (findE es d).fst.dot.rep, AV.i IntKind.i64 (findE es d).fst.dot.num, AV.s (findE es d).fst.sku, AV.i IntKind.i64 (findE es d).fst.qty] [AV.i IntKind.i64 (findE es d).fst.dot.rep, AV.i IntKind.i64 (findE es d).fst.dot.num, AV.s (findE es d).fst.sku, AV.i IntKind.i64 (findE es d).fst.qty] true)) cx [(2, { tell := some (.b (true)) }), (6, { val := some (.b (true)) })] [4] [] ⟨(told_beqs), (aggEq_true (eq28 (findE es d).fst (findE es d).fst) (Eq.refl (findE es d).fst))⟩ ?_
  refine sn ?_
  refine st_ret (by kernel_rfl) ?_
  exact q_ret (r := .b (true)) (obl := []) (by kernel_rfl) trivial (AVle.refl _)
  revert h_2; rotate_left
  revert h_3; rotate_left
  case g0 => exact (fun _ => by decide)
  case g1 => exact (fun h => by
    have e := sort_lit6
    unfold lit6 at e
    rw [e] at h
    rcases h with h | h
    · exact absurd rfl h
    · exact absurd rfl h)
end Go.Proofs.Ytjngmlkaijpbgaa
namespace Go.Proofs.Ytjngmlkaijpbgaa
open Go.E
set_option maxRecDepth 100000
set_option maxHeartbeats 4000000
open Go Go.Lib Go.RowKit Go.Proofs
set_option maxHeartbeats 4000000 in
theorem grow_some (n : Nat) (h0 : 0 < n) (hb : n * 40 ≤ 140737488351232) (w : World) : Calls Try.prog 77 #[.slice none 0 0, .int .i64 n] w fun e w' =>
    ∃ cap cells, e = .returned (.slice (some ⟨w.heap.size, 0, none⟩) 0 cap) ∧ w'.heap[w.heap.size]? = some (.cells cells 28 (0, 0)) ∧ cells.size = cap * 4 ∧ cap ≤ maxLen ∧ Below w.heap.size w w' := by
  obtain ⟨i, z, hi, hi1, hi2, hz, hzs⟩ : ∃ (i : TypeInfo) (z : Value), Try.prog.info? 28 = some i ∧ i.size = 4 ∧ i.bytes = 40 ∧ i.zero = some z ∧ z.cells.size = 4 :=
    ⟨tiE, tiE.zero.get!, by kernel_rfl, by kernel_rfl, by kernel_rfl, by kernel_rfl, by kernel_rfl⟩
  have happ := Lib.run_append_nil_zeros (P := Try.prog) w 22 3 22 28 i z .i64 .i64 Try.underlying22 Try.underlying3 hi hz n h0 (by omega) (by omega) (by rw [hi2]; omega)
  generalize hcap : grownCap w n 0 28 = cap2 at happ
  have hcapge : n ≤ cap2 := by rw [← hcap]; exact grownCap_ge w _ 0 28
  have hcaple : cap2 ≤ maxLen := by rw [← hcap]; exact grownCap_le_maxLen w _ 0 28 (by unfold maxLen; omega)
  generalize hZ : (Builtin.zeroCells z.cells n ++ Builtin.zeroCells z.cells (cap2 - n)) = Z at happ
  have hZs : Z.size = cap2 * 4 := by rw [← hZ]; simp [size_zeroCells, hzs]; omega
  clear hcap hZ
  go_enter Try.func77, Try.ntmps77
  go_wp2_with (at_builtin; refine Lib.wpList_append_run _ rfl _ _ _ _ rfl _ _ rfl rfl _ _ happ ?_)
  go_ret
  exact ⟨cap2, Z, rfl, heap_alloc_new w _, hZs, hcaple, ⟨rfl, rfl, rfl, by simp, fun k hk => Below.heap_alloc w _ k hk⟩⟩
set_option maxHeartbeats 4000000 in
theorem grow_none (w : World) : Calls Try.prog 77 #[.slice none 0 0, .int .i64 0] w fun e w' => e = .returned (.slice none 0 0) ∧ w' = w := by
  go_enter Try.func77, Try.ntmps77
  go_wp2
  go_ret
  exact ⟨rfl, rfl⟩
theorem con77 (n : Int) (h0 : 0 ≤ n) (hb : n * 40 ≤ 140737488351232) : ConB Try.prog 77 [.nl, .i .i64 n] 28 (.row 4 (([] : List Entry).map c28)) := by
  refine ⟨⟨_, Try.func77, by kernel_rfl, by kernel_rfl⟩, fun w S0 vs hS hl hv => ?_⟩
  obtain ⟨v, u, rfl⟩ : ∃ v u, vs = [v, u] := by
    match vs, hl with
    | [v, u], _ => exact ⟨v, u, rfl⟩
  have h1 := hv 0 _ v rfl rfl
  have h2 := hv 1 _ u rfl rfl
  cases h1
  cases h2
  by_cases hn : n = 0
  · subst hn
    refine (grow_none w).mono ?_
    rintro e w' ⟨rfl, rfl⟩
    exact ⟨_, rfl, ⟨fun r hr => by simp at hr, [], World.ownsRow_nil _ _ _ _, fun u hu => by simp at hu, fun j b u hb => by simp at hb⟩, Below.refl _ _⟩
  · obtain ⟨m, rfl⟩ : ∃ m : Nat, n = m := ⟨n.toNat, by omega⟩
    refine (grow_some m (by omega) (by omega) w).mono ?_
    rintro e w' ⟨cap, cells, rfl, g1, g2, g3, g4⟩
    exact ⟨_, rfl, ⟨fun r hr => by simp at hr, [], ⟨by simp, .inr ⟨w.heap.size, cap, cells, rfl, Nat.le_refl _, g1, Nat.zero_le _, g3, g2, by simp⟩⟩, fun u hu => by simp at hu, fun j b u hb => by simp at hb⟩, g4⟩
def c22 (l : List Entry) : List AV := [.sl (l.map c28)]
def sumL (ss : List (List Entry)) (n : Int) (i : Int) : Prop := n = ((ss.take i.toNat).flatten.length : Int)
def isCat (ss : List (List Entry)) (i : Int) (l : List Entry) : Prop := l = (ss.take i.toNat).flatten
def inv59a (ss : List (List Entry)) (n i : Int) : Prop := 0 ≤ i ∧ i ≤ ss.length ∧ 0 ≤ n ∧ n ≤ 140737488351232 ∧ sumL ss n i
def dec59a (ss : List (List Entry)) (n i : Int) : Nat := (ss.length - i).toNat
def inv59b (ss : List (List Entry)) (i : Int) (l : List Entry) : Prop := 0 ≤ i ∧ i ≤ ss.length ∧ isCat ss i l
def dec59b (ss : List (List Entry)) (i : Int) (l : List Entry) : Nat := (ss.length - i).toNat
theorem flat_le (ss : List (List Entry)) (i : Nat) : (ss.take i).flatten.length ≤ ss.flatten.length := by
  have h : (ss.take i).flatten ++ (ss.drop i).flatten = ss.flatten := by rw [← List.flatten_append, List.take_append_drop]
  rw [← h, List.length_append]
  omega
theorem flat_step {ss : List (List Entry)} {i : Int} (h0 : 0 ≤ i) (h : i < ss.length) : (ss.take (i + 1).toNat).flatten = (ss.take i.toNat).flatten ++ ss[i.toNat]! := by
  rw [← take_step h0 h, List.flatten_append]
  simp
theorem cat_len {ss : List (List Entry)} {n i : Int} (hb : ss.flatten.length * 40 ≤ 140737488351232) (h0 : 0 ≤ i) (h : i < ss.length) (hs : sumL ss n i) : (n + ss[i.toNat]!.length) * 40 ≤ 140737488351232 := by
  have h1 := flat_le ss (i + 1).toNat
  rw [flat_step h0 h, List.length_append] at h1
  unfold sumL at hs
  omega
theorem inv59a_init (ss : List (List Entry)) : inv59a ss 0 0 := ⟨by omega, by omega, by omega, by omega, by simp [sumL]⟩
theorem inv59a_step {ss : List (List Entry)} {n i : Int} (hb : ss.flatten.length * 40 ≤ 140737488351232) (h0 : 0 ≤ i) (h : i < ss.length) (hn : 0 ≤ n) (hs : sumL ss n i) : inv59a ss (n + ss[i.toNat]!.length) (i + 1) := by
  have := cat_len hb h0 h hs
  refine ⟨by omega, by omega, by omega, by omega, ?_⟩
  unfold sumL at *
  rw [flat_step h0 h, List.length_append]
  omega
theorem cat_end {ss : List (List Entry)} {n i : Int} (hb : ss.flatten.length * 40 ≤ 140737488351232) (hs : sumL ss n i) : n * 40 ≤ 140737488351232 := by
  have := flat_le ss i.toNat
  unfold sumL at hs
  omega
theorem cat_app {ss : List (List Entry)} {i : Int} {l : List Entry} (hb : ss.flatten.length * 40 ≤ 140737488351232) (h0 : 0 ≤ i) (h : i < ss.length) (hs : isCat ss i l) : (l.length + ss[i.toNat]!.length) * 40 ≤ 140737488351232 := by
  have h1 := flat_le ss (i + 1).toNat
  rw [flat_step h0 h, List.length_append] at h1
  unfold isCat at hs
  rw [hs]
  omega
theorem inv59b_step {ss : List (List Entry)} {i : Int} {l : List Entry} (h0 : 0 ≤ i) (h : i < ss.length) (hs : isCat ss i l) : inv59b ss (i + 1) (l ++ ss[i.toNat]!) :=
  ⟨by omega, by omega, by unfold isCat at *; rw [flat_step h0 h, hs]⟩
theorem isCat_end {ss : List (List Entry)} {i : Int} {l : List Entry} (h : ¬ i < ss.length) (hs : isCat ss i l) : l = ss.flatten := by
  unfold isCat at hs
  rw [hs, List.take_of_length_le (by omega)]
theorem con59 (ss : List (List Entry)) (hb : ss.flatten.length * 40 ≤ 140737488351232) : ConB Try.prog 59 [.sl (ss.map c22)] 28 (.row 4 (ss.flatten.map c28)) :=
  by
  refine conB_lens 0 (c22) (ss) (by kernel_rfl) Go.Proofs.Try.func59 (by kernel_rfl) fun hl_0 => ?_
  refine st_conB tab_ok (by kernel_rfl) (.tmp 2) 36 Go.Proofs.Try.func59 (by kernel_rfl) (by kernel_rfl) ?_
  intro e0 cx
  refine sq ?_
  refine rg (A := True) cx [] [0] [] trivial ?_
  refine sn ?_
  refine sq ?_
  refine rg (A := True) cx [] [0, 3] [] trivial ?_
  refine sn ?_
  refine sq ?_
  refine sq ?_
  refine rg (A := _) cx [(1, { tell := some (.i .i64 ((↑ss.length : Int))) })] [0, 3, 9, 10, 11] [] (told_len c22 ss) ?_
  refine sn ?_
  refine st_block 0 (by kernel_rfl) ?_
  refine st_loop (X := Int × Int) (fun x => ⟨[(0, .sl (List.map c22 ss)), (3, .i .i64 (x.fst)), (9, .sl (List.map c22 ss)), (10, .i .i64 ((↑ss.length : Int))), (11, .i .i64 (x.snd))], []⟩) (fun x ↦ dec59a ss x.fst x.snd) (fun x ↦ inv59a ss x.fst x.snd) [0, 3, 9, 10, 11] [] (((0 : Int), (0 : Int))) (by kernel_rfl) (by kernel_rfl) (show inv59a ss (0 : Int) (0 : Int) from ?g0) ?_; rotate_left 1
  rintro ⟨n_0, i_1⟩ h_2
  obtain ⟨h_3, h_4, h_5, h_6, h_7⟩ : (0 : Int) ≤ i_1 ∧ i_1 ≤ (↑ss.length : Int) ∧ (0 : Int) ≤ n_0 ∧ n_0 ≤ (140737488351232 : Int) ∧ sumL ss n_0 i_1 := h_2
  refine sq ?_
  refine rg (A := (AV.b (decide (i_1 < (↑ss.length : Int))) = AV.b (decide (i_1 < (↑ss.length : Int))))) cx [(0, { tell := some (.b (decide (i_1 < (↑ss.length : Int)))) })] [0, 3, 9, 10, 11, 12] [] (by kernel_rfl) ?_
  refine sn ?_
  refine sq ?_
  refine st_dec (i_1 < (↑ss.length : Int)) (by kernel_rfl) (by kernel_rfl) (fun h_8 => ?_) (fun h_8 => ?_)
  refine st_skip (by kernel_rfl) ?_
  refine sn ?_
  refine sq ?_
  refine st_block 1 (by kernel_rfl) ?_
  refine sq ?_
  refine rg (A := ((0 : Int) ≤ i_1) ∧ ((List.map c22 ss)[i_1.toNat]? = some (c22 ss[i_1.toNat]!)) ∧ ((c22 ss[i_1.toNat]!).length = (1 : Nat))) cx [(0, { row := (c22 ss[i_1.toNat]!) })] [0, 3, 9, 10, 11, 5] [] ⟨(by (with_reducible assumption)), (by (with_reducible refine get_map ?_; omega)), (by kernel_rfl)⟩ ?_
  refine sn ?_
  refine sq ?_
  refine rg (A := _ ∧ (AV.i IntKind.i64 (IntKind.i64.wrap (n_0 + (↑ss[i_1.toNat]!.length : Int))) = AV.i IntKind.i64 (n_0 + (↑ss[i_1.toNat]!.length : Int)))) cx [(2, { tell := some (.i .i64 ((↑ss[i_1.toNat]!.length : Int))) }), (3, { tell := some (.i .i64 (n_0 + (↑ss[i_1.toNat]!.length : Int))) })] [0, 3, 9, 10, 11] [] ⟨(told_len c28 ss[i_1.toNat]!), (told_i64 (by omega) ?g1)⟩ ?_; rotate_left 1
  refine sn ?_
  refine sq ?_
  refine rg (A := (AV.b (decide (n_0 + (↑ss[i_1.toNat]!.length : Int) < (0 : Int))) = AV.b (decide (n_0 + (↑ss[i_1.toNat]!.length : Int) < (0 : Int))))) cx [(1, { tell := some (.b (decide (n_0 + (↑ss[i_1.toNat]!.length : Int) < (0 : Int)))) })] [0, 3, 9, 10, 11, 20] [] (by kernel_rfl) ?_
  refine sn ?_
  refine st_dec (n_0 + (↑ss[i_1.toNat]!.length : Int) < (0 : Int)) (by kernel_rfl) (by kernel_rfl) (fun h_9 => absurd h_9 (by omega)) (fun h_9 => ?_)
  refine st_skip (by kernel_rfl) ?_
  refine q_blk_normal ?_
  refine sn ?_
  refine rg (A := (AV.i IntKind.i64 (IntKind.i64.wrap (i_1 + (1 : Int))) = AV.i IntKind.i64 (i_1 + (1 : Int)))) cx [(0, { tell := some (.i .i64 (i_1 + (1 : Int))) })] [0, 3, 9, 10, 11] [] (told_i64 (by omega) (by omega)) ?_
  refine sn ?_
  refine loop_next ((n_0 + (↑ss[i_1.toNat]!.length : Int), i_1 + (1 : Int))) (by kernel_rfl) (show ((↑ss.length : Int) - (i_1 + (1 : Int))).toNat < ((↑ss.length : Int) - i_1).toNat from (by omega)) (show inv59a ss (n_0 + (↑ss[i_1.toNat]!.length : Int)) (i_1 + (1 : Int)) from ?g2); rotate_left 1
  refine st_exit 0 (by kernel_rfl) ?_
  refine q_seq_exit ?_
  refine q_seq_exit ?_
  refine q_blk_hit ?_
  refine sn ?_
  refine sq ?_
  refine rg (A := _) cx [(1, { val := some (.own (28 : Nat) (4 : Nat)), rows := some (List.map c28 []) })] [0, 6] [24] (con77 (n_0) (by (with_reducible assumption)) ?g3) ?_; rotate_left 1
  refine sn ?_
  refine sq ?_
  refine sq ?_
  refine rg (A := _) cx [(1, { tell := some (.i .i64 ((↑ss.length : Int))) })] [6, 25, 26, 27] [24] (told_len c22 ss) ?_
  refine sn ?_
  refine st_block 2 (by kernel_rfl) ?_
  refine st_loop (X := Int × List Entry) (fun x => ⟨[(6, .own 24 0), (25, .sl (List.map c22 ss)), (26, .i .i64 ((↑ss.length : Int))), (27, .i .i64 (x.fst))], [(24, ⟨0, 28, .row 4 (List.map c28 x.snd)⟩)]⟩) (fun x ↦ dec59b ss x.fst x.snd) (fun x ↦ inv59b ss x.fst x.snd) [6, 25, 26, 27] [24] (((0 : Int), [])) (by kernel_rfl) (by kernel_rfl) (show inv59b ss (0 : Int) [] from ?g4) ?_; rotate_left 1
  rintro ⟨i_10, l_11⟩ h_12
  obtain ⟨h_13, h_14, h_15⟩ : (0 : Int) ≤ i_10 ∧ i_10 ≤ (↑ss.length : Int) ∧ isCat ss i_10 l_11 := h_12
  refine sq ?_
  refine rg (A := (AV.b (decide (i_10 < (↑ss.length : Int))) = AV.b (decide (i_10 < (↑ss.length : Int))))) cx [(0, { tell := some (.b (decide (i_10 < (↑ss.length : Int)))) })] [6, 25, 26, 27, 28] [24] (by kernel_rfl) ?_
  refine sn ?_
  refine sq ?_
  refine st_dec (i_10 < (↑ss.length : Int)) (by kernel_rfl) (by kernel_rfl) (fun h_16 => ?_) (fun h_16 => ?_)
  refine st_skip (by kernel_rfl) ?_
  refine sn ?_
  refine sq ?_
  refine st_block 3 (by kernel_rfl) ?_
  refine sq ?_
  refine rg (A := ((0 : Int) ≤ i_10) ∧ ((List.map c22 ss)[i_10.toNat]? = some (c22 ss[i_10.toNat]!)) ∧ ((c22 ss[i_10.toNat]!).length = (1 : Nat))) cx [(0, { row := (c22 ss[i_10.toNat]!) })] [6, 25, 26, 27, 8] [24] ⟨(by (with_reducible assumption)), (by (with_reducible refine get_map ?_; omega)), (by kernel_rfl)⟩ ?_
  refine sn ?_
  refine rg (A := (28 = (28 : Nat)) ∧ ((4 : Nat) = 4) ∧ ([AV.i IntKind.i64 (0 : Int), AV.i IntKind.i64 (0 : Int), AV.s { data := #[] : ByteArray }, AV.i IntKind.i64 (0 : Int)].length = (4 : Nat)) ∧ (∀ (r : List AV), r ∈ List.map c28 ss[i_10.toNat]! → r.length = 4) ∧ ((List.map c28 l_11).length + (List.map c28 ss[i_10.toNat]!).length ≤ maxLen) ∧ (((List.map c28 l_11).length + (List.map c28 ss[i_10.toNat]!).length) * (40 : Nat) ≤ (140737488355328 : Nat)) ∧ (List.map c28 l_11 ++ List.map c28 ss[i_10.toNat]! = List.map c28 (l_11 ++ ss[i_10.toNat]!))) cx [(2, { rows := some (List.map c28 (l_11 ++ ss[i_10.toNat]!)) })] [6, 25, 26, 27] [24] ⟨(by kernel_rfl), (by kernel_rfl), (by kernel_rfl), (by (with_reducible refine len_map (fun _ => ?_) _; kernel_rfl)), ?g5, ?g6, (by (with_reducible refine app_map ?_; kernel_rfl))⟩ ?_; rotate_left 2
  refine q_blk_normal ?_
  refine sn ?_
  refine rg (A := (AV.i IntKind.i64 (IntKind.i64.wrap (i_10 + (1 : Int))) = AV.i IntKind.i64 (i_10 + (1 : Int)))) cx [(0, { tell := some (.i .i64 (i_10 + (1 : Int))) })] [6, 25, 26, 27] [24] (told_i64 (by omega) (by omega)) ?_
  refine sn ?_
  refine loop_next ((i_10 + (1 : Int), l_11 ++ ss[i_10.toNat]!)) (by kernel_rfl) (show ((↑ss.length : Int) - (i_10 + (1 : Int))).toNat < ((↑ss.length : Int) - i_10).toNat from (by omega)) (show inv59b ss (i_10 + (1 : Int)) (l_11 ++ ss[i_10.toNat]!) from ?g7); rotate_left 1
  refine st_exit 2 (by kernel_rfl) ?_
  refine q_seq_exit ?_
  refine q_seq_exit ?_
  refine q_blk_hit ?_
  refine sn ?_
  refine sq ?_
  refine rg (A := True) cx [] [2] [24] trivial ?_
  refine sn ?_
  refine st_ret (by kernel_rfl) ?_
  refine qb_own (rows' := (List.map c28 l_11)) .ret (.inr rfl) 2 24 0 (by kernel_rfl) (by kernel_rfl) (by kernel_rfl) ?g8; rotate_left 1
  rotate_left
  revert n_0 i_1 h_3 h_4 h_5 h_6 h_7 h_8; rotate_left
  revert n_0 i_1 h_3 h_4 h_5 h_6 h_7 h_8 h_9; rotate_left
  revert n_0 i_1 h_3 h_4 h_5 h_6 h_7 h_8; rotate_left
  revert n_0 i_1 h_3 h_4 h_5 h_6 h_7 h_8; rotate_left
  revert n_0 i_1 h_3 h_4 h_5 h_6 h_7 h_8 i_10 l_11 h_13 h_14 h_15 h_16; rotate_left
  revert n_0 i_1 h_3 h_4 h_5 h_6 h_7 h_8 i_10 l_11 h_13 h_14 h_15 h_16; rotate_left
  revert n_0 i_1 h_3 h_4 h_5 h_6 h_7 h_8 i_10 l_11 h_13 h_14 h_15 h_16; rotate_left
  revert n_0 i_1 h_3 h_4 h_5 h_6 h_7 h_8 i_10 l_11 h_13 h_14 h_15 h_16; rotate_left
  case g0 => exact inv59a_init ss
  case g1 => intro n i h0 h1 h2 h3 h4 h5; have := cat_len hb h0 h5 h4; omega
  case g2 => intro n i h0 h1 h2 h3 h4 h5 h6; exact inv59a_step hb h0 h5 h2 h4
  case g3 => intro n i h0 h1 h2 h3 h4 h5; exact cat_end hb h4
  case g4 => intros; exact ⟨by omega, by omega, by simp [isCat]⟩
  case g5 => intro n i h0 h1 h2 h3 h4 h5 j l k0 k1 k2 k3; have := cat_app hb k0 k3 k2; simp only [List.length_map, Go.maxLen]; omega
  case g6 => intro n i h0 h1 h2 h3 h4 h5 j l k0 k1 k2 k3; have := cat_app hb k0 k3 k2; simp only [List.length_map]; omega
  case g7 => intro n i h0 h1 h2 h3 h4 h5 j l k0 k1 k2 k3; exact inv59b_step k0 k3 k2
  case g8 => intro n i h0 h1 h2 h3 h4 h5 j l k0 k1 k2 k3; rw [isCat_end k3 k2]
def unionR (a b : List Entry) : List Entry × Int := if okL a = true ∧ okL b = true then onceR (srtE (a ++ b)) else ([], 1)
theorem union_no {a b : List Entry} (h : ¬ lstE a = 0 ∨ ¬ lstE b = 0) : unionR a b = ([], 1) := by
  unfold unionR
  rw [if_neg]
  rintro ⟨h1, h2⟩
  exact h.elim (fun k => lst_no k h1) (fun k => lst_no k h2)
theorem union_ok {a b : List Entry} (h1 : lstE a = 0) (h2 : lstE b = 0) : unionR a b = onceR (srtE (a ++ b)) := by
  unfold unionR
  rw [if_pos ⟨lst_ok h1, lst_ok h2⟩]
theorem union_sort {a b : List Entry} (h1 : lstE a = 0) (h2 : lstE b = 0) : sortR (a ++ b) = unionR a b := by
  rw [union_ok h1 h2]
  refine sortR_ok fun j hj => ?_
  by_cases h : j < a.length
  · have : (a ++ b)[j]! = a[j]! := by rw [getElem!_pos (a ++ b) j hj, getElem!_pos a j h, List.getElem_append_left h]
    rw [this]
    exact (okL_at (lst_ok h1) h).1
  · rw [List.length_append] at hj
    have : (a ++ b)[j]! = b[j - a.length]! := by rw [getElem!_pos (a ++ b) j (by rw [List.length_append]; omega), getElem!_pos b (j - a.length) (by omega), List.getElem_append_right (by omega)]
    rw [this]
    exact (okL_at (lst_ok h2) (by omega)).1
theorem two_len {a b : List Entry} (h1 : lstE a = 0) (h2 : lstE b = 0) : a.length ≤ 16000000000 ∧ b.length ≤ 16000000000 := ⟨okL_len (lst_ok h1), okL_len (lst_ok h2)⟩
theorem two_flat (a b : List Entry) : [a, b].flatten = a ++ b := by simp
theorem both_ok {a b : List Entry} (h : ¬ (¬ lstE a = 0 ∨ ¬ lstE b = 0)) : lstE a = 0 ∧ lstE b = 0 := ⟨Classical.not_not.1 fun k => h (.inl k), Classical.not_not.1 fun k => h (.inr k)⟩
theorem both_len {a b : List Entry} (h : ¬ (¬ lstE a = 0 ∨ ¬ lstE b = 0)) : a.length ≤ 16000000000 ∧ b.length ≤ 16000000000 := two_len (both_ok h).1 (both_ok h).2
theorem both_flat {a b : List Entry} (h : ¬ (¬ lstE a = 0 ∨ ¬ lstE b = 0)) : [a, b].flatten.length * 40 ≤ 140737488351232 := by
  have := both_len h
  rw [two_flat, List.length_append]
  omega
def isSuf0 (a b : List Entry) (i : Int) (l : List Entry) : Prop := l = a ++ b.take i.toNat
theorem isSuf_step {a b l : List Entry} {i : Int} (h0 : 0 ≤ i) (h : i < b.length) (hs : isSuf0 a b i l) : isSuf0 a b (i + 1) (l ++ [b[i.toNat]!]) := by
  unfold isSuf0 at *
  rw [← take_step h0 h, hs, List.append_assoc]
theorem isSuf_end {a b l : List Entry} {i : Int} (h : ¬ i < b.length) (hs : isSuf0 a b i l) : l = a ++ b := by
  unfold isSuf0 at hs
  rw [hs, List.take_of_length_le (by omega)]
theorem bot_union {a b l : List Entry} {i : Int} (hu : ¬ (¬ lstE a = 0 ∨ ¬ lstE b = 0)) (h : ¬ i < b.length) (hs : isSuf0 a b i l) : onceR (botS (leM 0) 1 l) = unionR a b := by
  rw [bot_once, isSuf_end h hs, union_ok (both_ok hu).1 (both_ok hu).2]
theorem union_some : unionR (someL.take 1) (someL.drop 1) = (someL, 0) := by
  have h1 : onceR (srtE (someL.take 1 ++ someL.drop 1)) = onceR someL := onceR_perm ((List.mergeSort_perm _ _).trans (by decide +kernel)) (srtE_rises _) (by unfold risesE; decide +kernel)
  rw [union_ok (by decide +kernel) (by decide +kernel), h1]
  decide +kernel
def inv30a (a : List Entry) (i : Int) (l : List Entry) : Prop := 0 ≤ i ∧ i ≤ a.length ∧ (l.length : Int) = i ∧ isPre a i l
def dec30a (a : List Entry) (i : Int) (l : List Entry) : Nat := (a.length - i).toNat
def inv30b (a b : List Entry) (i : Int) (l : List Entry) : Prop := 0 ≤ i ∧ i ≤ b.length ∧ (l.length : Int) = a.length + i ∧ isSuf0 a b i l
def dec30b (b : List Entry) (i : Int) (l : List Entry) : Nat := (b.length - i).toNat
theorem con29 (a b : List Entry) : Con Try.prog 29 [.sl (a.map c28), .sl (b.map c28)] (.tup [.sl ((unionR a b).1.map c28), .i .i64 (unionR a b).2]) :=
  by
  refine con_lens 0 (c28) (a) (by kernel_rfl) Go.Proofs.Try.func29 (by kernel_rfl) fun hl_0 => ?_
  refine con_lens 1 (c28) (b) (by kernel_rfl) Go.Proofs.Try.func29 (by kernel_rfl) fun hl_1 => ?_
  refine st_con tab_ok (by kernel_rfl) [.tmp 4, .tmp 5] 21 Go.Proofs.Try.func29 (by kernel_rfl) (by kernel_rfl) ?_
  intro e0 cx
  refine sq ?_
  refine rg (A := True) cx [] [0, 1] [] trivial ?_
  refine sn ?_
  refine sq ?_
  refine sq ?_
  refine st_join (σ' := ⟨[(0, .sl (List.map c28 a)), (1, .sl (List.map c28 b)), (13, .b (decide (¬lstE a = (0 : Int) ∨ ¬lstE b = (0 : Int))))], []⟩) ?_ ?_
  refine st_split (¬lstE a = (0 : Int)) (fun h_1 => ?_) (fun h_1 => ?_)
  refine rg (A := _ ∧ (AV.b (lstE a != (0 : Int)) = AV.b true) ∧ (AV.b true = AV.b (decide (¬lstE a = (0 : Int) ∨ ¬lstE b = (0 : Int))))) cx [(1, { val := some (.i .i64 (lstE a)) }), (2, { tell := some (.b (true)) }), (7, { tell := some (.b (decide (¬lstE a = (0 : Int) ∨ ¬lstE b = (0 : Int)))) })] [0, 1, 13] [] ⟨(con16 (a)), (told_neqt h_1), (by simp only [eq_false h_1, told_simp1, told_simp2, and_true, true_and, and_false, false_and, or_true, true_or, or_false, false_or, not_true_eq_false, not_false_eq_true, decide_true, decide_false, Bool.decide_eq_true])⟩ ?_
  exact ⟨rfl, by kernel_rfl⟩
  refine rg (A := _ ∧ (AV.b (lstE a != (0 : Int)) = AV.b (decide ¬lstE a = (0 : Int))) ∧ _ ∧ _ ∧ (AV.b (lstE b != (0 : Int)) = AV.b (decide ¬lstE b = (0 : Int))) ∧ (AV.b (decide ¬lstE b = (0 : Int)) = AV.b (decide (¬lstE a = (0 : Int) ∨ ¬lstE b = (0 : Int))))) cx [(1, { val := some (.i .i64 (lstE a)) }), (2, { tell := some (.b (decide ¬lstE a = (0 : Int))) }), (3, { tell := some (.b (false)) }), (5, { val := some (.i .i64 (lstE b)) }), (6, { tell := some (.b (decide ¬lstE b = (0 : Int))) }), (7, { tell := some (.b (decide (¬lstE a = (0 : Int) ∨ ¬lstE b = (0 : Int)))) })] [0, 1, 13] [] ⟨(con16 (a)), (told_neq), (told_false h_1), (con16 (b)), (told_neq), (by simp only [eq_false h_1, told_simp1, told_simp2, and_true, true_and, and_false, false_and, or_true, true_or, or_false, false_or, not_true_eq_false, not_false_eq_true, decide_true, decide_false, Bool.decide_eq_true])⟩ ?_
  exact ⟨rfl, by kernel_rfl⟩
  refine sn ?_
  refine st_dec (¬lstE a = (0 : Int) ∨ ¬lstE b = (0 : Int)) (by kernel_rfl) (by kernel_rfl) (fun h_2 => ?_) (fun h_2 => ?_)
  refine sq ?_
  refine rg (A := True) cx [] [4, 5] [] trivial ?_
  refine sn ?_
  refine st_ret (by kernel_rfl) ?_
  refine q_seq_ret ?_
  refine q_ret (r := .tup [.nl, .i .i64 ((1 : Int))]) (obl := []) (by kernel_rfl) trivial (AVle.tup (ZLe.cons (AVle.nl' (show List.map c28 (unionR a b).fst = [] from ?g1)) (ZLe.cons (AVle.eq (show AV.i IntKind.i64 (1 : Int) = AV.i IntKind.i64 (unionR a b).snd from ?g0)) ZLe.nil))); rotate_left 2
  refine st_skip (by kernel_rfl) ?_
  refine sn ?_
  refine sq ?_
  have hl_3 := (rng_sortR [a, b].flatten)
  refine rg (A := _ ∧ _) cx [(3, { val := some (.own (28 : Nat) (4 : Nat)), rows := some (List.map c28 [a, b].flatten) }), (4, { val := some (.tup [.sl (List.map c28 (sortR [a, b].flatten).fst), .i .i64 ((sortR [a, b].flatten).snd)]) })] [4, 5] [] ⟨(con59 ([a, b]) ?g2), (con25 ([a, b].flatten) ?g3)⟩ ?_; rotate_left 2
  refine sn ?_
  refine st_ret (by kernel_rfl) ?_
  refine q_ret (r := .tup [.sl (List.map c28 (sortR [a, b].flatten).fst), .i .i64 ((sortR [a, b].flatten).snd)]) (obl := []) (by kernel_rfl) trivial (AVle.tup (ZLe.cons (AVle.eq (show AV.sl (List.map c28 (sortR [a, b].flatten).fst) = AV.sl (List.map c28 (unionR a b).fst) from ?g5)) (ZLe.cons (AVle.eq (show AV.i IntKind.i64 (sortR [a, b].flatten).snd = AV.i IntKind.i64 (unionR a b).snd from ?g4)) ZLe.nil))); rotate_left 2
  revert h_2; rotate_left
  revert h_2; rotate_left
  revert h_2; rotate_left
  revert h_2; rotate_left
  revert h_2; rotate_left
  revert h_2; rotate_left
  case g0 => exact (fun h => by rw [union_no h])
  case g1 => exact (fun h => by rw [union_no h]; rfl)
  case g2 => exact (fun h => both_flat h)
  case g3 => exact (fun h => both_flat h)
  case g4 => exact (fun h => by rw [two_flat, union_sort (both_ok h).1 (both_ok h).2])
  case g5 => exact (fun h => by rw [two_flat, union_sort (both_ok h).1 (both_ok h).2])
theorem con30 (a b : List Entry) : Con Try.prog 30 [.sl (a.map c28), .sl (b.map c28)] (.tup [.sl ((unionR a b).1.map c28), .i .i64 (unionR a b).2]) :=
  by
  refine con_lens 0 (c28) (a) (by kernel_rfl) Go.Proofs.Try.func30 (by kernel_rfl) fun hl_0 => ?_
  refine con_lens 1 (c28) (b) (by kernel_rfl) Go.Proofs.Try.func30 (by kernel_rfl) fun hl_1 => ?_
  refine st_con tab_ok (by kernel_rfl) [.tmp 4, .tmp 5] 48 Go.Proofs.Try.func30 (by kernel_rfl) (by kernel_rfl) ?_
  intro e0 cx
  refine sq ?_
  refine rg (A := True) cx [] [0, 1] [] trivial ?_
  refine sn ?_
  refine sq ?_
  refine sq ?_
  refine st_join (σ' := ⟨[(0, .sl (List.map c28 a)), (1, .sl (List.map c28 b)), (16, .b (decide (¬lstE a = (0 : Int) ∨ ¬lstE b = (0 : Int))))], []⟩) ?_ ?_
  refine st_split (¬lstE a = (0 : Int)) (fun h_1 => ?_) (fun h_1 => ?_)
  refine rg (A := _ ∧ (AV.b (lstE a != (0 : Int)) = AV.b true) ∧ (AV.b true = AV.b (decide (¬lstE a = (0 : Int) ∨ ¬lstE b = (0 : Int))))) cx [(1, { val := some (.i .i64 (lstE a)) }), (2, { tell := some (.b (true)) }), (7, { tell := some (.b (decide (¬lstE a = (0 : Int) ∨ ¬lstE b = (0 : Int)))) })] [0, 1, 16] [] ⟨(con18 (a)), (told_neqt h_1), (by simp only [eq_false h_1, told_simp1, told_simp2, and_true, true_and, and_false, false_and, or_true, true_or, or_false, false_or, not_true_eq_false, not_false_eq_true, decide_true, decide_false, Bool.decide_eq_true])⟩ ?_
  exact ⟨rfl, by kernel_rfl⟩
  refine rg (A := _ ∧ (AV.b (lstE a != (0 : Int)) = AV.b (decide ¬lstE a = (0 : Int))) ∧ _ ∧ _ ∧ (AV.b (lstE b != (0 : Int)) = AV.b (decide ¬lstE b = (0 : Int))) ∧ (AV.b (decide ¬lstE b = (0 : Int)) = AV.b (decide (¬lstE a = (0 : Int) ∨ ¬lstE b = (0 : Int))))) cx [(1, { val := some (.i .i64 (lstE a)) }), (2, { tell := some (.b (decide ¬lstE a = (0 : Int))) }), (3, { tell := some (.b (false)) }), (5, { val := some (.i .i64 (lstE b)) }), (6, { tell := some (.b (decide ¬lstE b = (0 : Int))) }), (7, { tell := some (.b (decide (¬lstE a = (0 : Int) ∨ ¬lstE b = (0 : Int)))) })] [0, 1, 16] [] ⟨(con18 (a)), (told_neq), (told_false h_1), (con18 (b)), (told_neq), (by simp only [eq_false h_1, told_simp1, told_simp2, and_true, true_and, and_false, false_and, or_true, true_or, or_false, false_or, not_true_eq_false, not_false_eq_true, decide_true, decide_false, Bool.decide_eq_true])⟩ ?_
  exact ⟨rfl, by kernel_rfl⟩
  refine sn ?_
  refine st_dec (¬lstE a = (0 : Int) ∨ ¬lstE b = (0 : Int)) (by kernel_rfl) (by kernel_rfl) (fun h_2 => ?_) (fun h_2 => ?_)
  refine sq ?_
  refine rg (A := True) cx [] [4, 5] [] trivial ?_
  refine sn ?_
  refine st_ret (by kernel_rfl) ?_
  refine q_seq_ret ?_
  refine q_ret (r := .tup [.nl, .i .i64 ((1 : Int))]) (obl := []) (by kernel_rfl) trivial (AVle.tup (ZLe.cons (AVle.nl' (show List.map c28 (unionR a b).fst = [] from ?g1)) (ZLe.cons (AVle.eq (show AV.i IntKind.i64 (1 : Int) = AV.i IntKind.i64 (unionR a b).snd from ?g0)) ZLe.nil))); rotate_left 2
  refine st_skip (by kernel_rfl) ?_
  refine sn ?_
  refine sq ?_
  refine rg (A := True) cx [] [0, 1, 6] [] trivial ?_
  refine sn ?_
  refine sq ?_
  refine sq ?_
  refine rg (A := True) cx [] [0, 1, 6, 7] [] trivial ?_
  refine sn ?_
  refine st_block 0 (by kernel_rfl) ?_
  refine awp_adopt 6 1006 28 4 (σ' := ⟨[(0, .sl (List.map c28 a)), (1, .sl (List.map c28 b)), (6, .own 1006 0), (7, .i .i64 ((0 : Int)))], [(1006, ⟨0, 28, .row 4 (List.map c28 [])⟩)]⟩) (by kernel_rfl) ?_
  refine st_loop (X := Int × List Entry) (fun x => ⟨[(0, .sl (List.map c28 a)), (1, .sl (List.map c28 b)), (6, .own 1006 0), (7, .i .i64 (x.fst))], [(1006, ⟨0, 28, .row 4 (List.map c28 x.snd)⟩)]⟩) (fun x ↦ dec30a a x.fst x.snd) (fun x ↦ inv30a a x.fst x.snd) [0, 1, 6, 7] [1006] (((0 : Int), [])) (by kernel_rfl) (by kernel_rfl) (show inv30a a (0 : Int) [] from ?g2) ?_; rotate_left 1
  rintro ⟨i_3, l_4⟩ h_5
  obtain ⟨h_6, h_7, h_8, h_9⟩ : (0 : Int) ≤ i_3 ∧ i_3 ≤ (↑a.length : Int) ∧ (↑l_4.length : Int) = i_3 ∧ isPre a i_3 l_4 := h_5
  refine sq ?_
  refine sq ?_
  refine rg (A := _ ∧ (AV.b (decide (i_3 < (↑a.length : Int))) = AV.b (decide (i_3 < (↑a.length : Int))))) cx [(2, { tell := some (.i .i64 ((↑a.length : Int))) }), (3, { tell := some (.b (decide (i_3 < (↑a.length : Int)))) })] [0, 1, 6, 7, 20] [1006] ⟨(told_len c28 a), (by kernel_rfl)⟩ ?_
  refine sn ?_
  refine st_dec (i_3 < (↑a.length : Int)) (by kernel_rfl) (by kernel_rfl) (fun h_10 => ?_) (fun h_10 => ?_)
  refine st_skip (by kernel_rfl) ?_
  refine sn ?_
  refine sq ?_
  refine st_block 1 (by kernel_rfl) ?_
  refine rg (A := ((0 : Int) ≤ i_3) ∧ ((List.map c28 a)[i_3.toNat]? = some (c28 a[i_3.toNat]!)) ∧ ((c28 a[i_3.toNat]!).length = (4 : Nat)) ∧ ((4 : Nat) ≤ [AV.i IntKind.i64 a[i_3.toNat]!.dot.rep, AV.i IntKind.i64 a[i_3.toNat]!.dot.num, AV.s a[i_3.toNat]!.sku, AV.i IntKind.i64 a[i_3.toNat]!.qty].length) ∧ (28 = (28 : Nat)) ∧ ((4 : Nat) = 4) ∧ ([AV.i IntKind.i64 (0 : Int), AV.i IntKind.i64 (0 : Int), AV.s { data := #[] : ByteArray }, AV.i IntKind.i64 (0 : Int)].length = (4 : Nat)) ∧ (∀ (r : List AV), r ∈ List.map c28 [a[i_3.toNat]!] → r.length = 4) ∧ ((List.map c28 l_4).length + (List.map c28 [a[i_3.toNat]!]).length ≤ maxLen) ∧ (((List.map c28 l_4).length + (List.map c28 [a[i_3.toNat]!]).length) * (40 : Nat) ≤ (140737488355328 : Nat)) ∧ (List.map c28 l_4 ++ List.map c28 [a[i_3.toNat]!] = List.map c28 (l_4 ++ [a[i_3.toNat]!]))) cx [(3, { row := (c28 a[i_3.toNat]!) }), (6, { rows := some (List.map c28 (l_4 ++ [a[i_3.toNat]!])) })] [0, 1, 6, 7] [1006] ⟨(by (with_reducible assumption)), (by (with_reducible refine get_map ?_; omega)), (by kernel_rfl), (by (simp only [List.length_append, List.length_cons, List.length_nil]; omega)), (by kernel_rfl), (by kernel_rfl), (by kernel_rfl), (by (with_reducible refine len_map (fun _ => ?_) _; kernel_rfl)), (by (simp only [Go.maxLen, List.length_map, List.length_append, List.length_cons, List.length_nil]; omega)), ?g3, (by (with_reducible refine app_map ?_; kernel_rfl))⟩ ?_; rotate_left 1
  refine q_blk_normal ?_
  refine sn ?_
  refine rg (A := (AV.i IntKind.i64 (IntKind.i64.wrap (i_3 + (1 : Int))) = AV.i IntKind.i64 (i_3 + (1 : Int)))) cx [(1, { tell := some (.i .i64 (i_3 + (1 : Int))) })] [0, 1, 6, 7] [1006] (told_i64 (by omega) (by omega)) ?_
  refine sn ?_
  refine loop_next ((i_3 + (1 : Int), l_4 ++ [a[i_3.toNat]!])) (by kernel_rfl) (show ((↑a.length : Int) - (i_3 + (1 : Int))).toNat < ((↑a.length : Int) - i_3).toNat from (by omega)) (show inv30a a (i_3 + (1 : Int)) (l_4 ++ [a[i_3.toNat]!]) from ?g4); rotate_left 1
  refine st_exit 0 (by kernel_rfl) ?_
  refine q_seq_exit ?_
  refine q_seq_exit ?_
  refine q_blk_hit ?_
  refine sn ?_
  refine sq ?_
  refine sq ?_
  refine rg (A := True) cx [] [1, 6, 8] [1006] trivial ?_
  refine sn ?_
  refine st_block 2 (by kernel_rfl) ?_
  refine st_loop (X := Int × List Entry) (fun x => ⟨[(1, .sl (List.map c28 b)), (6, .own 1006 0), (8, .i .i64 (x.fst))], [(1006, ⟨0, 28, .row 4 (List.map c28 x.snd)⟩)]⟩) (fun x ↦ dec30b b x.fst x.snd) (fun x ↦ inv30b a b x.fst x.snd) [1, 6, 8] [1006] (((0 : Int), l_4)) (by kernel_rfl) (by kernel_rfl) (show inv30b a b (0 : Int) l_4 from ?g5) ?_; rotate_left 1
  rintro ⟨i_11, l_12⟩ h_13
  obtain ⟨h_14, h_15, h_16, h_17⟩ : (0 : Int) ≤ i_11 ∧ i_11 ≤ (↑b.length : Int) ∧ (↑l_12.length : Int) = (↑a.length : Int) + i_11 ∧ isSuf0 a b i_11 l_12 := h_13
  refine sq ?_
  refine sq ?_
  refine rg (A := _ ∧ (AV.b (decide (i_11 < (↑b.length : Int))) = AV.b (decide (i_11 < (↑b.length : Int))))) cx [(2, { tell := some (.i .i64 ((↑b.length : Int))) }), (3, { tell := some (.b (decide (i_11 < (↑b.length : Int)))) })] [1, 6, 8, 33] [1006] ⟨(told_len c28 b), (by kernel_rfl)⟩ ?_
  refine sn ?_
  refine st_dec (i_11 < (↑b.length : Int)) (by kernel_rfl) (by kernel_rfl) (fun h_18 => ?_) (fun h_18 => ?_)
  refine st_skip (by kernel_rfl) ?_
  refine sn ?_
  refine sq ?_
  refine st_block 3 (by kernel_rfl) ?_
  refine rg (A := ((0 : Int) ≤ i_11) ∧ ((List.map c28 b)[i_11.toNat]? = some (c28 b[i_11.toNat]!)) ∧ ((c28 b[i_11.toNat]!).length = (4 : Nat)) ∧ ((4 : Nat) ≤ [AV.i IntKind.i64 b[i_11.toNat]!.dot.rep, AV.i IntKind.i64 b[i_11.toNat]!.dot.num, AV.s b[i_11.toNat]!.sku, AV.i IntKind.i64 b[i_11.toNat]!.qty].length) ∧ (28 = (28 : Nat)) ∧ ((4 : Nat) = 4) ∧ ([AV.i IntKind.i64 (0 : Int), AV.i IntKind.i64 (0 : Int), AV.s { data := #[] : ByteArray }, AV.i IntKind.i64 (0 : Int)].length = (4 : Nat)) ∧ (∀ (r : List AV), r ∈ List.map c28 [b[i_11.toNat]!] → r.length = 4) ∧ ((List.map c28 l_12).length + (List.map c28 [b[i_11.toNat]!]).length ≤ maxLen) ∧ (((List.map c28 l_12).length + (List.map c28 [b[i_11.toNat]!]).length) * (40 : Nat) ≤ (140737488355328 : Nat)) ∧ (List.map c28 l_12 ++ List.map c28 [b[i_11.toNat]!] = List.map c28 (l_12 ++ [b[i_11.toNat]!]))) cx [(3, { row := (c28 b[i_11.toNat]!) }), (6, { rows := some (List.map c28 (l_12 ++ [b[i_11.toNat]!])) })] [1, 6, 8] [1006] ⟨(by (with_reducible assumption)), (by (with_reducible refine get_map ?_; omega)), (by kernel_rfl), (by (simp only [List.length_append, List.length_cons, List.length_nil]; omega)), (by kernel_rfl), (by kernel_rfl), (by kernel_rfl), (by (with_reducible refine len_map (fun _ => ?_) _; kernel_rfl)), ?g6, ?g7, (by (with_reducible refine app_map ?_; kernel_rfl))⟩ ?_; rotate_left 2
  refine q_blk_normal ?_
  refine sn ?_
  refine rg (A := (AV.i IntKind.i64 (IntKind.i64.wrap (i_11 + (1 : Int))) = AV.i IntKind.i64 (i_11 + (1 : Int)))) cx [(1, { tell := some (.i .i64 (i_11 + (1 : Int))) })] [1, 6, 8] [1006] (told_i64 (by omega) (by omega)) ?_
  refine sn ?_
  refine loop_next ((i_11 + (1 : Int), l_12 ++ [b[i_11.toNat]!])) (by kernel_rfl) (show ((↑b.length : Int) - (i_11 + (1 : Int))).toNat < ((↑b.length : Int) - i_11).toNat from (by omega)) (show inv30b a b (i_11 + (1 : Int)) (l_12 ++ [b[i_11.toNat]!]) from ?g8); rotate_left 1
  refine st_exit 2 (by kernel_rfl) ?_
  refine q_seq_exit ?_
  refine q_seq_exit ?_
  refine q_blk_hit ?_
  refine sn ?_
  refine sq ?_
  have hl_19 := (rng_onceR (botS (leM (0 : Int)) (1 : Nat) l_12))
  refine rg (A := _ ∧ _) cx [(1, { val := some (.sl (List.map c28 (botS (leM (0 : Int)) (1 : Nat) l_12))) }), (2, { val := some (.tup [.sl (List.map c28 (onceR (botS (leM (0 : Int)) (1 : Nat) l_12)).fst), .i .i64 ((onceR (botS (leM (0 : Int)) (1 : Nat) l_12)).snd)]) })] [4, 5] [] ⟨(con58 (l_12) ((0 : Int)) ?g9), (con57 (botS (leM (0 : Int)) (1 : Nat) l_12) ?g10)⟩ ?_; rotate_left 2
  refine sn ?_
  refine st_ret (by kernel_rfl) ?_
  refine q_ret (r := .tup [.sl (List.map c28 (onceR (botS (leM (0 : Int)) (1 : Nat) l_12)).fst), .i .i64 ((onceR (botS (leM (0 : Int)) (1 : Nat) l_12)).snd)]) (obl := []) (by kernel_rfl) trivial (AVle.tup (ZLe.cons (AVle.eq (show AV.sl (List.map c28 (onceR (botS (leM (0 : Int)) (1 : Nat) l_12)).fst) = AV.sl (List.map c28 (unionR a b).fst) from ?g12)) (ZLe.cons (AVle.eq (show AV.i IntKind.i64 (onceR (botS (leM (0 : Int)) (1 : Nat) l_12)).snd = AV.i IntKind.i64 (unionR a b).snd from ?g11)) ZLe.nil))); rotate_left 2
  revert h_2; rotate_left
  revert h_2; rotate_left
  revert h_2; rotate_left
  revert h_2 i_3 l_4 h_6 h_7 h_8 h_9 h_10; rotate_left
  revert h_2 i_3 l_4 h_6 h_7 h_8 h_9 h_10; rotate_left
  revert h_2 i_3 l_4 h_6 h_7 h_8 h_9 h_10; rotate_left
  revert h_2 i_3 l_4 h_6 h_7 h_8 h_9 h_10 i_11 l_12 h_14 h_15 h_16 h_17 h_18; rotate_left
  revert h_2 i_3 l_4 h_6 h_7 h_8 h_9 h_10 i_11 l_12 h_14 h_15 h_16 h_17 h_18; rotate_left
  revert h_2 i_3 l_4 h_6 h_7 h_8 h_9 h_10 i_11 l_12 h_14 h_15 h_16 h_17 h_18; rotate_left
  clear hl_19; revert h_2 i_3 l_4 h_6 h_7 h_8 h_9 h_10 i_11 l_12 h_14 h_15 h_16 h_17 h_18; rotate_left
  clear hl_19; revert h_2 i_3 l_4 h_6 h_7 h_8 h_9 h_10 i_11 l_12 h_14 h_15 h_16 h_17 h_18; rotate_left
  clear hl_19; revert h_2 i_3 l_4 h_6 h_7 h_8 h_9 h_10 i_11 l_12 h_14 h_15 h_16 h_17 h_18; rotate_left
  clear hl_19; revert h_2 i_3 l_4 h_6 h_7 h_8 h_9 h_10 i_11 l_12 h_14 h_15 h_16 h_17 h_18; rotate_left
  case g0 => intro h; rw [union_no h]
  case g1 => intro h; rw [union_no h]; rfl
  case g2 => intro h; exact ⟨by omega, by omega, by simp, by simp [isPre]⟩
  case g3 => intro h i l h0 h1 h2 h3 h4; have := both_len h; simp only [List.length_map, List.length_cons, List.length_nil]; omega
  case g4 => intro h i l h0 h1 h2 h3 h4; exact ⟨by omega, by omega, by simp; omega, by unfold isPre at *; rw [h3, take_step h0 h4]⟩
  case g5 => intro h i l h0 h1 h2 h3 h4; exact ⟨by omega, by omega, by omega, by unfold isSuf0; unfold isPre at h3; rw [h3, List.take_of_length_le (by omega)]; simp⟩
  case g6 => intro h i l h0 h1 h2 h3 h4 j m k0 k1 k2 k3 k4; have := both_len h; simp only [List.length_map, List.length_cons, List.length_nil, Go.maxLen]; omega
  case g7 => intro h i l h0 h1 h2 h3 h4 j m k0 k1 k2 k3 k4; have := both_len h; simp only [List.length_map, List.length_cons, List.length_nil]; omega
  case g8 => intro h i l h0 h1 h2 h3 h4 j m k0 k1 k2 k3 k4; exact ⟨by omega, by omega, by rw [List.length_append]; simp only [List.length_cons, List.length_nil]; omega, isSuf_step k0 k4 k3⟩
  case g9 => intro h i l h0 h1 h2 h3 h4 j m k0 k1 k2 k3 k4; have := both_len h; omega
  case g10 => intro h i l h0 h1 h2 h3 h4 j m k0 k1 k2 k3 k4; have := both_len h; rw [bot_len]; omega
  case g11 => intro h i l h0 h1 h2 h3 h4 j m k0 k1 k2 k3 k4; rw [bot_union h k4 k3]
  case g12 => intro h i l h0 h1 h2 h3 h4 j m k0 k1 k2 k3 k4; rw [bot_union h k4 k3]
theorem con7 (c : Case) : Con Try.prog 7 [.agg (c38 c)] (.b true) :=
  by
  refine st_con tab_ok (by kernel_rfl) [.tmp 2] 47 Go.Proofs.Try.func7 (by kernel_rfl) (by kernel_rfl) ?_
  intro e0 cx
  refine sq ?_
  refine rg (A := True) cx [] [1] [1] trivial ?_
  refine sn ?_
  refine sq ?_
  refine ra (A := _ ∧ ((0 : Int) ≤ (0 : Int)) ∧ ((0 : Int) ≤ (1 : Int)) ∧ ((1 : Int) ≤ (↑(List.map c28 someL).length : Int)) ∧ (∀ (r : List AV), r ∈ List.map c28 someL → r.length = (4 : Nat)) ∧ _ ∧ ((0 : Int) ≤ (1 : Int)) ∧ ((1 : Int) ≤ none.getD (↑(List.map c28 someL).length : Int)) ∧ (none.getD (↑(List.map c28 someL).length : Int) ≤ (↑(List.map c28 someL).length : Int)) ∧ (∀ (r : List AV), r ∈ List.map c28 someL → r.length = (4 : Nat)) ∧ _) cx [(0, { val := some (resC (con17 )) }), (2, { val := some (resC (con17 )) }), (4, { val := some (resC (con29 ([{ dot := { rep := (0 : Int), num := (3 : Int) : Dot }, sku := { dot := { rep := (0 : Int), num := (3 : Int) : Dot }, sku := { data := #[(65 : UInt8)] : ByteArray }, qty := (5 : Int) : Entry }.sku, qty := (5 : Int) : Entry }]) ([{ dot := { rep := (1 : Int), num := (1 : Int) : Dot }, sku := { dot := { rep := (1 : Int), num := (1 : Int) : Dot }, sku := { data := #[(66 : UInt8)] : ByteArray }, qty := (2 : Int) : Entry }.sku, qty := (2 : Int) : Entry }, { dot := { rep := (1 : Int), num := (4 : Int) : Dot }, sku := { dot := { rep := (1 : Int), num := (4 : Int) : Dot }, sku := { data := #[(65 : UInt8)] : ByteArray }, qty := (1 : Int) : Entry }.sku, qty := (1 : Int) : Entry }]))) })] [1, 3, 4] [1] ⟨(con17 ), (by omega), (by omega), ?g0, (by (with_reducible refine len_map (fun _ => ?_) _; kernel_rfl)), (con17 ), (by omega), ?g1, ?g2, (by (with_reducible refine len_map (fun _ => ?_) _; kernel_rfl)), (con29 ([{ dot := { rep := (0 : Int), num := (3 : Int) : Dot }, sku := { dot := { rep := (0 : Int), num := (3 : Int) : Dot }, sku := { data := #[(65 : UInt8)] : ByteArray }, qty := (5 : Int) : Entry }.sku, qty := (5 : Int) : Entry }]) ([{ dot := { rep := (1 : Int), num := (1 : Int) : Dot }, sku := { dot := { rep := (1 : Int), num := (1 : Int) : Dot }, sku := { data := #[(66 : UInt8)] : ByteArray }, qty := (2 : Int) : Entry }.sku, qty := (2 : Int) : Entry }, { dot := { rep := (1 : Int), num := (4 : Int) : Dot }, sku := { dot := { rep := (1 : Int), num := (4 : Int) : Dot }, sku := { data := #[(65 : UInt8)] : ByteArray }, qty := (1 : Int) : Entry }.sku, qty := (1 : Int) : Entry }]))⟩ ?_; rotate_left 3
  refine sn ?_
  refine sq ?_
  refine sq ?_
  refine st_join (σ' := ⟨[(1, .ptr (1) (0) (0) (0)), (22, .b (decide (¬(unionR [{ dot := { rep := (0 : Int), num := (3 : Int) : Dot }, sku := { dot := { rep := (0 : Int), num := (3 : Int) : Dot }, sku := { data := #[(65 : UInt8)] : ByteArray }, qty := (5 : Int) : Entry }.sku, qty := (5 : Int) : Entry }] [{ dot := { rep := (1 : Int), num := (1 : Int) : Dot }, sku := { dot := { rep := (1 : Int), num := (1 : Int) : Dot }, sku := { data := #[(66 : UInt8)] : ByteArray }, qty := (2 : Int) : Entry }.sku, qty := (2 : Int) : Entry }, { dot := { rep := (1 : Int), num := (4 : Int) : Dot }, sku := { dot := { rep := (1 : Int), num := (4 : Int) : Dot }, sku := { data := #[(65 : UInt8)] : ByteArray }, qty := (1 : Int) : Entry }.sku, qty := (1 : Int) : Entry }]).snd = (0 : Int) ∨ ¬(unionR [{ dot := { rep := (0 : Int), num := (3 : Int) : Dot }, sku := { dot := { rep := (0 : Int), num := (3 : Int) : Dot }, sku := { data := #[(65 : UInt8)] : ByteArray }, qty := (5 : Int) : Entry }.sku, qty := (5 : Int) : Entry }] [{ dot := { rep := (1 : Int), num := (1 : Int) : Dot }, sku := { dot := { rep := (1 : Int), num := (1 : Int) : Dot }, sku := { data := #[(66 : UInt8)] : ByteArray }, qty := (2 : Int) : Entry }.sku, qty := (2 : Int) : Entry }, { dot := { rep := (1 : Int), num := (4 : Int) : Dot }, sku := { dot := { rep := (1 : Int), num := (4 : Int) : Dot }, sku := { data := #[(65 : UInt8)] : ByteArray }, qty := (1 : Int) : Entry }.sku, qty := (1 : Int) : Entry }]).fst = someL)))], [(1, ⟨0, 38, .var [.sl (List.map c28 c.a), .sl (List.map c28 c.b), .sl (List.map c3 c.p.vec), .sl (List.map c81 c.p.cloud), .i .i64 (c.d.rep), .i .i64 (c.d.num), .i .i64 (c.rep), .s (c.sku)]⟩)]⟩) ?_ ?_
  refine st_split (¬(unionR [{ dot := { rep := (0 : Int), num := (3 : Int) : Dot }, sku := { dot := { rep := (0 : Int), num := (3 : Int) : Dot }, sku := { data := #[(65 : UInt8)] : ByteArray }, qty := (5 : Int) : Entry }.sku, qty := (5 : Int) : Entry }] [{ dot := { rep := (1 : Int), num := (1 : Int) : Dot }, sku := { dot := { rep := (1 : Int), num := (1 : Int) : Dot }, sku := { data := #[(66 : UInt8)] : ByteArray }, qty := (2 : Int) : Entry }.sku, qty := (2 : Int) : Entry }, { dot := { rep := (1 : Int), num := (4 : Int) : Dot }, sku := { dot := { rep := (1 : Int), num := (4 : Int) : Dot }, sku := { data := #[(65 : UInt8)] : ByteArray }, qty := (1 : Int) : Entry }.sku, qty := (1 : Int) : Entry }]).snd = (0 : Int)) (fun h_1 => ?_) (fun h_1 => ?_)
  refine rg (A := (AV.b ((unionR [{ dot := { rep := (0 : Int), num := (3 : Int) : Dot }, sku := { dot := { rep := (0 : Int), num := (3 : Int) : Dot }, sku := { data := #[(65 : UInt8)] : ByteArray }, qty := (5 : Int) : Entry }.sku, qty := (5 : Int) : Entry }] [{ dot := { rep := (1 : Int), num := (1 : Int) : Dot }, sku := { dot := { rep := (1 : Int), num := (1 : Int) : Dot }, sku := { data := #[(66 : UInt8)] : ByteArray }, qty := (2 : Int) : Entry }.sku, qty := (2 : Int) : Entry }, { dot := { rep := (1 : Int), num := (4 : Int) : Dot }, sku := { dot := { rep := (1 : Int), num := (4 : Int) : Dot }, sku := { data := #[(65 : UInt8)] : ByteArray }, qty := (1 : Int) : Entry }.sku, qty := (1 : Int) : Entry }]).snd != (0 : Int)) = AV.b true) ∧ (AV.b true = AV.b (decide (¬(unionR [{ dot := { rep := (0 : Int), num := (3 : Int) : Dot }, sku := { dot := { rep := (0 : Int), num := (3 : Int) : Dot }, sku := { data := #[(65 : UInt8)] : ByteArray }, qty := (5 : Int) : Entry }.sku, qty := (5 : Int) : Entry }] [{ dot := { rep := (1 : Int), num := (1 : Int) : Dot }, sku := { dot := { rep := (1 : Int), num := (1 : Int) : Dot }, sku := { data := #[(66 : UInt8)] : ByteArray }, qty := (2 : Int) : Entry }.sku, qty := (2 : Int) : Entry }, { dot := { rep := (1 : Int), num := (4 : Int) : Dot }, sku := { dot := { rep := (1 : Int), num := (4 : Int) : Dot }, sku := { data := #[(65 : UInt8)] : ByteArray }, qty := (1 : Int) : Entry }.sku, qty := (1 : Int) : Entry }]).snd = (0 : Int) ∨ ¬(unionR [{ dot := { rep := (0 : Int), num := (3 : Int) : Dot }, sku := { dot := { rep := (0 : Int), num := (3 : Int) : Dot }, sku := { data := #[(65 : UInt8)] : ByteArray }, qty := (5 : Int) : Entry }.sku, qty := (5 : Int) : Entry }] [{ dot := { rep := (1 : Int), num := (1 : Int) : Dot }, sku := { dot := { rep := (1 : Int), num := (1 : Int) : Dot }, sku := { data := #[(66 : UInt8)] : ByteArray }, qty := (2 : Int) : Entry }.sku, qty := (2 : Int) : Entry }, { dot := { rep := (1 : Int), num := (4 : Int) : Dot }, sku := { dot := { rep := (1 : Int), num := (4 : Int) : Dot }, sku := { data := #[(65 : UInt8)] : ByteArray }, qty := (1 : Int) : Entry }.sku, qty := (1 : Int) : Entry }]).fst = someL)))) cx [(1, { tell := some (.b (true)) }), (7, { tell := some (.b (decide (¬(unionR [{ dot := { rep := (0 : Int), num := (3 : Int) : Dot }, sku := { dot := { rep := (0 : Int), num := (3 : Int) : Dot }, sku := { data := #[(65 : UInt8)] : ByteArray }, qty := (5 : Int) : Entry }.sku, qty := (5 : Int) : Entry }] [{ dot := { rep := (1 : Int), num := (1 : Int) : Dot }, sku := { dot := { rep := (1 : Int), num := (1 : Int) : Dot }, sku := { data := #[(66 : UInt8)] : ByteArray }, qty := (2 : Int) : Entry }.sku, qty := (2 : Int) : Entry }, { dot := { rep := (1 : Int), num := (4 : Int) : Dot }, sku := { dot := { rep := (1 : Int), num := (4 : Int) : Dot }, sku := { data := #[(65 : UInt8)] : ByteArray }, qty := (1 : Int) : Entry }.sku, qty := (1 : Int) : Entry }]).snd = (0 : Int) ∨ ¬(unionR [{ dot := { rep := (0 : Int), num := (3 : Int) : Dot }, sku := { dot := { rep := (0 : Int), num := (3 : Int) : Dot }, sku := { data := #[(65 : UInt8)] : ByteArray }, qty := (5 : Int) : Entry }.sku, qty := (5 : Int) : Entry }] [{ dot := { rep := (1 : Int), num := (1 : Int) : Dot }, sku := { dot := { rep := (1 : Int), num := (1 : Int) : Dot }, sku := { data := #[(66 : UInt8)] : ByteArray }, qty := (2 : Int) : Entry }.sku, qty := (2 : Int) : Entry }, { dot := { rep := (1 : Int), num := (4 : Int) : Dot }, sku := { dot := { rep := (1 : Int), num := (4 : Int) : Dot }, sku := { data := #[(65 : UInt8)] : ByteArray }, qty := (1 : Int) : Entry }.sku, qty := (1 : Int) : Entry }]).fst = someL))) })] [1, 22] [1] ⟨(told_neqt h_1), (by simp only [eq_false h_1, told_simp1, told_simp2, and_true, true_and, and_false, false_and, or_true, true_or, or_false, false_or, not_true_eq_false, not_false_eq_true, decide_true, decide_false, Bool.decide_eq_true])⟩ ?_
  exact ⟨rfl, by kernel_rfl⟩
  refine rg (A := (AV.b ((unionR [{ dot := { rep := (0 : Int), num := (3 : Int) : Dot }, sku := { dot := { rep := (0 : Int), num := (3 : Int) : Dot }, sku := { data := #[(65 : UInt8)] : ByteArray }, qty := (5 : Int) : Entry }.sku, qty := (5 : Int) : Entry }] [{ dot := { rep := (1 : Int), num := (1 : Int) : Dot }, sku := { dot := { rep := (1 : Int), num := (1 : Int) : Dot }, sku := { data := #[(66 : UInt8)] : ByteArray }, qty := (2 : Int) : Entry }.sku, qty := (2 : Int) : Entry }, { dot := { rep := (1 : Int), num := (4 : Int) : Dot }, sku := { dot := { rep := (1 : Int), num := (4 : Int) : Dot }, sku := { data := #[(65 : UInt8)] : ByteArray }, qty := (1 : Int) : Entry }.sku, qty := (1 : Int) : Entry }]).snd != (0 : Int)) = AV.b (decide ¬(unionR [{ dot := { rep := (0 : Int), num := (3 : Int) : Dot }, sku := { dot := { rep := (0 : Int), num := (3 : Int) : Dot }, sku := { data := #[(65 : UInt8)] : ByteArray }, qty := (5 : Int) : Entry }.sku, qty := (5 : Int) : Entry }] [{ dot := { rep := (1 : Int), num := (1 : Int) : Dot }, sku := { dot := { rep := (1 : Int), num := (1 : Int) : Dot }, sku := { data := #[(66 : UInt8)] : ByteArray }, qty := (2 : Int) : Entry }.sku, qty := (2 : Int) : Entry }, { dot := { rep := (1 : Int), num := (4 : Int) : Dot }, sku := { dot := { rep := (1 : Int), num := (4 : Int) : Dot }, sku := { data := #[(65 : UInt8)] : ByteArray }, qty := (1 : Int) : Entry }.sku, qty := (1 : Int) : Entry }]).snd = (0 : Int))) ∧ _ ∧ _ ∧ _ ∧ ((AV.b !decide ((unionR [{ dot := { rep := (0 : Int), num := (3 : Int) : Dot }, sku := { dot := { rep := (0 : Int), num := (3 : Int) : Dot }, sku := { data := #[(65 : UInt8)] : ByteArray }, qty := (5 : Int) : Entry }.sku, qty := (5 : Int) : Entry }] [{ dot := { rep := (1 : Int), num := (1 : Int) : Dot }, sku := { dot := { rep := (1 : Int), num := (1 : Int) : Dot }, sku := { data := #[(66 : UInt8)] : ByteArray }, qty := (2 : Int) : Entry }.sku, qty := (2 : Int) : Entry }, { dot := { rep := (1 : Int), num := (4 : Int) : Dot }, sku := { dot := { rep := (1 : Int), num := (4 : Int) : Dot }, sku := { data := #[(65 : UInt8)] : ByteArray }, qty := (1 : Int) : Entry }.sku, qty := (1 : Int) : Entry }]).fst = someL)) = AV.b (decide ¬(unionR [{ dot := { rep := (0 : Int), num := (3 : Int) : Dot }, sku := { dot := { rep := (0 : Int), num := (3 : Int) : Dot }, sku := { data := #[(65 : UInt8)] : ByteArray }, qty := (5 : Int) : Entry }.sku, qty := (5 : Int) : Entry }] [{ dot := { rep := (1 : Int), num := (1 : Int) : Dot }, sku := { dot := { rep := (1 : Int), num := (1 : Int) : Dot }, sku := { data := #[(66 : UInt8)] : ByteArray }, qty := (2 : Int) : Entry }.sku, qty := (2 : Int) : Entry }, { dot := { rep := (1 : Int), num := (4 : Int) : Dot }, sku := { dot := { rep := (1 : Int), num := (4 : Int) : Dot }, sku := { data := #[(65 : UInt8)] : ByteArray }, qty := (1 : Int) : Entry }.sku, qty := (1 : Int) : Entry }]).fst = someL)) ∧ (AV.b (decide ¬(unionR [{ dot := { rep := (0 : Int), num := (3 : Int) : Dot }, sku := { dot := { rep := (0 : Int), num := (3 : Int) : Dot }, sku := { data := #[(65 : UInt8)] : ByteArray }, qty := (5 : Int) : Entry }.sku, qty := (5 : Int) : Entry }] [{ dot := { rep := (1 : Int), num := (1 : Int) : Dot }, sku := { dot := { rep := (1 : Int), num := (1 : Int) : Dot }, sku := { data := #[(66 : UInt8)] : ByteArray }, qty := (2 : Int) : Entry }.sku, qty := (2 : Int) : Entry }, { dot := { rep := (1 : Int), num := (4 : Int) : Dot }, sku := { dot := { rep := (1 : Int), num := (4 : Int) : Dot }, sku := { data := #[(65 : UInt8)] : ByteArray }, qty := (1 : Int) : Entry }.sku, qty := (1 : Int) : Entry }]).fst = someL) = AV.b (decide (¬(unionR [{ dot := { rep := (0 : Int), num := (3 : Int) : Dot }, sku := { dot := { rep := (0 : Int), num := (3 : Int) : Dot }, sku := { data := #[(65 : UInt8)] : ByteArray }, qty := (5 : Int) : Entry }.sku, qty := (5 : Int) : Entry }] [{ dot := { rep := (1 : Int), num := (1 : Int) : Dot }, sku := { dot := { rep := (1 : Int), num := (1 : Int) : Dot }, sku := { data := #[(66 : UInt8)] : ByteArray }, qty := (2 : Int) : Entry }.sku, qty := (2 : Int) : Entry }, { dot := { rep := (1 : Int), num := (4 : Int) : Dot }, sku := { dot := { rep := (1 : Int), num := (4 : Int) : Dot }, sku := { data := #[(65 : UInt8)] : ByteArray }, qty := (1 : Int) : Entry }.sku, qty := (1 : Int) : Entry }]).snd = (0 : Int) ∨ ¬(unionR [{ dot := { rep := (0 : Int), num := (3 : Int) : Dot }, sku := { dot := { rep := (0 : Int), num := (3 : Int) : Dot }, sku := { data := #[(65 : UInt8)] : ByteArray }, qty := (5 : Int) : Entry }.sku, qty := (5 : Int) : Entry }] [{ dot := { rep := (1 : Int), num := (1 : Int) : Dot }, sku := { dot := { rep := (1 : Int), num := (1 : Int) : Dot }, sku := { data := #[(66 : UInt8)] : ByteArray }, qty := (2 : Int) : Entry }.sku, qty := (2 : Int) : Entry }, { dot := { rep := (1 : Int), num := (4 : Int) : Dot }, sku := { dot := { rep := (1 : Int), num := (4 : Int) : Dot }, sku := { data := #[(65 : UInt8)] : ByteArray }, qty := (1 : Int) : Entry }.sku, qty := (1 : Int) : Entry }]).fst = someL)))) cx [(1, { tell := some (.b (decide ¬(unionR [{ dot := { rep := (0 : Int), num := (3 : Int) : Dot }, sku := { dot := { rep := (0 : Int), num := (3 : Int) : Dot }, sku := { data := #[(65 : UInt8)] : ByteArray }, qty := (5 : Int) : Entry }.sku, qty := (5 : Int) : Entry }] [{ dot := { rep := (1 : Int), num := (1 : Int) : Dot }, sku := { dot := { rep := (1 : Int), num := (1 : Int) : Dot }, sku := { data := #[(66 : UInt8)] : ByteArray }, qty := (2 : Int) : Entry }.sku, qty := (2 : Int) : Entry }, { dot := { rep := (1 : Int), num := (4 : Int) : Dot }, sku := { dot := { rep := (1 : Int), num := (4 : Int) : Dot }, sku := { data := #[(65 : UInt8)] : ByteArray }, qty := (1 : Int) : Entry }.sku, qty := (1 : Int) : Entry }]).snd = (0 : Int))) }), (2, { tell := some (.b (false)) }), (4, { val := some (resC (con17 )) }), (5, { val := some (.b (decide ((unionR [{ dot := { rep := (0 : Int), num := (3 : Int) : Dot }, sku := { dot := { rep := (0 : Int), num := (3 : Int) : Dot }, sku := { data := #[(65 : UInt8)] : ByteArray }, qty := (5 : Int) : Entry }.sku, qty := (5 : Int) : Entry }] [{ dot := { rep := (1 : Int), num := (1 : Int) : Dot }, sku := { dot := { rep := (1 : Int), num := (1 : Int) : Dot }, sku := { data := #[(66 : UInt8)] : ByteArray }, qty := (2 : Int) : Entry }.sku, qty := (2 : Int) : Entry }, { dot := { rep := (1 : Int), num := (4 : Int) : Dot }, sku := { dot := { rep := (1 : Int), num := (4 : Int) : Dot }, sku := { data := #[(65 : UInt8)] : ByteArray }, qty := (1 : Int) : Entry }.sku, qty := (1 : Int) : Entry }]).fst = someL))) }), (6, { tell := some (.b (decide ¬(unionR [{ dot := { rep := (0 : Int), num := (3 : Int) : Dot }, sku := { dot := { rep := (0 : Int), num := (3 : Int) : Dot }, sku := { data := #[(65 : UInt8)] : ByteArray }, qty := (5 : Int) : Entry }.sku, qty := (5 : Int) : Entry }] [{ dot := { rep := (1 : Int), num := (1 : Int) : Dot }, sku := { dot := { rep := (1 : Int), num := (1 : Int) : Dot }, sku := { data := #[(66 : UInt8)] : ByteArray }, qty := (2 : Int) : Entry }.sku, qty := (2 : Int) : Entry }, { dot := { rep := (1 : Int), num := (4 : Int) : Dot }, sku := { dot := { rep := (1 : Int), num := (4 : Int) : Dot }, sku := { data := #[(65 : UInt8)] : ByteArray }, qty := (1 : Int) : Entry }.sku, qty := (1 : Int) : Entry }]).fst = someL)) }), (7, { tell := some (.b (decide (¬(unionR [{ dot := { rep := (0 : Int), num := (3 : Int) : Dot }, sku := { dot := { rep := (0 : Int), num := (3 : Int) : Dot }, sku := { data := #[(65 : UInt8)] : ByteArray }, qty := (5 : Int) : Entry }.sku, qty := (5 : Int) : Entry }] [{ dot := { rep := (1 : Int), num := (1 : Int) : Dot }, sku := { dot := { rep := (1 : Int), num := (1 : Int) : Dot }, sku := { data := #[(66 : UInt8)] : ByteArray }, qty := (2 : Int) : Entry }.sku, qty := (2 : Int) : Entry }, { dot := { rep := (1 : Int), num := (4 : Int) : Dot }, sku := { dot := { rep := (1 : Int), num := (4 : Int) : Dot }, sku := { data := #[(65 : UInt8)] : ByteArray }, qty := (1 : Int) : Entry }.sku, qty := (1 : Int) : Entry }]).snd = (0 : Int) ∨ ¬(unionR [{ dot := { rep := (0 : Int), num := (3 : Int) : Dot }, sku := { dot := { rep := (0 : Int), num := (3 : Int) : Dot }, sku := { data := #[(65 : UInt8)] : ByteArray }, qty := (5 : Int) : Entry }.sku, qty := (5 : Int) : Entry }] [{ dot := { rep := (1 : Int), num := (1 : Int) : Dot }, sku := { dot := { rep := (1 : Int), num := (1 : Int) : Dot }, sku := { data := #[(66 : UInt8)] : ByteArray }, qty := (2 : Int) : Entry }.sku, qty := (2 : Int) : Entry }, { dot := { rep := (1 : Int), num := (4 : Int) : Dot }, sku := { dot := { rep := (1 : Int), num := (4 : Int) : Dot }, sku := { data := #[(65 : UInt8)] : ByteArray }, qty := (1 : Int) : Entry }.sku, qty := (1 : Int) : Entry }]).fst = someL))) })] [1, 22] [1] ⟨(told_neq), (told_false h_1), (con17 ), (con24 ((unionR [{ dot := { rep := (0 : Int), num := (3 : Int) : Dot }, sku := { dot := { rep := (0 : Int), num := (3 : Int) : Dot }, sku := { data := #[(65 : UInt8)] : ByteArray }, qty := (5 : Int) : Entry }.sku, qty := (5 : Int) : Entry }] [{ dot := { rep := (1 : Int), num := (1 : Int) : Dot }, sku := { dot := { rep := (1 : Int), num := (1 : Int) : Dot }, sku := { data := #[(66 : UInt8)] : ByteArray }, qty := (2 : Int) : Entry }.sku, qty := (2 : Int) : Entry }, { dot := { rep := (1 : Int), num := (4 : Int) : Dot }, sku := { dot := { rep := (1 : Int), num := (4 : Int) : Dot }, sku := { data := #[(65 : UInt8)] : ByteArray }, qty := (1 : Int) : Entry }.sku, qty := (1 : Int) : Entry }]).fst) (someL)), (told_notd), (by simp only [eq_false h_1, told_simp1, told_simp2, and_true, true_and, and_false, false_and, or_true, true_or, or_false, false_or, not_true_eq_false, not_false_eq_true, decide_true, decide_false, Bool.decide_eq_true])⟩ ?_
  exact ⟨rfl, by kernel_rfl⟩
  refine sn ?_
  refine st_dec (¬(unionR [{ dot := { rep := (0 : Int), num := (3 : Int) : Dot }, sku := { dot := { rep := (0 : Int), num := (3 : Int) : Dot }, sku := { data := #[(65 : UInt8)] : ByteArray }, qty := (5 : Int) : Entry }.sku, qty := (5 : Int) : Entry }] [{ dot := { rep := (1 : Int), num := (1 : Int) : Dot }, sku := { dot := { rep := (1 : Int), num := (1 : Int) : Dot }, sku := { data := #[(66 : UInt8)] : ByteArray }, qty := (2 : Int) : Entry }.sku, qty := (2 : Int) : Entry }, { dot := { rep := (1 : Int), num := (4 : Int) : Dot }, sku := { dot := { rep := (1 : Int), num := (4 : Int) : Dot }, sku := { data := #[(65 : UInt8)] : ByteArray }, qty := (1 : Int) : Entry }.sku, qty := (1 : Int) : Entry }]).snd = (0 : Int) ∨ ¬(unionR [{ dot := { rep := (0 : Int), num := (3 : Int) : Dot }, sku := { dot := { rep := (0 : Int), num := (3 : Int) : Dot }, sku := { data := #[(65 : UInt8)] : ByteArray }, qty := (5 : Int) : Entry }.sku, qty := (5 : Int) : Entry }] [{ dot := { rep := (1 : Int), num := (1 : Int) : Dot }, sku := { dot := { rep := (1 : Int), num := (1 : Int) : Dot }, sku := { data := #[(66 : UInt8)] : ByteArray }, qty := (2 : Int) : Entry }.sku, qty := (2 : Int) : Entry }, { dot := { rep := (1 : Int), num := (4 : Int) : Dot }, sku := { dot := { rep := (1 : Int), num := (4 : Int) : Dot }, sku := { data := #[(65 : UInt8)] : ByteArray }, qty := (1 : Int) : Entry }.sku, qty := (1 : Int) : Entry }]).fst = someL) (by kernel_rfl) (by kernel_rfl) (fun h_2 => ?_) (fun h_2 => ?_)
  refine sq ?_
  refine rg (A := True) cx [] [2] [] trivial ?_
  refine sn ?_
  refine st_ret (by kernel_rfl) ?_
  refine q_seq_ret ?_
  refine q_ret (r := .b (false)) (obl := []) (by kernel_rfl) trivial (AVle.eq (show AV.b false = AV.b true from ?g3)); rotate_left 1
  refine st_skip (by kernel_rfl) ?_
  refine sn ?_
  refine sq ?_
  refine rg (A := _) cx [(4, { val := some (resC (con30 (c.a) (c.b))) })] [1, 5, 6] [1] (con30 (c.a) (c.b)) ?_
  refine sn ?_
  refine sq ?_
  refine rg (A := _) cx [(4, { val := some (resC (con29 (c.a) (c.b))) })] [5, 6, 3, 4] [] (con29 (c.a) (c.b)) ?_
  refine sn ?_
  refine sq ?_
  refine rg (A := (AV.b ((unionR c.a c.b).snd == (unionR c.a c.b).snd) = AV.b true) ∧ _) cx [(2, { tell := some (.b (true)) }), (6, { val := some (.b (decide ((unionR c.a c.b).fst = (unionR c.a c.b).fst))) })] [2] [] ⟨(told_ies), (con24 ((unionR c.a c.b).fst) ((unionR c.a c.b).fst))⟩ ?_
  refine sn ?_
  refine st_ret (by kernel_rfl) ?_
  refine q_ret (r := .b (decide ((unionR c.a c.b).fst = (unionR c.a c.b).fst))) (obl := []) (by kernel_rfl) trivial (AVle.eq (show AV.b (decide ((unionR c.a c.b).fst = (unionR c.a c.b).fst)) = AV.b true from ?g4)); rotate_left 1
  rotate_left
  rotate_left
  rotate_left
  revert h_2; rotate_left
  revert h_2; rotate_left
  case g0 => exact (by decide)
  case g1 => exact (by decide)
  case g2 => exact (by decide)
  case g3 => exact (fun h => by
    have e := union_some
    simp only [someL, List.take_succ_cons, List.take_zero, List.drop_succ_cons, List.drop_zero] at e
    rw [e] at h
    rcases h with h | h
    · exact absurd rfl h
    · exact absurd rfl h)
  case g4 => exact (fun h => by rw [decide_eq_true rfl])
end Go.Proofs.Ytjngmlkaijpbgaa
namespace Go.Proofs.Ytjngmlkaijpbgaa
open Go.E
set_option maxRecDepth 100000
set_option maxHeartbeats 4000000
theorem dLt_iff {a b : Dot} : dLt a b = true ↔ a.rep < b.rep ∨ a.rep = b.rep ∧ a.num < b.num := by simp [dLt]
theorem dLt_irr (a : Dot) : ¬ dLt a a = true := by rw [dLt_iff]; omega
theorem dLt_trans {a b c : Dot} (h1 : dLt a b = true) (h2 : dLt b c = true) : dLt a c = true := by rw [dLt_iff] at *; omega
theorem dLt_total {a b : Dot} (h1 : ¬ dLt a b = true) (h2 : ¬ dLt b a = true) : a = b := by
  rw [dLt_iff] at *
  cases a; cases b
  simp only at *
  congr 1 <;> omega
def upE (es : List Entry) : Prop := es.Pairwise (fun a b => dLt a.dot b.dot = true)
def formE (es : List Entry) : Prop := (∀ e ∈ es, entE e = 0) ∧ upE es
theorem okL_iff (es : List Entry) : okL es = true ↔ formE es := by
  constructor
  · intro h
    refine ⟨fun e he => ?_, ?_⟩
    · obtain ⟨i, hi, rfl⟩ := List.mem_iff_getElem.1 he
      have := (okL_at h hi).1
      rwa [getElem!_pos es i hi] at this
    · unfold upE
      rw [List.pairwise_iff_getElem]
      have step : ∀ n i : Nat, (hi : i + n + 1 < es.length) → dLt es[i]!.dot es[i + n + 1]!.dot = true := by
        intro n
        induction n with
        | zero =>
          intro i hi
          have := (okL_at h hi).2
          rcases this with k | k
          · omega
          · simpa using k
        | succ n ih =>
          intro i hi
          have h1 := ih i (by omega)
          have h2 := (okL_at h (i := i + (n + 1) + 1) hi).2
          rcases h2 with k | k
          · omega
          · rw [show i + (n + 1) + 1 - 1 = i + n + 1 by omega] at k; exact dLt_trans h1 k
      intro i j hi hj hij
      have := step (j - i - 1) i (by omega)
      rw [show i + (j - i - 1) + 1 = j by omega, getElem!_pos es i hi, getElem!_pos es j hj] at this
      exact this
  · rintro ⟨h1, h2⟩
    unfold upE at h2
    rw [List.pairwise_iff_getElem] at h2
    unfold okL
    rw [allUp_iff]
    intro i hi
    rw [okAt_iff]
    refine ⟨h1 _ (bang_in hi), ?_⟩
    by_cases e : i = 0
    · exact .inl e
    · refine .inr ?_
      have := h2 (i - 1) i (by omega) hi (by omega)
      rwa [getElem!_pos es (i - 1) (by omega), getElem!_pos es i hi]
theorem lst_iff (es : List Entry) : lstE es = 0 ↔ formE es := by
  rw [← okL_iff]
  exact ⟨lst_ok, fun h => by unfold lstE; rw [if_pos h]⟩
theorem formE_sub {l es : List Entry} (h : formE es) (hs : l.Sublist es) : formE l := ⟨fun e he => h.1 e (hs.subset he), List.Pairwise.sublist hs h.2⟩
theorem formE_dot {es : List Entry} (h : formE es) {x y : Entry} (hx : x ∈ es) (hy : y ∈ es) (hd : x.dot = y.dot) : x = y := by
  obtain ⟨i, hi, rfl⟩ := List.mem_iff_getElem.1 hx
  obtain ⟨j, hj, rfl⟩ := List.mem_iff_getElem.1 hy
  have hp := List.pairwise_iff_getElem.1 h.2
  by_cases e : i = j
  · subst e; rfl
  · rcases Nat.lt_or_gt_of_ne e with e | e
    · have := hp i j hi hj e; rw [hd] at this; exact absurd this (dLt_irr _)
    · have := hp j i hj hi e; rw [hd] at this; exact absurd this (dLt_irr _)
theorem upE_unique : ∀ {a b : List Entry}, upE a → upE b → (∀ e, e ∈ a ↔ e ∈ b) → a = b
  | [], [], _, _, _ => rfl
  | [], y :: b, _, _, h => by have := (h y).2 (by simp); cases this
  | x :: a, [], _, _, h => by have := (h x).1 (by simp); cases this
  | x :: a, y :: b, ha, hb, h => by
    have pa := List.pairwise_cons.1 ha
    have pb := List.pairwise_cons.1 hb
    have e : x = y := by
      apply Classical.byContradiction
      intro hne
      have h1 : x ∈ b := by
        rcases List.mem_cons.1 ((h x).1 (by simp)) with k | k
        · exact absurd k hne
        · exact k
      have h2 : y ∈ a := by
        rcases List.mem_cons.1 ((h y).2 (by simp)) with k | k
        · exact absurd k.symm hne
        · exact k
      exact dLt_irr _ (dLt_trans (pa.1 y h2) (pb.1 x h1))
    subst e
    rw [upE_unique pa.2 pb.2 fun e => ?_]
    constructor
    · intro he
      rcases List.mem_cons.1 ((h e).1 (by simp [he])) with k | k
      · subst k; exact absurd (pa.1 e he) (dLt_irr _)
      · exact k
    · intro he
      rcases List.mem_cons.1 ((h e).2 (by simp [he])) with k | k
      · subst k; exact absurd (pb.1 e he) (dLt_irr _)
      · exact k
theorem rises_up {s : List Entry} (h : upE s) : risesE s := h.imp fun {a b} hab => by
  simp only [ltE]
  cases hc : dLt b.dot a.dot
  · rfl
  · exact absurd (dLt_trans hab hc) (dLt_irr _)
theorem onceN_up {s : List Entry} (h : upE s) : ∀ n : Nat, n ≤ s.length → onceN s n = some (s.take n)
  | 0, _ => by simp [onceN]
  | n + 1, hn => by
    have ih := onceN_up h n (by omega)
    have hp := List.pairwise_iff_getElem.1 h
    have hd : n = 0 ∨ ¬ s[n - 1]!.dot = s[n]!.dot := by
      by_cases e : n = 0
      · exact .inl e
      · refine .inr fun k => ?_
        have := hp (n - 1) n (by omega) (by omega) (by omega)
        rw [getElem!_pos s (n - 1) (by omega), getElem!_pos s n (by omega)] at k
        rw [k] at this
        exact dLt_irr _ this
    rw [onceN, ih]
    simp only
    rw [if_pos hd, getElem!_pos s n (by omega), ← List.take_succ_eq_append_getElem (by omega)]
theorem once_form {es : List Entry} (h : upE es) : onceR es = (es, 0) := by
  unfold onceR
  rw [onceN_up h es.length (Nat.le_refl _), List.take_length]
theorem rises_le {s : List Entry} (hs : risesE s) {i j : Nat} (hij : i < j) (hj : j < s.length) : ¬ dLt s[j]!.dot s[i]!.dot = true := by
  have := List.pairwise_iff_getElem.1 hs i j (by omega) hj hij
  rw [← getElem!_pos s i (by omega), ← getElem!_pos s j hj] at this
  simpa [ltE] using this
theorem once_up {s : List Entry} (hs : risesE s) : ∀ (n : Nat) (l : List Entry), n ≤ s.length → onceN s n = some l → upE l ∧ ∀ e, e ∈ l ↔ e ∈ s.take n
  | 0, l, _, h => by
    simp only [onceN, Option.some.injEq] at h
    subst h
    exact ⟨List.Pairwise.nil, fun e => by simp⟩
  | n + 1, l, hn, h => by
    rw [onceN] at h
    split at h
    · cases h
    · rename_i l0 h0
      obtain ⟨i1, i2⟩ := once_up hs n l0 (by omega) h0
      have et : s.take (n + 1) = s.take n ++ [s[n]!] := by rw [getElem!_pos s n (by omega), ← List.take_succ_eq_append_getElem (by omega)]
      split at h
      · rename_i hc
        simp only [Option.some.injEq] at h
        subst h
        refine ⟨List.pairwise_append.2 ⟨i1, by simp, fun x hx y hy => ?_⟩, fun e => ?_⟩
        · have : y = s[n]! := by simpa using hy
          subst this
          obtain ⟨i, hi, rfl⟩ := List.mem_iff_getElem.1 ((i2 x).1 hx)
          rw [List.length_take] at hi
          rw [List.getElem_take, ← getElem!_pos s i (by omega)]
          have h1 := rises_le hs (i := i) (j := n) (by omega) (by omega)
          apply Classical.byContradiction
          intro h2
          have hd := dLt_total h2 h1
          rcases hc with hc | hc
          · omega
          · by_cases ei : i = n - 1
            · subst ei; exact hc hd
            · have h3 := rises_le hs (i := i) (j := n - 1) (by omega) (by omega)
              have h4 := rises_le hs (i := n - 1) (j := n) (by omega) (by omega)
              rw [hd] at h3
              exact hc (dLt_total h3 h4)
        · rw [List.mem_append, et, List.mem_append, i2]
      · rename_i hc
        split at h
        · rename_i he
          simp only [Option.some.injEq] at h
          subst h
          refine ⟨i1, fun e => ?_⟩
          rw [et, List.mem_append, i2]
          constructor
          · exact fun k => .inl k
          · rintro (k | k)
            · exact k
            · have hn0 : ¬ n = 0 := fun k0 => hc (.inl k0)
              have : e = s[n - 1]! := by rw [he]; simpa using k
              subst this
              have hlt : n - 1 < (s.take n).length := by rw [List.length_take]; omega
              have := List.getElem_mem hlt
              rw [List.getElem_take, ← getElem!_pos s (n - 1) (by omega)] at this
              exact this
        · cases h
theorem once_some {s : List Entry} (hc : ∀ x ∈ s, ∀ y ∈ s, x.dot = y.dot → x = y) : ∀ n : Nat, n ≤ s.length → ∃ l, onceN s n = some l
  | 0, _ => ⟨[], rfl⟩
  | n + 1, hn => by
    obtain ⟨l, hl⟩ := once_some hc n (by omega)
    rw [onceN, hl]
    simp only
    split
    · exact ⟨_, rfl⟩
    · rename_i h
      rw [if_pos]
      · exact ⟨_, rfl⟩
      · refine hc _ (bang_in (by omega)) _ (bang_in (by omega)) ?_
        apply Classical.byContradiction
        exact fun k => h (.inr k)
theorem srt_mem (es : List Entry) (e : Entry) : e ∈ srtE es ↔ e ∈ es := (List.mergeSort_perm es _).mem_iff
def agreeE (a b : List Entry) : Prop := ∀ x ∈ a, ∀ y ∈ b, x.dot = y.dot → x = y
/-- What Union answers of lists in form that agree: the list in form of what is in either. -/
theorem union_mem {a b : List Entry} (ha : formE a) (hb : formE b) (hc : agreeE a b) : ∃ l, unionR a b = (l, 0) ∧ formE l ∧ ∀ e, e ∈ l ↔ e ∈ a ∨ e ∈ b := by
  rw [union_ok ((lst_iff a).2 ha) ((lst_iff b).2 hb)]
  have hall : ∀ x ∈ srtE (a ++ b), ∀ y ∈ srtE (a ++ b), x.dot = y.dot → x = y := by
    intro x hx y hy hd
    rw [srt_mem, List.mem_append] at hx hy
    rcases hx with hx | hx <;> rcases hy with hy | hy
    · exact formE_dot ha hx hy hd
    · exact hc x hx y hy hd
    · exact (hc y hy x hx hd.symm).symm
    · exact formE_dot hb hx hy hd
  obtain ⟨l, hl⟩ := once_some hall _ (Nat.le_refl _)
  obtain ⟨h1, h2⟩ := once_up (srtE_rises _) _ l (Nat.le_refl _) hl
  have h3 : ∀ e, e ∈ l ↔ e ∈ a ∨ e ∈ b := fun e => by rw [h2, List.take_length, srt_mem, List.mem_append]
  refine ⟨l, by unfold onceR; rw [hl], ⟨fun e he => ?_, h1⟩, h3⟩
  rcases (h3 e).1 he with k | k
  · exact ha.1 e k
  · exact hb.1 e k
theorem union_clash {a b : List Entry} (ha : formE a) (hb : formE b) (hc : ¬ agreeE a b) : unionR a b = ([], 10) := by
  rw [union_ok ((lst_iff a).2 ha) ((lst_iff b).2 hb)]
  unfold onceR
  cases hl : onceN (srtE (a ++ b)) (srtE (a ++ b)).length with
  | none => rfl
  | some l =>
    refine absurd (fun x hx y hy hd => ?_) hc
    have hx' : x ∈ srtE (a ++ b) := by rw [srt_mem, List.mem_append]; exact .inl hx
    have hy' : y ∈ srtE (a ++ b) := by rw [srt_mem, List.mem_append]; exact .inr hy
    obtain ⟨i, hi, rfl⟩ := List.mem_iff_getElem.1 hx'
    obtain ⟨j, hj, rfl⟩ := List.mem_iff_getElem.1 hy'
    have cl := clash_once (srtE_rises _) hl
    rw [← getElem!_pos _ i hi, ← getElem!_pos _ j hj] at hd ⊢
    rcases Nat.le_total i j with hij | hij
    · exact cl i j hij hj hd
    · exact (cl j i hij hi hd.symm).symm
/-- The union of lists in form is what has just their entries and is in form. -/
theorem union_eq {a b l : List Entry} (ha : formE a) (hb : formE b) (hl : formE l) (h : ∀ e, e ∈ l ↔ e ∈ a ∨ e ∈ b) : unionR a b = (l, 0) := by
  obtain ⟨m, h1, h2, h3⟩ := union_mem ha hb fun x hx y hy hd => formE_dot hl ((h x).2 (.inl hx)) ((h y).2 (.inr hy)) hd
  rw [h1, upE_unique h2.2 hl.2 fun e => (h3 e).trans (h e).symm]
end Go.Proofs.Ytjngmlkaijpbgaa
