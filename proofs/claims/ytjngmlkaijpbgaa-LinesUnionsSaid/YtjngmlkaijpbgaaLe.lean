/- Le: lines: the library's sort at entries; copies; what sorted lists come to. Conditions: none. -/
import Derived.Test.YtjngmlkaijpbgaaLc
import Derived.Test.YtjngmlkaijpbgaaYg
import Derived.Test.YtjngmlkaijpbgaaEV
import Derived.Test.YtjngmlkaijpbgaaEW
import Derived.WalkKit
set_option linter.unusedVariables false
set_option linter.unusedSimpArgs false
namespace Go.Proofs.Ytjngmlkaijpbgaa
open Go.E
set_option maxRecDepth 100000
set_option maxHeartbeats 4000000
open Go Go.Sort Go.RowKit Go.Lib Go.Shelf Go.Proofs
def renClE : Go.Shelf.Ren := ⟨fun | 41 => 54 | n => n, fun | 4 => 4 | 22 => 22 | 23 => 28 | n => n, fun n => n⟩
theorem laysClE : Go.Proofs.SlLaysE0.n41 Try.prog renClE := { mixed := by kernel_rfl, f41 := ⟨Try.f54.name, by decide, Try.func54.trans (congrArg some (by kernel_rfl))⟩, t4 := Try.underlying4, a4 := Try.isAgg4, z4 := Try.sizeOf4, v4 := Try.zeroValue4, t22 := Try.underlying22, a22 := Try.isAgg22, z22 := Try.sizeOf22, v22 := Try.zeroValue22 }
theorem con54 (es : List Entry) (hl : es.length * 40 ≤ 140737488355328) : ConB Try.prog 54 [.sl (es.map c28)] 28 (.row 4 (es.map c28)) :=
  conB_clone (T := tab) laysClE tab_ok (te := _) rfl ⟨_, Try.func54, by kernel_rfl, by kernel_rfl⟩ (by kernel_rfl) (by decide +kernel) (fun r hr => by obtain ⟨x, _, rfl⟩ := List.mem_map.1 hr; kernel_rfl) (by rw [List.length_map]; exact hl)
noncomputable def tiRowE : TypeInfo := (Try.prog.info? 22).get!
noncomputable def tiE : TypeInfo := (Try.prog.info? 28).get!
def swE (n : Nat) : Nat := if n = 0 then 93 else if n = 1 then 94 else 101
theorem swKE (n : Nat) (h2 : 2 ≤ n) : swapperK n tiE 25 = 9 := by
  have b : tiE.bytes = 40 := by kernel_rfl
  have c : (n == 0) = false := by simp; omega
  have d : (n == 1) = false := by simp; omega
  simp [swapperK, b, c, d]
theorem sortTyE : SortTy 22 28 4 swE := by
  refine ⟨tiRowE, tiE, 25, false, by kernel_rfl, by kernel_rfl, by kernel_rfl, by kernel_rfl, fun _ => by kernel_rfl, fun n => ?_, by kernel_rfl, fun _ => by kernel_rfl, fun n h2 => ?_⟩
  · match n with
    | 0 => show _ = some 93; kernel_rfl
    | 1 => show _ = some 94; kernel_rfl
    | n + 2 =>
      rw [swKE _ (by omega)]
      simp only [swE]
      rw [if_neg (by omega), if_neg (by omega)]
      show _ = some 101
      kernel_rfl
  · have e : swE n = 101 := by simp only [swE]; rw [if_neg (by omega), if_neg (by omega)]
    rw [e]
    exact fun args W => run_callFunc_extern Try.func101 (by kernel_rfl) (by kernel_rfl) (by kernel_rfl) (e := Extern.ReflectliteSwapper.swap false) (by kernel_rfl) args W
def ltE (a b : Entry) : Bool := dLt a.dot b.dot
theorem swo_ltE : SWO ltE := by
  refine ⟨fun x => ?_, fun x y z h1 h2 => ?_, fun x y z h1 h2 => ?_⟩ <;> simp only [ltE, dLt, decide_eq_true_eq, decide_eq_false_iff_not] at * <;> omega
theorem walk56 (d : List Entry) (i : Int) (j : Int) (hi0 : (0 : Int) ≤ i) (hj0 : (0 : Int) ≤ j) (hi : i < (↑d.length : Int)) (hj : j < (↑d.length : Int))
    (g0 : AV.b (dLt d[i.toNat]!.dot d[j.toNat]!.dot) = AV.b (ltE d[i.toNat]! d[j.toNat]!)) :
    Con Try.prog (56 : FuncId) [AV.i IntKind.i64 i, AV.i IntKind.i64 j, AV.eptr [AV.sl (List.map c28 d)]] (AV.b (ltE d[i.toNat]! d[j.toNat]!)) := by
  refine st_con tab_ok (by kernel_rfl) [.tmp 5] 17 Go.Proofs.Try.func56 (by kernel_rfl) (by kernel_rfl) ?_
  intro e0 cx
  refine st_seq (by kernel_rfl) ?_
  refine st_reg (A := True) (σ' := ⟨[(0, .i .i64 (i)), (1, .i .i64 (j)), (2, .eptr [.sl (List.map c28 d)])], []⟩) cx [] [0, 1, 2] [] (by kernel_rfl) (by kernel_rfl) trivial ?_
  refine q_seq_normal ?_
  refine st_seq (by kernel_rfl) ?_
  refine st_any (A := ((0 : Int) ≤ i) ∧ ((List.map c28 d)[i.toNat]? = some (c28 d[i.toNat]!)) ∧ ((c28 d[i.toNat]!).length = (4 : Nat)) ∧ ((2 : Nat) ≤ [AV.i IntKind.i64 d[i.toNat]!.dot.rep, AV.i IntKind.i64 d[i.toNat]!.dot.num, AV.s d[i.toNat]!.sku, AV.i IntKind.i64 d[i.toNat]!.qty].length) ∧ ((0 : Int) ≤ j) ∧ ((List.map c28 d)[j.toNat]? = some (c28 d[j.toNat]!)) ∧ ((c28 d[j.toNat]!).length = (4 : Nat)) ∧ ((2 : Nat) ≤ [AV.i IntKind.i64 d[j.toNat]!.dot.rep, AV.i IntKind.i64 d[j.toNat]!.dot.num, AV.s d[j.toNat]!.sku, AV.i IntKind.i64 d[j.toNat]!.qty].length) ∧ (Con Try.prog (48 : FuncId) [AV.agg (c26 d[i.toNat]!.dot), AV.agg (c26 d[j.toNat]!.dot)] (AV.b (dLt d[i.toNat]!.dot d[j.toNat]!.dot)))) (σ' := ⟨[(5, .b (dLt d[i.toNat]!.dot d[j.toNat]!.dot))], []⟩) cx [(2, { row := (c28 d[i.toNat]!) }), (7, { row := (c28 d[j.toNat]!) }), (10, { val := some (.b (dLt d[i.toNat]!.dot d[j.toNat]!.dot)) })] [5] [] (by kernel_rfl) (by kernel_rfl) ⟨(by (with_reducible assumption)), (by (with_reducible refine get_map ?_; omega)), (by kernel_rfl), (by (simp only [List.length_append, List.length_cons, List.length_nil]; omega)), (by (with_reducible assumption)), (by (with_reducible refine get_map ?_; omega)), (by kernel_rfl), (by (simp only [List.length_append, List.length_cons, List.length_nil]; omega)), (con48 (d[i.toNat]!.dot) (d[j.toNat]!.dot))⟩ ?_
  refine q_seq_normal ?_
  refine st_ret (by kernel_rfl) ?_
  exact q_ret (r := .b (dLt d[i.toNat]!.dot d[j.toNat]!.dot)) (obl := []) (by kernel_rfl) trivial (AVle.eq g0)
theorem con56 (d : List Entry) (i j : Int) (hi0 : 0 ≤ i) (hj0 : 0 ≤ j) (hi : i < d.length) (hj : j < d.length) : Con Try.prog 56 [.i .i64 i, .i .i64 j, .eptr [.sl (d.map c28)]] (.b (ltE d[i.toNat]! d[j.toNat]!)) :=
  walk56 d i j hi0 hj0 hi hj rfl
theorem io55 (d : List Entry) (hlen : d.length < 1152921504606846976) :
    IOConG Try.prog 55 56 (some 22) true 28 4 (d.map c28) ((d.mergeSort (fun x y => !ltE y x)).map c28) := by
  refine IOCon.toG (fun r hr => by obtain ⟨x, _, rfl⟩ := List.mem_map.1 hr; rfl) ?_
  exact ioStable (α := Entry) (encA := c28) (k := 4) sortTyE (fun x => rfl)
    (fun x a ha => by
      simp only [c28, List.mem_cons, List.not_mem_nil, or_false] at ha
      rcases ha with rfl | rfl | rfl | rfl <;> rfl)
    ltE swo_ltE 56 ⟨_, Try.func56, by kernel_rfl, by kernel_rfl⟩ ⟨_, Try.func55, by kernel_rfl, by kernel_rfl⟩
    (fun d i j hi hj => by
      have := con56 d (i : Int) (j : Int) (by omega) (by omega) (by omega) (by omega)
      rw [Int.toNat_natCast, Int.toNat_natCast] at this
      exact this) d hlen
def srtE (es : List Entry) : List Entry := es.mergeSort (fun x y => !ltE y x)
theorem srtE_length (es : List Entry) : (srtE es).length = es.length := by simp [srtE]
def errL (es : List Entry) : Int := match es.find? (fun e => decide (entE e ≠ 0)) with | some e => entE e | none => 0
def onceN (s : List Entry) : Nat → Option (List Entry)
  | 0 => some []
  | n + 1 => match onceN s n with
    | none => none
    | some l => if n = 0 ∨ s[n - 1]!.dot ≠ s[n]!.dot then some (l ++ [s[n]!]) else if s[n - 1]! = s[n]! then some l else none
def onceR (s : List Entry) : List Entry × Int := match onceN s s.length with | some l => (l, 0) | none => ([], 10)
def sortR (es : List Entry) : List Entry × Int := if errL es = 0 then onceR (srtE es) else ([], errL es)
theorem errL_ok {es : List Entry} (h : ∀ j : Nat, j < es.length → entE es[j]! = 0) : errL es = 0 := by
  unfold errL
  have : es.find? (fun e => decide (entE e ≠ 0)) = none := by
    rw [List.find?_eq_none]
    intro x hx
    obtain ⟨j, hj, rfl⟩ := List.mem_iff_getElem.1 hx
    have := h j hj
    rw [getElem!_pos es j hj] at this
    simp [this]
  rw [this]
theorem errL_bad {es : List Entry} : ∀ {i : Nat}, i < es.length → ¬ entE es[i]! = 0 → (∀ j : Nat, j < i → entE es[j]! = 0) → errL es = entE es[i]! := by
  induction es with
  | nil => intro i hi; simp at hi
  | cons e es ih =>
    intro i hi hb hok
    cases i with
    | zero =>
      have hb' : ¬ entE e = 0 := by simpa using hb
      unfold errL
      simp [List.find?_cons, hb']
    | succ i =>
      have h0 : entE e = 0 := by simpa using hok 0 (by omega)
      have := ih (i := i) (by simpa using hi) (by simpa using hb) (fun j hj => by simpa using hok (j + 1) (by omega))
      unfold errL at this ⊢
      simpa [List.find?_cons, h0] using this
theorem onceN_none {s : List Entry} {n : Nat} (h : onceN s n = none) : ∀ m, onceN s (n + m) = none
  | 0 => h
  | m + 1 => by rw [← Nat.add_assoc, onceN, onceN_none h m]
theorem onceN_adj {s : List Entry} : ∀ {n : Nat} {l : List Entry}, onceN s n = some l → ∀ m, m < n → m = 0 ∨ s[m - 1]!.dot ≠ s[m]!.dot ∨ s[m - 1]! = s[m]!
  | 0, l, h, m, hm => by omega
  | n + 1, l, h, m, hm => by
    rw [onceN] at h
    split at h
    · cases h
    · rename_i l0 h0
      by_cases e : m = n
      · subst e
        split at h
        · rename_i hc
          exact hc.imp id .inl
        · split at h
          · rename_i hc; exact .inr (.inr hc)
          · cases h
      · exact onceN_adj h0 m (by omega)
def risesE (s : List Entry) : Prop := s.Pairwise (fun x y => (!ltE y x) = true)
theorem clash_once {s : List Entry} (hs : risesE s) {l : List Entry} (h : onceN s s.length = some l) : ∀ i j : Nat, i ≤ j → j < s.length → s[i]!.dot = s[j]!.dot → s[i]! = s[j]! := by
  intro i j hij
  induction j with
  | zero => intro hj he; have : i = 0 := by omega
            rw [this]
  | succ j ih =>
    intro hj he
    by_cases e : i = j + 1
    · rw [e]
    · have hp := List.pairwise_iff_getElem.1 hs
      have h1 : i = j ∨ (!ltE s[j]! s[i]!) = true := by
        by_cases e2 : i = j
        · exact .inl e2
        · right
          have := hp i j (by omega) (by omega) (by omega)
          rwa [← getElem!_pos s i (by omega), ← getElem!_pos s j (by omega)] at this
      have h2 := hp j (j + 1) (by omega) hj (by omega)
      rw [← getElem!_pos s j (by omega), ← getElem!_pos s (j + 1) hj] at h2
      have hd : s[i]!.dot = s[j]!.dot := by
        rcases h1 with h1 | h1
        · rw [h1]
        · have e3 : s[j]!.dot.rep = s[i]!.dot.rep ∧ s[j]!.dot.num = s[i]!.dot.num := by
            simp only [ltE, dLt, Bool.not_eq_true', decide_eq_false_iff_not] at h1 h2
            rw [← he] at h2
            omega
          cases hx : s[i]!.dot; cases hy : s[j]!.dot
          rw [hx, hy] at e3
          simp only at e3
          rw [e3.1, e3.2]
      have h3 := onceN_adj h (j + 1) hj
      rcases h3 with h3 | h3 | h3
      · omega
      · simp only [Nat.add_sub_cancel] at h3
        exact absurd (by rw [← hd, he]) h3
      · simp only [Nat.add_sub_cancel] at h3
        rw [← h3]
        exact ih (by omega) (by omega) (by rw [he, h3])
/-- Lists that rise, with the same members as often, come to the same. -/
theorem onceR_perm {s t : List Entry} (hp : s.Perm t) (hs : risesE s) (ht : risesE t) : onceR s = onceR t := by
  have key : ∀ {a b : List Entry}, a.Perm b → risesE a → risesE b → ∀ {l}, onceN a a.length = some l → a = b := by
    intro a b hp ha hb l h
    refine List.Perm.eq_of_pairwise (le := fun x y => (!ltE y x) = true) ?_ ha hb hp
    intro x y hx hy h1 h2
    have hy' := hp.symm.subset hy
    obtain ⟨i, hi, rfl⟩ := List.mem_iff_getElem.1 hx
    obtain ⟨j, hj, rfl⟩ := List.mem_iff_getElem.1 hy'
    have hd : a[i].dot = a[j].dot := by
      simp only [ltE, dLt, Bool.not_eq_true', decide_eq_false_iff_not] at h1 h2
      have e3 : a[i].dot.rep = a[j].dot.rep ∧ a[i].dot.num = a[j].dot.num := by omega
      cases hx : a[i].dot; cases hy : a[j].dot
      rw [hx, hy] at e3
      simp only at e3
      rw [e3.1, e3.2]
    by_cases hij : i ≤ j
    · have := clash_once ha h i j hij hj (by rw [getElem!_pos a i hi, getElem!_pos a j hj]; exact hd)
      rwa [getElem!_pos a i hi, getElem!_pos a j hj] at this
    · have := clash_once ha h j i (by omega) hi (by rw [getElem!_pos a i hi, getElem!_pos a j hj]; exact hd.symm)
      rw [getElem!_pos a i hi, getElem!_pos a j hj] at this
      exact this.symm
  cases h1 : onceN s s.length with
  | some l => rw [key hp hs ht h1]
  | none =>
    cases h2 : onceN t t.length with
    | some l => rw [key hp.symm ht hs h2]
    | none => simp [onceR, h1, h2]
theorem srtE_rises (es : List Entry) : risesE (srtE es) := by
  refine List.pairwise_mergeSort (le := fun x y => !ltE y x) ?_ ?_ es
  · intro a b c h1 h2
    simp only [Bool.not_eq_true'] at *
    exact swo_ltE.ntrans _ _ _ h2 h1
  · intro a b
    cases h : ltE b a with
    | false => rfl
    | true => simp [swo_ltE.asymmA h]
theorem rng_onceR (s : List Entry) : (onceR s).1.length ≤ s.length := by
  have : ∀ n l, onceN s n = some l → l.length ≤ n := by
    intro n
    induction n with
    | zero => intro l h; simp [onceN] at h; simp [← h]
    | succ n ih =>
      intro l h
      rw [onceN] at h
      split at h
      · cases h
      · rename_i l0 h0
        have := ih l0 h0
        split at h
        · simp only [Option.some.injEq] at h; rw [← h]; simp; omega
        · split at h
          · simp only [Option.some.injEq] at h; rw [← h]; omega
          · cases h
  unfold onceR
  split
  · rename_i l h; exact this _ _ h
  · simp
theorem rng_sortR (es : List Entry) : (sortR es).1.length ≤ es.length := by
  unfold sortR
  split
  · have := rng_onceR (srtE es)
    rwa [srtE_length] at this
  · simp
def inv25a (es : List Entry) (i : Int) : Prop := 0 ≤ i ∧ i ≤ es.length ∧ ∀ j : Nat, (j : Int) < i → entE es[j]! = 0
def inv25b (s : List Entry) (i : Int) (l : List Entry) : Prop := 0 ≤ i ∧ i ≤ s.length ∧ onceN s i.toNat = some l ∧ (l.length : Int) ≤ i
def dec25b (s : List Entry) (i : Int) (l : List Entry) : Nat := (s.length - i).toNat
end Go.Proofs.Ytjngmlkaijpbgaa
