/- Yd: the library's stable sort: the one order that it gives (by tags: each element with its place), and sort.SliceStable. Conditions: what is asked of 'less'; the order; the types. -/
import Derived.Test.YtjngmlkaijpbgaaWa
import Derived.Test.YtjngmlkaijpbgaaES
import Derived.Test.YtjngmlkaijpbgaaET1
import Derived.Test.YtjngmlkaijpbgaaYa
import Derived.Test.YtjngmlkaijpbgaaYb
import Derived.Test.YtjngmlkaijpbgaaYc
import Derived.WalkKit
import Derived.Shelf.SlSortFuncK.SWK
import Derived.Lib.ReflectliteSwap
import Derived.Laws.Externs
set_option linter.unusedVariables false
set_option linter.unusedSimpArgs false
namespace Go.Proofs.Ytjngmlkaijpbgaa
open Go.E
set_option maxRecDepth 100000
set_option maxHeartbeats 4000000
set_option linter.unusedSectionVars false
open Go Go.Sort Go.RowKit Go.Lib Go.Shelf Go.Proofs
section
variable {α : Type} [Inhabited α] {enc : α → List Value} {k blk off : Nat}
/-- The stable order. -/
def stS (lt : α → α → Bool) (d : Array α) : Array α := (d.toList.mergeSort (fun x y => !lt y x)).toArray
theorem stS_size (lt : α → α → Bool) (d : Array α) : (stS lt d).size = d.size := by simp [stS]
/-- Elements with their places: equals are told apart by their place. -/
def ltT (lt : α → α → Bool) (x y : α × Nat) : Bool := lt x.1 y.1 || (!lt y.1 x.1 && decide (x.2 < y.2))
theorem ltT_true {lt : α → α → Bool} {x y : α × Nat} : ltT lt x y = true ↔ lt x.1 y.1 = true ∨ (lt y.1 x.1 = false ∧ x.2 < y.2) := by simp [ltT]
theorem ltT_false {lt : α → α → Bool} {x y : α × Nat} : ltT lt x y = false ↔ lt x.1 y.1 = false ∧ (lt y.1 x.1 = true ∨ y.2 ≤ x.2) := by
  simp only [ltT, Bool.or_eq_false_iff, Bool.and_eq_false_iff, Bool.not_eq_false', decide_eq_false_iff_not, Nat.not_lt]
theorem ntrans_t {lt : α → α → Bool} (hO : SWO lt) {x y z : α} (h1 : lt x y = true) (h2 : lt z y = false) : lt x z = true := by
  cases h : lt x z with
  | true => rfl
  | false => rw [hO.ntrans _ _ _ h h2] at h1; cases h1
theorem ntrans_t' {lt : α → α → Bool} (hO : SWO lt) {x y z : α} (h1 : lt y x = false) (h2 : lt y z = true) : lt x z = true := by
  cases h : lt x z with
  | true => rfl
  | false => rw [hO.ntrans _ _ _ h1 h] at h2; cases h2
theorem swo_ltT {lt : α → α → Bool} (hO : SWO lt) : SWO (ltT lt) := by
  refine ⟨fun x => ltT_false.2 ⟨hO.irrefl _, Or.inr (Nat.le_refl _)⟩, fun x y z h1 h2 => ?_, fun x y z h1 h2 => ?_⟩
  · rw [ltT_true] at h1 h2 ⊢
    rcases h1 with h1 | ⟨h1, t1⟩ <;> rcases h2 with h2 | ⟨h2, t2⟩
    · exact Or.inl (hO.trans _ _ _ h1 h2)
    · exact Or.inl (ntrans_t hO h1 h2)
    · exact Or.inl (ntrans_t' hO h1 h2)
    · exact Or.inr ⟨hO.ntrans _ _ _ h2 h1, by omega⟩
  · rw [ltT_false] at h1 h2 ⊢
    obtain ⟨h1, g1⟩ := h1
    obtain ⟨h2, g2⟩ := h2
    refine ⟨hO.ntrans _ _ _ h1 h2, ?_⟩
    rcases g1 with g1 | g1
    · exact Or.inl (ntrans_t' hO h2 g1)
    · rcases g2 with g2 | g2
      · exact Or.inl (ntrans_t hO g2 h1)
      · exact Or.inr (by omega)
theorem ltT_le {lt : α → α → Bool} (hO : SWO lt) : (fun x y => !ltT lt y x) = List.zipIdxLE (fun x y => !lt y x) := by
  funext x y
  simp only [List.zipIdxLE, ltT]
  by_cases h1 : lt y.1 x.1 = true <;> by_cases h2 : lt x.1 y.1 = true <;> simp [h1, h2]
  rw [Bool.eq_iff_iff]; simp
def tagged (d : Array α) : Array (α × Nat) := d.toList.zipIdx.toArray
theorem tagged_size (d : Array α) : (tagged d).size = d.size := by simp [tagged]
theorem tagged_get (d : Array α) {i : Nat} (h : i < d.size) : (tagged d)[i]! = (d[i]!, i) := by
  rw [getElem!_pos (tagged d) i (by rw [tagged_size]; exact h), getElem!_pos d i h]
  simp [tagged]
theorem tagged_agree (lt : α → α → Bool) (d : Array α) : ∀ p q, p < q → q < (tagged d).size → (fun x y : α × Nat => lt x.1 y.1) (tagged d)[q]! (tagged d)[p]! = ltT lt (tagged d)[q]! (tagged d)[p]! := by
  intro p q h1 h2
  rw [tagged_size] at h2
  rw [tagged_get d h2, tagged_get d (show p < d.size by omega)]
  simp only [ltT]
  rw [decide_eq_false (by omega)]; simp
theorem fsts_get (d : Array (α × Nat)) (i : Nat) : (d.map (·.1))[i]! = d[i]!.1 := by
  by_cases h : i < d.size
  · rw [getElem!_pos (d.map (·.1)) i (by simpa using h), getElem!_pos d i h]; simp
  · rw [getElem!_neg (d.map (·.1)) i (by simpa using h), getElem!_neg d i h]; rfl
theorem fsts_tagged (d : Array α) : (tagged d).map (·.1) = d := by
  simp [tagged]
theorem flatK_fst (d : Array (α × Nat)) : flatK (fun x => enc x.1) k d = flatK enc k (d.map (·.1)) := by
  unfold flatK
  rw [Array.size_map]
  congr 1
  funext t
  rw [fsts_get]
theorem sorted_tags (lt : α → α → Bool) (hO : SWO lt) (d : Array α) (d' : Array (α × Nat)) (hp : PermIn 0 (tagged d).size (tagged d) d') (hs : SortedIn (ltT lt) 0 (tagged d).size d') : d'.map (·.1) = stS lt d := by
  have hperm : d'.toList.Perm (tagged d).toList := by
    obtain ⟨hsz, _, hperm⟩ := hp
    have e1 : d'.extract 0 (tagged d).size = d' := by rw [← hsz]; exact Array.extract_size
    rw [e1, Array.extract_size] at hperm
    exact hperm
  have hT := swo_ltT hO
  have e : d'.toList = (d.toList.zipIdx).mergeSort (List.zipIdxLE (fun x y => !lt y x)) := by
    rw [← ltT_le hO]
    refine List.Perm.eq_of_pairwise (le := fun x y => (!ltT lt y x) = true) ?_ ?_ ?_ (hperm.trans (by simpa [tagged] using (List.mergeSort_perm d.toList.zipIdx _).symm))
    · rintro ⟨a, i⟩ ⟨b, j⟩ ha hb h1 h2
      have ha' : (a, i) ∈ d.toList.zipIdx := by have := hperm.subset ha; simpa [tagged] using this
      have hb' : (b, j) ∈ d.toList.zipIdx := List.mem_mergeSort.1 hb
      simp only [Bool.not_eq_true'] at h1 h2
      rw [ltT_false] at h1 h2
      simp only at h1 h2
      have hij : i = j := by
        obtain ⟨k1, k2⟩ := h1
        obtain ⟨k3, k4⟩ := h2
        rw [k3] at k2
        rw [k1] at k4
        simp at k2 k4
        omega
      subst hij
      have m1 := List.mem_zipIdx ha'
      have m2 := List.mem_zipIdx hb'
      simp_all
    · rw [List.pairwise_iff_getElem]
      intro i j hi hj hij
      have hi' : i < d'.size := by simpa using hi
      have hj' : j < d'.size := by simpa using hj
      have := hs i j (Nat.zero_le _) hij (by rw [← hp.1]; exact hj')
      rw [getElem!_pos d' j hj', getElem!_pos d' i hi'] at this
      simpa using this
    · refine List.pairwise_mergeSort ?_ ?_ _
      · intro a b c h1 h2
        simp only [Bool.not_eq_true'] at h1 h2 ⊢
        exact hT.ntrans _ _ _ h2 h1
      · intro a b
        cases h : ltT lt b a with
        | false => rfl
        | true => simp [hT.asymmA h]
  unfold stS
  rw [← List.mergeSort_zipIdx, ← e]
  exact (Array.toList_inj).1 (by simp)
/-- stable_func: it puts the row into the stable order. -/
theorem stable_tags (hk : ∀ x, (enc x).length = k) (lt : α → α → Bool) (hO : SWO lt) (g : Nat) (lb : Array Value) (sf : Nat) (sb : Array Value) (hg : Callable Try.prog g) (w0 : World) (d : Array α) (hless : LessAt g lb enc k lt blk off d.size w0) (hswap : SwapAt sf sb enc k blk off d.size) (hH : HoldsK enc k w0 blk off d) (hb : blk < w0.heap.size)
    (hsz : d.size < 1152921504606846976) :
    Calls Try.prog 74 #[.agg #[.func (.func g) #[] lb, .func (.func sf) #[] sb], .int .i64 d.size] w0 fun e w' =>
      e = .returned (.tuple #[]) ∧ Fam enc k blk off w0 (stS lt d) w' := by
  have fam : ∀ dk W, Fam (fun x : α × Nat => enc x.1) k blk off w0 dk W → Fam enc k blk off w0 (dk.map (·.1)) W := by
    rintro dk W ⟨q, os, rfl⟩
    exact ⟨q, os, by unfold putRowK; rw [flatK_fst]⟩
  have hold : ∀ dk W, HoldsK (fun x : α × Nat => enc x.1) k W blk off dk → HoldsK enc k W blk off (dk.map (·.1)) := by
    intro dk W h
    unfold HoldsK at h ⊢
    rw [← flatK_fst]; exact h
  have h := stable_walk (enc := fun x : α × Nat => enc x.1) (fun x => hk x.1) (fun x y => lt x.1 y.1) (ltT lt) (swo_ltT hO) g lb sf sb hg w0 (tagged d) (blk := blk) (off := off)
    (fun W dk hF hs i j hi hj => by
      rw [tagged_size] at hs hi hj
      have := hless W _ (fam dk W hF) (by simpa using hs) i j hi hj
      rw [fsts_get, fsts_get] at this
      exact this)
    (fun W dk hF hs i j hi hj hij => by
      rw [tagged_size] at hs hi hj
      have := hswap W _ (hold dk W hF) (by simpa using hs) i j hi hj hij
      rw [fsts_get, fsts_get] at this
      exact this)
    (by unfold HoldsK at hH ⊢; rw [flatK_fst, fsts_tagged]; exact hH) hb (by rw [tagged_size]; exact hsz) (tagged_agree lt d)
  rw [tagged_size] at h
  refine h.mono ?_
  rintro e w' ⟨rfl, d', f1, f2, f3, f4⟩
  refine ⟨rfl, ?_⟩
  rw [← sorted_tags lt hO d d' (by rw [tagged_size]; exact f3) (by rw [tagged_size]; exact f4)]
  exact fam d' w' f1
end
end Go.Proofs.Ytjngmlkaijpbgaa
