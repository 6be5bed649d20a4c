/- Ye: sort.SliceStable, walked. Conditions: what is asked of 'less'; the order; the types. -/
import Derived.Test.YtjngmlkaijpbgaaWa
import Derived.Test.YtjngmlkaijpbgaaES
import Derived.Test.YtjngmlkaijpbgaaET1
import Derived.Test.YtjngmlkaijpbgaaYa
import Derived.Test.YtjngmlkaijpbgaaYb
import Derived.Test.YtjngmlkaijpbgaaYc
import Derived.Test.YtjngmlkaijpbgaaYd
import Derived.WalkKit
import Derived.Shelf.SlSortFuncK.SWK
import Derived.Lib.ReflectliteSlice
import Derived.Lib.ReflectliteSwap
import Derived.Laws.Externs
import Derived.Test.YtjngmlkaijpbgaaET2
set_option linter.unusedVariables false
set_option linter.unusedSimpArgs false
namespace Go.Proofs.Ytjngmlkaijpbgaa
open Go.E
set_option maxRecDepth 100000
set_option maxHeartbeats 4000000
set_option linter.unusedSectionVars false
open Go Go.Sort Go.RowKit Go.Lib Go.Shelf Go.Proofs
section
variable {α : Type} [Inhabited α] {enc : α → List Value} {k blk off : Nat}
noncomputable def boundS (e : TypeId) (ie : TypeInfo) (ke : Nat) (p : Option Addr) (n c : Nat) : Array Value :=
  if swapperK n ie ke ≤ 2 then #[] else #[.slice p n c, typeHandle Try.prog e]
noncomputable def worldS (t : TypeId) (p : Option Addr) (n c : Nat) (w : World) : World :=
  (w.alloc (.cells #[.slice p n c] t)).alloc (.cells #[.pointer (some ⟨Try.prog.globals.size, t, none⟩), .pointer (some ⟨w.heap.size, 0, none⟩), .int .u64 151] 90)
set_option maxHeartbeats 4000000 in
theorem sliceStable_of (t e : TypeId) (i ie : TypeInfo) (hi : Try.prog.info? t = some i) (hd : i.desc = .slice e) (hpk : Try.prog.packed t = false) (hie : Try.prog.info? e = some ie) (ke : Nat) (hke : ∀ w, (Extern.Rtype.kind e).run Try.prog w = .ok ke w)
    (p : Option Addr) (n c : Nat) (hn : n < 1152921504606846976) (f : Nat) (hf : Try.prog.funcs.findIdx? (·.name == "internal/reflectlite" ++ ".Swapper$" ++ toString (swapperK n ie ke)) = some f) (lf : Fn) (la lb : Array Value) (w : World) (R : World → Prop)
    (hp : Calls Try.prog 74 #[.agg #[.func lf la lb, .func (.func f) #[] (boundS e ie ke p n c)], .int .i64 n] (worldS t p n c w) fun e w' => e = .returned (.tuple #[]) ∧ R w') :
    Calls Try.prog 55 #[.iface t (.slice p n c), .func lf la lb] w fun e w' => e = .returned (.tuple #[]) ∧ R w' := by
  have hv := run_valueOf_slice (P := Try.prog) t e i hi hd p n c w
  have hs := fun w => run_swapper_slice (P := Try.prog) t e i ie hi hd hie ke hke p n c f hf w
  have hl := fun a w ha => run_valueLen_slice (P := Try.prog) t e i hi hd hpk a p n c w ha
  unfold boundS worldS at hp
  generalize (if swapperK n ie ke ≤ 2 then (#[] : Array Value) else #[.slice p n c, typeHandle Try.prog e]) = B at hs hp
  have hz : Try.prog.globals.size = 0 := by kernel_rfl
  simp only [typeHandle, hz] at hv hl hp
  have HP := Box.mk hp
  have HV := Box.mk hv
  have HS := Box.mk hs
  have HL := Box.mk hl
  clear hp hv hs hl
  go_enter Try.func55, Try.ntmps55
  go_wp2
  rw [run_callFunc_extern Try.func72 (by kernel_rfl) (by kernel_rfl) (by kernel_rfl) (e := fun args => Extern.ReflectliteValue.unpack (args.getD 0 (.tuple #[]))) (by kernel_rfl),
    show Sem.run Try.prog ((fun args : Array Value => Extern.ReflectliteValue.unpack (args.getD 0 (.tuple #[]))) #[.iface t (.slice p n c)]) w = _ from HV.out]
  simp only [Result.andThen]
  rw [Oper.upon_value]
  go_wp2
  rw [run_callFunc_extern Try.func73 (by kernel_rfl) (by kernel_rfl) (by kernel_rfl) (e := Extern.ReflectliteSwapper.swapper "internal/reflectlite" (Extern.ReflectliteValue.valueError "Swapper")) (by kernel_rfl), HS.out]
  simp only [Result.andThen]
  rw [Oper.upon_value]
  go_wp2
  rw [run_callFunc_extern Try.func75 (by kernel_rfl) (by kernel_rfl) (by kernel_rfl) (e := Extern.ReflectliteValue.method (Extern.ReflectliteValue.valueError "reflectlite.Value.Len" 0) Extern.ReflectliteValue.len) (by kernel_rfl),
    HL.out _ _ (by simp)]
  simp only [Result.andThen]
  rw [Oper.upon_value]
  go_wp2_with (go_at_call 74; refine HP.out.mono ?_; rintro e w' ⟨rfl, hR⟩; have HR := Box.mk hR; clear hR)
  go_end0
  exact ⟨rfl, HR.out⟩
theorem swapAt_literal (gS : Bool) (sf : Nat) (hx : ∀ args W, (callFunc sf args).run Try.prog W = ((Extern.ReflectliteSwapper.swap gS args).run Try.prog W).andThen fun v w' => .ok (.value v) w')
    (e : TypeId) (ie : TypeInfo) (hie : Try.prog.info? e = some ie) (hk : ∀ x, (enc x).length = k) (hs : ie.size = k) (hagg : ∀ w, (isAgg e).run Try.prog w = .ok true w) (h1 : ∀ x, ∀ v ∈ enc x, v.oneCell' = true) (n c : Nat) :
    SwapAt sf #[.slice (some ⟨blk, off, none⟩) n c, typeHandle Try.prog e] enc k blk off n := by
  intro W dk hH hsz i j hi hj _
  subst hs
  have cc : ∀ x, x < dk.size → ∀ u v, (enc dk[x]!)[u]? = some v → W.cell? ⟨blk, off + x * ie.size + u, none⟩ = some v := fun x hx u v h => by
    have hu : u < ie.size := by rw [← hk dk[x]!]; exact (List.getElem?_eq_some_iff.mp h).1
    rw [(hH.cell hx hu).1]; simp [h]
  have := run_swap_cells (P := Try.prog) gS e ie hie hagg blk off n c i j hi hj (enc dk[i]!) (enc dk[j]!) (hk _) (hk _) (h1 _) (h1 _) W (cc i (by omega)) (cc j (by omega))
    (fun u hu => (hH.cell (by omega) hu).2) (fun u hu => (hH.cell (by omega) hu).2)
  rw [hx, show (#[Value.int .i64 (i : Int), Value.int .i64 (j : Int)] ++ #[Value.slice (some ⟨blk, off, none⟩) n c, typeHandle Try.prog e]) = #[.int .i64 i, .int .i64 j, .slice (some ⟨blk, off, none⟩) n c, typeHandle Try.prog e] from rfl, this]
  rfl
end
open Go.E
set_option maxRecDepth 100000
set_option maxHeartbeats 4000000
set_option linter.unusedSectionVars false
open Go Go.Sort Go.RowKit Go.Lib Go.Shelf Go.Proofs
section
variable {α : Type} [Inhabited α] {enc : α → List Value} {k blk off : Nat}
theorem swK_gt (n : Nat) (ie : TypeInfo) (ke : Nat) (h2 : 2 ≤ n) : ¬ swapperK n ie ke ≤ 2 := by
  have c : (n == 0) = false := by simp; omega
  have d : (n == 1) = false := by simp; omega
  unfold swapperK
  simp only [c, d, Bool.false_eq_true, if_false]
  repeat' split
  all_goals omega
/-- What is asked of the types and of the program, for a slice of type t with elements of type e in k cells. -/
structure SortTy (t e k : Nat) (fN : Nat → Nat) : Prop where
  ex : ∃ i ie ke gS, Try.prog.info? t = some i ∧ i.desc = .slice e ∧ Try.prog.packed t = false ∧ Try.prog.info? e = some ie ∧ (∀ w, (Extern.Rtype.kind e).run Try.prog w = .ok ke w) ∧
    (∀ n, Try.prog.funcs.findIdx? (·.name == "internal/reflectlite" ++ ".Swapper$" ++ toString (swapperK n ie ke)) = some (fN n)) ∧ ie.size = k ∧ (∀ w, (isAgg e).run Try.prog w = .ok true w) ∧
    (∀ n, 2 ≤ n → ∀ args W, (callFunc (fN n) args).run Try.prog W = ((Extern.ReflectliteSwapper.swap gS args).run Try.prog W).andThen fun v w' => .ok (.value v) w')
theorem sliceStable_walk {t e : Nat} {fN : Nat → Nat} (hT : SortTy t e k fN) (hk : ∀ x, (enc x).length = k) (h1 : ∀ x, ∀ v ∈ enc x, v.oneCell' = true) (lt : α → α → Bool) (hO : SWO lt) (g : Nat) (lb : Array Value) (hg : Callable Try.prog g) (c : Nat) (d : Array α)
    (hsz : d.size < 1152921504606846976) (w : World) (hless : LessAt g lb enc k lt blk off d.size w) (hH : HoldsK enc k w blk off d) (hb : blk < w.heap.size) :
    Calls Try.prog 55 #[.iface t (.slice (some ⟨blk, off, none⟩) d.size c), .func (.func g) #[] lb] w fun e w' => e = .returned (.tuple #[]) ∧ Fam enc k blk off w (stS lt d) w' := by
  obtain ⟨i, ie, ke, gS, a1, a2, a3, a4, a5, a6, a7, a8, a9⟩ := hT.ex
  refine sliceStable_of t e i ie a1 a2 a3 a4 ke a5 _ d.size c hsz (fN d.size) (a6 _) (.func g) #[] lb w _ ?_
  have F0 : Fam enc k blk off w d (worldS t (some ⟨blk, off, none⟩) d.size c w) := ((Fam.start hH).alloc _).alloc _
  have hb0 : blk < (worldS t (some ⟨blk, off, none⟩) d.size c w).heap.size := Nat.lt_of_lt_of_le hb F0.size
  refine (stable_tags hk lt hO g lb (fN d.size) _ hg _ d (hless.on hb F0 rfl) ?_ (F0.holds hb hH rfl) hb0 hsz).mono ?_
  · by_cases h2 : 2 ≤ d.size
    · unfold boundS
      rw [if_neg (swK_gt _ _ _ h2)]
      exact swapAt_literal gS (fN d.size) (a9 _ h2) e ie a4 hk a7 a8 h1 d.size c
    · intro W dk _ _ i j hi hj hij
      omega
  · rintro e' w' ⟨rfl, hF⟩
    exact ⟨rfl, F0.trans hb hF (stS_size lt d)⟩
theorem sliceStable_nil {t e : Nat} {fN : Nat → Nat} (hT : SortTy t e k fN) (lt : α → α → Bool) (hO : SWO lt) (hk : ∀ x, (enc x).length = k) (g : Nat) (lb : Array Value) (hg : Callable Try.prog g) (w : World) :
    Calls Try.prog 55 #[.iface t (.slice none 0 0), .func (.func g) #[] lb] w fun e w' => e = .returned (.tuple #[]) ∧ Below w.heap.size w w' := by
  obtain ⟨i, ie, ke, gS, a1, a2, a3, a4, a5, a6, a7, a8, a9⟩ := hT.ex
  refine sliceStable_of t e i ie a1 a2 a3 a4 ke a5 none 0 0 (by omega) (fN 0) (a6 _) (.func g) #[] lb w _ ?_
  have hsize : (worldS t none 0 0 w).heap.size = w.heap.size + 2 := by simp [worldS]
  have hB0 : Below w.heap.size w (worldS t none 0 0 w) := by
    unfold worldS
    exact ((Below.refl _ w).alloc (Nat.le_refl _) _).alloc (by simp) _
  refine (stable_tags (blk := w.heap.size) (off := 0) (enc := enc) hk lt hO g lb (fN 0) _ hg (worldS t none 0 0 w) (#[] : Array α) (fun W dk _ _ i j hi hj => by simp at hi) (fun W dk _ _ i j hi hj => by simp at hi) (fun j hj => by simp at hj) (by rw [hsize]; omega) (by simp)).mono ?_
  rintro e' w' ⟨rfl, hF⟩
  have f := hF.facts
  refine ⟨rfl, hB0.trans ⟨f.1, f.2.1, f.2.2.1, hF.size, fun j hj => f.2.2.2 j (by rw [hsize]; omega) (by omega)⟩⟩
end
end Go.Proofs.Ytjngmlkaijpbgaa
