/- Wr: vector's Sort: what its types are to the library's sort; its order; 'less'. Conditions: none. -/
import Derived.Test.YtoeifjooljkpaaaWa
import Derived.Test.YtoeifjooljkpaaaBa
import Derived.Test.YtoeifjooljkpaaaWb
import Derived.Test.YtoeifjooljkpaaaWp
import Derived.Test.YtoeifjooljkpaaaWc
import Derived.Test.YtoeifjooljkpaaaWe
import Derived.Test.YtoeifjooljkpaaaWf
import Derived.Test.YtoeifjooljkpaaaWj
import Derived.Test.YtoeifjooljkpaaaWg
import Derived.Test.YtoeifjooljkpaaaWm
import Derived.Test.YtoeifjooljkpaaaWq
import Derived.Test.YtoeifjooljkpaaaES
import Derived.Test.YtoeifjooljkpaaaET1
import Derived.Test.YtoeifjooljkpaaaET2
import Derived.Test.YtoeifjooljkpaaaYa
import Derived.Test.YtoeifjooljkpaaaYb
import Derived.Test.YtoeifjooljkpaaaYc
import Derived.Test.YtoeifjooljkpaaaYd
import Derived.Test.YtoeifjooljkpaaaYe
import Derived.Test.YtoeifjooljkpaaaYg
import Derived.WalkKit
set_option linter.unusedVariables false
set_option linter.unusedSimpArgs false
namespace Go.Proofs.Ytoeifjooljkpaaa
open Go.E
set_option maxRecDepth 100000
set_option maxHeartbeats 4000000
open Go Go.Sort Go.RowKit Go.Lib Go.Shelf Go.Proofs
noncomputable def tiRow : TypeInfo := (Try.prog.info? 70).get!
noncomputable def tiFull : TypeInfo := (Try.prog.info? 62).get!
def swN (n : Nat) : Nat := if n = 0 then 67 else if n = 1 then 68 else 75
theorem swK (n : Nat) (h2 : 2 ≤ n) : swapperK n tiFull 17 = 9 := by
  have a : tiFull.hasPointers = false := by kernel_rfl
  have b : tiFull.bytes = 128 := by kernel_rfl
  have c : (n == 0) = false := by simp; omega
  have d : (n == 1) = false := by simp; omega
  simp [swapperK, a, b, c, d]
theorem sortTy : SortTy 70 62 16 swN := by
  refine ⟨tiRow, tiFull, 17, false, by kernel_rfl, by kernel_rfl, by kernel_rfl, by kernel_rfl, fun _ => by kernel_rfl, fun n => ?_, by kernel_rfl, fun _ => by kernel_rfl, fun n h2 => ?_⟩
  · match n with
    | 0 => show _ = some 67; kernel_rfl
    | 1 => show _ = some 68; kernel_rfl
    | n + 2 =>
      rw [swK _ (by omega)]
      simp only [swN]
      rw [if_neg (by omega), if_neg (by omega)]
      show _ = some 75
      kernel_rfl
  · have e : swN n = 75 := by simp only [swN]; rw [if_neg (by omega), if_neg (by omega)]
    rw [e]
    exact fun args W => run_callFunc_extern Try.func75 (by kernel_rfl) (by kernel_rfl) (by kernel_rfl) (e := Extern.ReflectliteSwapper.swap false) (by kernel_rfl) args W
def ltV (a b : Vector Int 16) : Bool := decide (cmpV a b < 0)
theorem swo_ltV : SWO ltV := by
  refine ⟨fun x => ?_, fun x y z h1 h2 => ?_, fun x y z h1 h2 => ?_⟩
  · simp only [ltV, decide_eq_false_iff_not, Int.not_lt]
    have := (cmpV_zero x x).2 rfl
    omega
  · simp only [ltV, decide_eq_true_eq] at *
    have a1 := cmpV_trans x y z (by omega) (by omega)
    have a2 := cmpV_neg x y
    have a3 := cmpV_neg x z
    have a4 := cmpV_neg y z
    by_cases h : cmpV x z < 0
    · exact h
    · have a5 := (cmpV_zero x z).1 (by omega)
      subst a5
      omega
  · simp only [ltV, decide_eq_false_iff_not, Int.not_lt] at *
    have a2 := cmpV_neg x y
    have a3 := cmpV_neg x z
    have a4 := cmpV_neg y z
    have a1 := cmpV_trans z y x (by omega) (by omega)
    omega
theorem walk59 (d : List (Vector Int (16 : Nat))) (i : Int) (j : Int) (hd : ∀ (v : Vector Int (16 : Nat)), v ∈ d → inRange v) (hi0 : (0 : Int) ≤ i) (hj0 : (0 : Int) ≤ j) (hi : i < (↑d.length : Int)) (hj : j < (↑d.length : Int))
    (g0 : (c62 d[i.toNat]!).length = (16 : Nat))
    (g1 : (16 : Nat) ≤ (c62 d[i.toNat]!).length)
    (g2 : (c62 d[j.toNat]!).length = (16 : Nat))
    (g3 : (16 : Nat) ≤ (c62 d[j.toNat]!).length)
    (g4 : inRange d[i.toNat]!)
    (g5 : inRange d[j.toNat]!)
    (g6 : AV.b (decide (cmpV d[i.toNat]! d[j.toNat]! < (0 : Int))) = AV.b (ltV d[i.toNat]! d[j.toNat]!)) :
    Con Try.prog (59 : FuncId) [AV.i IntKind.i64 i, AV.i IntKind.i64 j, AV.eptr [AV.sl (List.map c62 d)]] (AV.b (ltV d[i.toNat]! d[j.toNat]!)) := by
  refine st_con tab_ok (by kernel_rfl) [.tmp 5] 16 Go.Proofs.Try.func59 (by kernel_rfl) (by kernel_rfl) ?_
  intro e0 cx
  refine st_seq (by kernel_rfl) ?_
  refine st_reg (A := True) (σ' := ⟨[(0, .i .i64 (i)), (1, .i .i64 (j)), (2, .eptr [.sl (List.map c62 d)])], []⟩) cx [] [0, 1, 2] [] (by kernel_rfl) (by kernel_rfl) trivial ?_
  refine q_seq_normal ?_
  refine st_seq (by kernel_rfl) ?_
  refine st_any (A := ((0 : Int) ≤ i) ∧ ((List.map c62 d)[i.toNat]? = some (c62 d[i.toNat]!)) ∧ ((c62 d[i.toNat]!).length = (16 : Nat)) ∧ (AV.agg (List.take (16 : Nat) (c62 d[i.toNat]!)) = AV.agg (c62 d[i.toNat]!)) ∧ ((16 : Nat) ≤ (c62 d[i.toNat]!).length) ∧ ((0 : Int) ≤ j) ∧ ((List.map c62 d)[j.toNat]? = some (c62 d[j.toNat]!)) ∧ ((c62 d[j.toNat]!).length = (16 : Nat)) ∧ (AV.agg (List.take (16 : Nat) (c62 d[j.toNat]!)) = AV.agg (c62 d[j.toNat]!)) ∧ ((16 : Nat) ≤ (c62 d[j.toNat]!).length) ∧ (Con Try.prog (57 : FuncId) [AV.agg (c62 d[i.toNat]!), AV.agg (c62 d[j.toNat]!)] (AV.i IntKind.i64 (cmpV d[i.toNat]! d[j.toNat]!))) ∧ (AV.b (decide (cmpV d[i.toNat]! d[j.toNat]! < (0 : Int))) = AV.b (decide (cmpV d[i.toNat]! d[j.toNat]! < (0 : Int))))) (σ' := ⟨[(5, .b (decide (cmpV d[i.toNat]! d[j.toNat]! < (0 : Int))))], []⟩) cx [(2, { row := (c62 d[i.toNat]!) }), (3, { tell := some (.agg (c62 d[i.toNat]!)) }), (6, { row := (c62 d[j.toNat]!) }), (7, { tell := some (.agg (c62 d[j.toNat]!)) }), (8, { val := some (.i .i64 (cmpV d[i.toNat]! d[j.toNat]!)) }), (9, { tell := some (.b (decide (cmpV d[i.toNat]! d[j.toNat]! < (0 : Int)))) })] [5] [] (by kernel_rfl) (by kernel_rfl) ⟨(by (with_reducible assumption)), (by (with_reducible refine get_map ?_; omega)), g0, (told_take (AV.i IntKind.i64) d[i.toNat]!), g1, (by (with_reducible assumption)), (by (with_reducible refine get_map ?_; omega)), g2, (told_take (AV.i IntKind.i64) d[j.toNat]!), g3, (con57 (d[i.toNat]!) (d[j.toNat]!) g4 g5), (by kernel_rfl)⟩ ?_
  refine q_seq_normal ?_
  refine st_ret (by kernel_rfl) ?_
  exact q_ret (r := .b (decide (cmpV d[i.toNat]! d[j.toNat]! < (0 : Int)))) (obl := []) (by kernel_rfl) trivial (AVle.eq g6)
theorem con59 (d : List (Vector Int 16)) (i j : Int) (hd : ∀ v ∈ d, inRange v) (hi0 : 0 ≤ i) (hj0 : 0 ≤ j) (hi : i < d.length) (hj : j < d.length) : Con Try.prog 59 [.i .i64 i, .i .i64 j, .eptr [.sl (d.map c62)]] (.b (ltV d[i.toNat]! d[j.toNat]!)) :=
  walk59 d i j hd hi0 hj0 hi hj (len_cA _ _) (Nat.le_of_eq (len_cA _ _).symm) (len_cA _ _) (Nat.le_of_eq (len_cA _ _).symm)
    (by rw [getElem!_pos d i.toNat (by omega)]; exact hd _ (List.getElem_mem (by omega))) (by rw [getElem!_pos d j.toNat (by omega)]; exact hd _ (List.getElem_mem (by omega))) rfl
abbrev FV := { v : Vector Int 16 // inRange v }
theorem inRange_zero : inRange (Vector.replicate 16 0) := fun j hj => by
  have e : (Vector.replicate 16 (0 : Int))[j]! = 0 := by rw [getElem!_pos _ j hj]; simp
  rw [e]; omega
instance : Inhabited FV := ⟨⟨Vector.replicate 16 0, inRange_zero⟩⟩
theorem fv_get (d : List FV) {i : Nat} (h : i < d.length) : (d.map (·.1))[i]! = d[i]!.1 := by
  rw [getElem!_pos (d.map (·.1)) i (by simpa using h), getElem!_pos d i h]; simp
theorem ioFV (d : List FV) (hlen : d.length < 1152921504606846976) : IOCon Try.prog 58 59 70 true 62 16 (d.map fun x => c62 x.1) ((d.mergeSort (fun x y => !ltV y.1 x.1)).map fun x => c62 x.1) := by
  have hO : SWO (fun x y : FV => ltV x.1 y.1) := ⟨fun x => swo_ltV.irrefl _, fun x y z => swo_ltV.trans _ _ _, fun x y z => swo_ltV.ntrans _ _ _⟩
  exact ioStable (α := FV) (encA := fun x => c62 x.1) (k := 16) sortTy (fun x => len_cA _ _)
    (fun x a ha => by
      obtain ⟨n, _, rfl⟩ := List.mem_map.1 (show a ∈ x.1.toList.map (AV.i .i64) from ha)
      rfl)
    (fun x y => ltV x.1 y.1) hO 59 ⟨_, Try.func59, by kernel_rfl, by kernel_rfl⟩ ⟨_, Try.func58, by kernel_rfl, by kernel_rfl⟩
    (fun d i j hi hj => by
      have := con59 (d.map (·.1)) (i : Int) (j : Int) (fun v hv => by obtain ⟨x, _, rfl⟩ := List.mem_map.1 hv; exact x.2) (by omega) (by omega) (by simpa using hi) (by simpa using hj)
      rw [List.map_map, Int.toNat_natCast, Int.toNat_natCast, fv_get d hi, fv_get d hj] at this
      exact this) d hlen
theorem io58 (d : List (Vector Int 16)) (hd : ∀ v ∈ d, inRange v) (hlen : d.length < 1152921504606846976) :
    IOConG Try.prog 58 59 (some 70) true 62 16 (d.map c62) ((d.mergeSort (fun x y => !ltV y x)).map c62) := by
  refine IOCon.toG (fun r hr => by obtain ⟨x, _, rfl⟩ := List.mem_map.1 hr; exact len_cA _ _) ?_
  have h := ioFV (d.attach.map fun x => ⟨x.1, hd x.1 x.2⟩) (by rw [List.length_map, List.length_attach]; exact hlen)
  have e1 : (d.attach.map fun x => (⟨x.1, hd x.1 x.2⟩ : FV)).map (fun x : FV => x.1) = d := by rw [List.map_map]; exact List.attach_map_subtype_val d
  generalize (d.attach.map fun x => (⟨x.1, hd x.1 x.2⟩ : FV)) = d' at h e1
  have e2 : d'.map (fun x => c62 x.1) = d.map c62 := by
    rw [← e1, List.map_map]; rfl
  have e3 : (d'.mergeSort (fun x y => !ltV y.1 x.1)).map (fun x => c62 x.1) = (d.mergeSort (fun x y => !ltV y x)).map c62 := by
    have := List.map_mergeSort (r := fun x y : FV => !ltV y.1 x.1) (s := fun x y => !ltV y x) (f := fun x : FV => x.1) (l := d') (fun a _ b _ => rfl)
    rw [e1] at this
    rw [← this, List.map_map]
    rfl
  rw [e2, e3] at h
  exact h
end Go.Proofs.Ytoeifjooljkpaaa
