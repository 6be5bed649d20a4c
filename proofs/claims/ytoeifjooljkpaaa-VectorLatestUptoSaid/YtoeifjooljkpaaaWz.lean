/- Wz: the document's Heads. Conditions: sizes. -/
import Derived.Test.YtoeifjooljkpaaaWv
set_option linter.unusedVariables false
set_option linter.unusedSimpArgs false
namespace Go.Proofs.Ytoeifjooljkpaaa
open Go.E
set_option maxRecDepth 100000
set_option maxHeartbeats 4000000
def inv44 (vs : List (List Int)) (i : Int) (out : List (List Int)) : Prop := 0 ≤ i ∧ i ≤ vs.length ∧ out = (hdN (lateV vs) (srtV vs) i.toNat).map short ∧ (out.length : Int) ≤ i
def dec44 (vs : List (List Int)) (i : Int) (out : List (List Int)) : Nat := (vs.length - i).toNat
def inv44j (vs : List (List Int)) (i : Int) (o : List (List Int)) (late : Bool) (j : Int) (out : List (List Int)) : Prop := out = o ∧ 0 ≤ j ∧ j ≤ vs.length ∧ (late = true ↔ ∀ k : Nat, (k : Int) < j → ¬ ordV (srtV vs)[i.toNat]! (srtV vs)[k]! = 1)
def dec44j (vs : List (List Int)) (late : Bool) (j : Int) (out : List (List Int)) : Nat := (vs.length - j).toNat
theorem len_srt (vs : List (List Int)) : ((srtV vs).map short).length = vs.length := by simp [srtV]
theorem srt_bang {vs : List (List Int)} {n : Nat} (h : n < vs.length) : ((srtV vs).map short)[n]! = short (srtV vs)[n]! := by
  have h1 : n < (srtV vs).length := by rw [srtV_length]; exact h
  rw [getElem!_pos ((srtV vs).map short) n (by simpa using h1), getElem!_pos (srtV vs) n h1, List.getElem_map]
theorem srt_of {vs : List (List Int)} {n : Nat} (h : n < vs.length) : of ((srtV vs).map short)[n]! = (srtV vs)[n]! := by
  rw [srt_bang h, of_short (srtV_range (bang_mem (by rw [srtV_length]; exact h)))]
theorem late_all (vs : List (List Int)) (a : Vector Int 16) : lateV vs a = true ↔ ∀ k : Nat, (k : Int) < vs.length → ¬ ordV a (srtV vs)[k]! = 1 := by
  rw [lateV_iff]
  constructor
  · intro h k hk
    have hm : (srtV vs)[k]! ∈ srtV vs := bang_mem (by rw [srtV_length]; omega)
    obtain ⟨v, hv, e⟩ := srtV_mem.1 hm
    rw [← e]
    exact h v hv
  · intro h v hv
    have hm : of v ∈ srtV vs := srtV_mem.2 ⟨v, hv, rfl⟩
    obtain ⟨k, hk, e⟩ := List.mem_iff_getElem.1 hm
    have hl := srtV_length vs
    have := h k (by omega)
    rwa [getElem!_pos (srtV vs) k hk, e] at this
theorem late_step {vs : List (List Int)} {a : Vector Int 16} {late : Bool} {j : Int} (h0 : 0 ≤ j) (h : late = true ↔ ∀ k : Nat, (k : Int) < j → ¬ ordV a (srtV vs)[k]! = 1) (hn : ¬ ordV a (srtV vs)[j.toNat]! = 1) : late = true ↔ ∀ k : Nat, (k : Int) < j + 1 → ¬ ordV a (srtV vs)[k]! = 1 := by
  rw [h]
  constructor
  · intro g k hk
    by_cases e : k = j.toNat
    · rw [e]; exact hn
    · exact g k (by omega)
  · intro g k hk
    exact g k (by omega)
theorem heads44 {vs out : List (List Int)} {i j : Int} {late : Bool} (h0 : 0 ≤ i) (h1 : i < vs.length) (h2 : out = (hdN (lateV vs) (srtV vs) i.toNat).map short) (h3 : (out.length : Int) ≤ i)
    (hl : late = true ↔ ∀ k : Nat, (k : Int) < j → ¬ ordV (srtV vs)[i.toNat]! (srtV vs)[k]! = 1) (hj0 : j ≤ vs.length) (hj : ¬ j < vs.length) :
    inv44 vs (i + 1) (if late = true ∧ ¬ (0 < i ∧ ((srtV vs).map short)[i.toNat]! = ((srtV vs).map short)[(i - 1).toNat]!) then out ++ [((srtV vs).map short)[i.toNat]!] else out) := by
  have ej : j = vs.length := by omega
  subst ej
  rw [← late_all] at hl
  have e : (i + 1).toNat = i.toNat + 1 := by omega
  have e2 : (i - 1).toNat = i.toNat - 1 := by omega
  have hs : ∀ n : Nat, n < vs.length → inRange (srtV vs)[n]! := fun n hn => srtV_range (bang_mem (by rw [srtV_length]; exact hn))
  have hc : (late = true ∧ ¬ (0 < i ∧ ((srtV vs).map short)[i.toNat]! = ((srtV vs).map short)[(i - 1).toNat]!)) ↔ (lateV vs (srtV vs)[i.toNat]! = true ∧ (i.toNat = 0 ∨ (srtV vs)[i.toNat]! ≠ (srtV vs)[i.toNat - 1]!)) := by
    rw [hl, srt_bang (by omega), srt_bang (by omega), e2, short_inj (hs _ (by omega)) (hs _ (by omega))]
    refine and_congr Iff.rfl ?_
    by_cases hz : i.toNat = 0
    · simp [hz]; omega
    · simp [hz]; omega
  refine ⟨by omega, by omega, ?_, ?_⟩
  · rw [e, hdN]
    by_cases h : (lateV vs (srtV vs)[i.toNat]! = true ∧ (i.toNat = 0 ∨ (srtV vs)[i.toNat]! ≠ (srtV vs)[i.toNat - 1]!))
    · rw [if_pos h, if_pos (hc.2 h), List.map_append, ← h2, srt_bang (by omega)]; rfl
    · rw [if_neg h, if_neg (fun k => h (hc.1 k)), h2]
  · split
    · simp; omega
    · omega
theorem walk47 (vs : List (List Int)) (hs : sz38 vs)
    (g0 : (256 : Int) < (↑vs.length : Int) → AV.i IntKind.i64 (2 : Int) = AV.i IntKind.i64 (headsV vs).snd)
    (g1 : (256 : Int) < (↑vs.length : Int) → List.map c22 (headsV vs).fst = [])
    (g2 : ¬(256 : Int) < (↑vs.length : Int) → inv44 vs (0 : Int) [])
    (g3 : ¬(256 : Int) < (↑vs.length : Int) → ∀ (i_1 : Int) (out_2 : List (List Int)), (0 : Int) ≤ i_1 → i_1 ≤ (↑vs.length : Int) → out_2 = List.map short (hdN (lateV vs) (srtV vs) i_1.toNat) → (↑out_2.length : Int) ≤ i_1 → i_1 < (↑(List.map short (srtV vs)).length : Int) → inv44j vs i_1 out_2 true (0 : Int) out_2)
    (g4 : ¬(256 : Int) < (↑vs.length : Int) → ∀ (i_1 : Int) (out_2 : List (List Int)), (0 : Int) ≤ i_1 → i_1 ≤ (↑vs.length : Int) → out_2 = List.map short (hdN (lateV vs) (srtV vs) i_1.toNat) → (↑out_2.length : Int) ≤ i_1 → i_1 < (↑(List.map short (srtV vs)).length : Int) → ∀ (late_9 : Bool) (j_10 : Int) (out_11 : List (List Int)), out_11 = out_2 → (0 : Int) ≤ j_10 → j_10 ≤ (↑vs.length : Int) → (late_9 = true ↔ ∀ (k : Nat), (↑k : Int) < j_10 → ¬ordV (srtV vs)[i_1.toNat]! (srtV vs)[k]! = (1 : Int)) → j_10 < (↑(List.map short (srtV vs)).length : Int) → ordV (of (List.map short (srtV vs))[i_1.toNat]!) (of (List.map short (srtV vs))[j_10.toNat]!) = (1 : Int) → ((↑vs.length : Int) - (j_10 + (1 : Int))).toNat < ((↑vs.length : Int) - j_10).toNat)
    (g5 : ¬(256 : Int) < (↑vs.length : Int) → ∀ (i_1 : Int) (out_2 : List (List Int)), (0 : Int) ≤ i_1 → i_1 ≤ (↑vs.length : Int) → out_2 = List.map short (hdN (lateV vs) (srtV vs) i_1.toNat) → (↑out_2.length : Int) ≤ i_1 → i_1 < (↑(List.map short (srtV vs)).length : Int) → ∀ (late_9 : Bool) (j_10 : Int) (out_11 : List (List Int)), out_11 = out_2 → (0 : Int) ≤ j_10 → j_10 ≤ (↑vs.length : Int) → (late_9 = true ↔ ∀ (k : Nat), (↑k : Int) < j_10 → ¬ordV (srtV vs)[i_1.toNat]! (srtV vs)[k]! = (1 : Int)) → j_10 < (↑(List.map short (srtV vs)).length : Int) → ordV (of (List.map short (srtV vs))[i_1.toNat]!) (of (List.map short (srtV vs))[j_10.toNat]!) = (1 : Int) → inv44j vs i_1 out_2 false (j_10 + (1 : Int)) out_11)
    (g6 : ¬(256 : Int) < (↑vs.length : Int) → ∀ (i_1 : Int) (out_2 : List (List Int)), (0 : Int) ≤ i_1 → i_1 ≤ (↑vs.length : Int) → out_2 = List.map short (hdN (lateV vs) (srtV vs) i_1.toNat) → (↑out_2.length : Int) ≤ i_1 → i_1 < (↑(List.map short (srtV vs)).length : Int) → ∀ (late_9 : Bool) (j_10 : Int) (out_11 : List (List Int)), out_11 = out_2 → (0 : Int) ≤ j_10 → j_10 ≤ (↑vs.length : Int) → (late_9 = true ↔ ∀ (k : Nat), (↑k : Int) < j_10 → ¬ordV (srtV vs)[i_1.toNat]! (srtV vs)[k]! = (1 : Int)) → j_10 < (↑(List.map short (srtV vs)).length : Int) → ¬ordV (of (List.map short (srtV vs))[i_1.toNat]!) (of (List.map short (srtV vs))[j_10.toNat]!) = (1 : Int) → ((↑vs.length : Int) - (j_10 + (1 : Int))).toNat < ((↑vs.length : Int) - j_10).toNat)
    (g7 : ¬(256 : Int) < (↑vs.length : Int) → ∀ (i_1 : Int) (out_2 : List (List Int)), (0 : Int) ≤ i_1 → i_1 ≤ (↑vs.length : Int) → out_2 = List.map short (hdN (lateV vs) (srtV vs) i_1.toNat) → (↑out_2.length : Int) ≤ i_1 → i_1 < (↑(List.map short (srtV vs)).length : Int) → ∀ (late_9 : Bool) (j_10 : Int) (out_11 : List (List Int)), out_11 = out_2 → (0 : Int) ≤ j_10 → j_10 ≤ (↑vs.length : Int) → (late_9 = true ↔ ∀ (k : Nat), (↑k : Int) < j_10 → ¬ordV (srtV vs)[i_1.toNat]! (srtV vs)[k]! = (1 : Int)) → j_10 < (↑(List.map short (srtV vs)).length : Int) → ¬ordV (of (List.map short (srtV vs))[i_1.toNat]!) (of (List.map short (srtV vs))[j_10.toNat]!) = (1 : Int) → inv44j vs i_1 out_2 late_9 (j_10 + (1 : Int)) out_11)
    (g8 : ¬(256 : Int) < (↑vs.length : Int) → ∀ (i_1 : Int) (out_2 : List (List Int)), (0 : Int) ≤ i_1 → i_1 ≤ (↑vs.length : Int) → out_2 = List.map short (hdN (lateV vs) (srtV vs) i_1.toNat) → (↑out_2.length : Int) ≤ i_1 → i_1 < (↑(List.map short (srtV vs)).length : Int) → ∀ (late_9 : Bool) (j_10 : Int) (out_11 : List (List Int)), out_11 = out_2 → (0 : Int) ≤ j_10 → j_10 ≤ (↑vs.length : Int) → (late_9 = true ↔ ∀ (k : Nat), (↑k : Int) < j_10 → ¬ordV (srtV vs)[i_1.toNat]! (srtV vs)[k]! = (1 : Int)) → ¬j_10 < (↑(List.map short (srtV vs)).length : Int) → (0 : Int) < i_1 ∧ (List.map short (srtV vs))[i_1.toNat]! = (List.map short (srtV vs))[(i_1 - (1 : Int)).toNat]! → inv44 vs (i_1 + (1 : Int)) out_11)
    (g9 : ¬(256 : Int) < (↑vs.length : Int) → ∀ (i_1 : Int) (out_2 : List (List Int)), (0 : Int) ≤ i_1 → i_1 ≤ (↑vs.length : Int) → out_2 = List.map short (hdN (lateV vs) (srtV vs) i_1.toNat) → (↑out_2.length : Int) ≤ i_1 → i_1 < (↑(List.map short (srtV vs)).length : Int) → ∀ (late_9 : Bool) (j_10 : Int) (out_11 : List (List Int)), out_11 = out_2 → (0 : Int) ≤ j_10 → j_10 ≤ (↑vs.length : Int) → (late_9 = true ↔ ∀ (k : Nat), (↑k : Int) < j_10 → ¬ordV (srtV vs)[i_1.toNat]! (srtV vs)[k]! = (1 : Int)) → ¬j_10 < (↑(List.map short (srtV vs)).length : Int) → ¬((0 : Int) < i_1 ∧ (List.map short (srtV vs))[i_1.toNat]! = (List.map short (srtV vs))[(i_1 - (1 : Int)).toNat]!) → late_9 = true → (List.map c22 out_11).length + (List.map c22 [(List.map short (srtV vs))[i_1.toNat]!]).length ≤ maxLen)
    (g10 : ¬(256 : Int) < (↑vs.length : Int) → ∀ (i_1 : Int) (out_2 : List (List Int)), (0 : Int) ≤ i_1 → i_1 ≤ (↑vs.length : Int) → out_2 = List.map short (hdN (lateV vs) (srtV vs) i_1.toNat) → (↑out_2.length : Int) ≤ i_1 → i_1 < (↑(List.map short (srtV vs)).length : Int) → ∀ (late_9 : Bool) (j_10 : Int) (out_11 : List (List Int)), out_11 = out_2 → (0 : Int) ≤ j_10 → j_10 ≤ (↑vs.length : Int) → (late_9 = true ↔ ∀ (k : Nat), (↑k : Int) < j_10 → ¬ordV (srtV vs)[i_1.toNat]! (srtV vs)[k]! = (1 : Int)) → ¬j_10 < (↑(List.map short (srtV vs)).length : Int) → ¬((0 : Int) < i_1 ∧ (List.map short (srtV vs))[i_1.toNat]! = (List.map short (srtV vs))[(i_1 - (1 : Int)).toNat]!) → late_9 = true → ((List.map c22 out_11).length + (List.map c22 [(List.map short (srtV vs))[i_1.toNat]!]).length) * (24 : Nat) ≤ (140737488355328 : Nat))
    (g11 : ¬(256 : Int) < (↑vs.length : Int) → ∀ (i_1 : Int) (out_2 : List (List Int)), (0 : Int) ≤ i_1 → i_1 ≤ (↑vs.length : Int) → out_2 = List.map short (hdN (lateV vs) (srtV vs) i_1.toNat) → (↑out_2.length : Int) ≤ i_1 → i_1 < (↑(List.map short (srtV vs)).length : Int) → ∀ (late_9 : Bool) (j_10 : Int) (out_11 : List (List Int)), out_11 = out_2 → (0 : Int) ≤ j_10 → j_10 ≤ (↑vs.length : Int) → (late_9 = true ↔ ∀ (k : Nat), (↑k : Int) < j_10 → ¬ordV (srtV vs)[i_1.toNat]! (srtV vs)[k]! = (1 : Int)) → ¬j_10 < (↑(List.map short (srtV vs)).length : Int) → ¬((0 : Int) < i_1 ∧ (List.map short (srtV vs))[i_1.toNat]! = (List.map short (srtV vs))[(i_1 - (1 : Int)).toNat]!) → late_9 = true → inv44 vs (i_1 + (1 : Int)) (out_11 ++ [(List.map short (srtV vs))[i_1.toNat]!]))
    (g12 : ¬(256 : Int) < (↑vs.length : Int) → ∀ (i_1 : Int) (out_2 : List (List Int)), (0 : Int) ≤ i_1 → i_1 ≤ (↑vs.length : Int) → out_2 = List.map short (hdN (lateV vs) (srtV vs) i_1.toNat) → (↑out_2.length : Int) ≤ i_1 → i_1 < (↑(List.map short (srtV vs)).length : Int) → ∀ (late_9 : Bool) (j_10 : Int) (out_11 : List (List Int)), out_11 = out_2 → (0 : Int) ≤ j_10 → j_10 ≤ (↑vs.length : Int) → (late_9 = true ↔ ∀ (k : Nat), (↑k : Int) < j_10 → ¬ordV (srtV vs)[i_1.toNat]! (srtV vs)[k]! = (1 : Int)) → ¬j_10 < (↑(List.map short (srtV vs)).length : Int) → ¬((0 : Int) < i_1 ∧ (List.map short (srtV vs))[i_1.toNat]! = (List.map short (srtV vs))[(i_1 - (1 : Int)).toNat]!) → late_9 = false → inv44 vs (i_1 + (1 : Int)) out_11)
    (g13 : ¬(256 : Int) < (↑vs.length : Int) → ∀ (i_1 : Int) (out_2 : List (List Int)), (0 : Int) ≤ i_1 → i_1 ≤ (↑vs.length : Int) → out_2 = List.map short (hdN (lateV vs) (srtV vs) i_1.toNat) → (↑out_2.length : Int) ≤ i_1 → ¬i_1 < (↑(List.map short (srtV vs)).length : Int) → AV.i IntKind.i64 (0 : Int) = AV.i IntKind.i64 (headsV vs).snd)
    (g14 : ¬(256 : Int) < (↑vs.length : Int) → ∀ (i_1 : Int) (out_2 : List (List Int)), (0 : Int) ≤ i_1 → i_1 ≤ (↑vs.length : Int) → out_2 = List.map short (hdN (lateV vs) (srtV vs) i_1.toNat) → (↑out_2.length : Int) ≤ i_1 → ¬i_1 < (↑(List.map short (srtV vs)).length : Int) → AV.sl (List.map c22 out_2) = AV.sl (List.map c22 (headsV vs).fst)) :
    Con Try.prog (47 : FuncId) [AV.sl (List.map c22 vs)] (AV.tup [AV.sl (List.map c22 (headsV vs).fst), AV.i IntKind.i64 (headsV vs).snd]) := by
  refine con_lens 0 (c22) (vs) (by kernel_rfl) Go.Proofs.Try.func47 (by kernel_rfl) fun hl_0 => ?_
  refine st_con tab_ok (by kernel_rfl) [.tmp 2, .tmp 3] 59 Go.Proofs.Try.func47 (by kernel_rfl) (by kernel_rfl) ?_
  intro e0 cx
  refine st_seq (by kernel_rfl) ?_
  refine st_reg (A := True) (σ' := ⟨[(0, .sl (List.map c22 vs))], []⟩) cx [] [0] [] (by kernel_rfl) (by kernel_rfl) trivial ?_
  refine q_seq_normal ?_
  refine st_seq (by kernel_rfl) ?_
  refine st_seq (by kernel_rfl) ?_
  refine st_reg (A := (AV.i IntKind.i64 (↑(List.map c22 vs).length : Int) = AV.i IntKind.i64 (↑vs.length : Int)) ∧ (AV.b (decide ((↑vs.length : Int) > (256 : Int))) = AV.b (decide ((256 : Int) < (↑vs.length : Int))))) (σ' := ⟨[(0, .sl (List.map c22 vs)), (11, .b (decide ((256 : Int) < (↑vs.length : Int))))], []⟩) cx [(1, { tell := some (.i .i64 ((↑vs.length : Int))) }), (2, { tell := some (.b (decide ((256 : Int) < (↑vs.length : Int)))) })] [0, 11] [] (by kernel_rfl) (by kernel_rfl) ⟨(told_len c22 vs), (by kernel_rfl)⟩ ?_
  refine q_seq_normal ?_
  refine st_dec ((256 : Int) < (↑vs.length : Int)) (by kernel_rfl) (by kernel_rfl) (fun h_0 => ?_) (fun h_0 => ?_)
  ·
    refine st_seq (by kernel_rfl) ?_
    refine st_reg (A := True) (σ' := ⟨[(2, .nl), (3, .i .i64 ((2 : Int)))], []⟩) cx [] [2, 3] [] (by kernel_rfl) (by kernel_rfl) trivial ?_
    refine q_seq_normal ?_
    refine st_ret (by kernel_rfl) ?_
    refine q_seq_ret ?_
    exact q_ret (r := .tup [.nl, .i .i64 ((2 : Int))]) (obl := []) (by kernel_rfl) trivial (AVle.tup (ZLe.cons (AVle.nl' (g1 h_0)) (ZLe.cons (AVle.eq (g0 h_0)) ZLe.nil)))
  ·
    refine st_skip (by kernel_rfl) ?_
    refine q_seq_normal ?_
    refine st_seq (by kernel_rfl) ?_
    refine st_reg (A := (Con Try.prog (46 : FuncId) [AV.sl (List.map c22 vs)] (AV.sl (List.map c22 (List.map short (srtV vs)))))) (σ' := ⟨[(4, .sl (List.map c22 (List.map short (srtV vs))))], []⟩) cx [(1, { val := some (.sl (List.map c22 (List.map short (srtV vs)))) })] [4] [] (by kernel_rfl) (by kernel_rfl) (con46 (vs) (by (with_reducible assumption))) ?_
    refine q_seq_normal ?_
    refine st_seq (by kernel_rfl) ?_
    refine st_reg (A := True) (σ' := ⟨[(4, .sl (List.map c22 (List.map short (srtV vs)))), (5, .nl)], []⟩) cx [] [4, 5] [] (by kernel_rfl) (by kernel_rfl) trivial ?_
    refine q_seq_normal ?_
    refine st_seq (by kernel_rfl) ?_
    refine st_seq (by kernel_rfl) ?_
    refine st_reg (A := True) (σ' := ⟨[(4, .sl (List.map c22 (List.map short (srtV vs)))), (5, .nl), (6, .i .i64 ((0 : Int)))], []⟩) cx [] [4, 5, 6] [] (by kernel_rfl) (by kernel_rfl) trivial ?_
    refine q_seq_normal ?_
    refine st_block 0 (by kernel_rfl) ?_
    refine awp_adopt 5 1005 22 1 (σ' := ⟨[(4, .sl (List.map c22 (List.map short (srtV vs)))), (5, .own 1005 0), (6, .i .i64 ((0 : Int)))], [(1005, ⟨0, 22, .row 1 (List.map c22 [])⟩)]⟩) (by kernel_rfl) ?_
    refine st_loop (X := Int × List (List Int)) (fun x => ⟨[(4, .sl (List.map c22 (List.map short (srtV vs)))), (5, .own 1005 0), (6, .i .i64 (x.fst))], [(1005, ⟨0, 22, .row 1 (List.map c22 x.snd)⟩)]⟩) (fun x ↦ dec44 vs x.fst x.snd) (fun x ↦ inv44 vs x.fst x.snd) [4, 5, 6] [1005] (((0 : Int), [])) (by kernel_rfl) (by kernel_rfl) (g2 h_0) ?_
    rintro ⟨i_1, out_2⟩ h_3
    obtain ⟨h_4, h_5, h_6, h_7⟩ : (0 : Int) ≤ i_1 ∧ i_1 ≤ (↑vs.length : Int) ∧ out_2 = List.map short (hdN (lateV vs) (srtV vs) i_1.toNat) ∧ (↑out_2.length : Int) ≤ i_1 := h_3
    refine st_seq (by kernel_rfl) ?_
    refine st_seq (by kernel_rfl) ?_
    refine st_reg (A := (AV.i IntKind.i64 (↑(List.map c22 (List.map short (srtV vs))).length : Int) = AV.i IntKind.i64 (↑(List.map short (srtV vs)).length : Int)) ∧ (AV.b (decide (i_1 < (↑(List.map short (srtV vs)).length : Int))) = AV.b (decide (i_1 < (↑(List.map short (srtV vs)).length : Int))))) (σ' := ⟨[(4, .sl (List.map c22 (List.map short (srtV vs)))), (5, .own 1005 0), (6, .i .i64 (i_1)), (17, .b (decide (i_1 < (↑(List.map short (srtV vs)).length : Int))))], [(1005, ⟨0, 22, .row 1 (List.map c22 out_2)⟩)]⟩) cx [(2, { tell := some (.i .i64 ((↑(List.map short (srtV vs)).length : Int))) }), (3, { tell := some (.b (decide (i_1 < (↑(List.map short (srtV vs)).length : Int)))) })] [4, 5, 6, 17] [1005] (by kernel_rfl) (by kernel_rfl) ⟨(told_len c22 (List.map short (srtV vs))), (by kernel_rfl)⟩ ?_
    refine q_seq_normal ?_
    refine st_dec (i_1 < (↑(List.map short (srtV vs)).length : Int)) (by kernel_rfl) (by kernel_rfl) (fun h_8 => ?_) (fun h_8 => ?_)
    ·
      refine st_skip (by kernel_rfl) ?_
      refine q_seq_normal ?_
      refine st_seq (by kernel_rfl) ?_
      refine st_block 1 (by kernel_rfl) ?_
      refine st_seq (by kernel_rfl) ?_
      refine st_reg (A := True) (σ' := ⟨[(4, .sl (List.map c22 (List.map short (srtV vs)))), (5, .own 1005 0), (6, .i .i64 (i_1)), (7, .b (true))], [(1005, ⟨0, 22, .row 1 (List.map c22 out_2)⟩)]⟩) cx [] [4, 5, 6, 7] [1005] (by kernel_rfl) (by kernel_rfl) trivial ?_
      refine q_seq_normal ?_
      refine st_seq (by kernel_rfl) ?_
      refine st_seq (by kernel_rfl) ?_
      refine st_reg (A := True) (σ' := ⟨[(4, .sl (List.map c22 (List.map short (srtV vs)))), (5, .own 1005 0), (6, .i .i64 (i_1)), (7, .b (true)), (8, .i .i64 ((0 : Int)))], [(1005, ⟨0, 22, .row 1 (List.map c22 out_2)⟩)]⟩) cx [] [4, 5, 6, 7, 8] [1005] (by kernel_rfl) (by kernel_rfl) trivial ?_
      refine q_seq_normal ?_
      refine st_block 2 (by kernel_rfl) ?_
      refine st_loop (X := Bool × Int × List (List Int)) (fun x => ⟨[(4, .sl (List.map c22 (List.map short (srtV vs)))), (5, .own 1005 0), (6, .i .i64 (i_1)), (7, .b (x.fst)), (8, .i .i64 (x.snd.fst))], [(1005, ⟨0, 22, .row 1 (List.map c22 x.snd.snd)⟩)]⟩) (fun x ↦ dec44j vs x.fst x.snd.fst x.snd.snd) (fun x ↦ inv44j vs i_1 out_2 x.fst x.snd.fst x.snd.snd) [4, 5, 6, 7, 8] [1005] ((true, (0 : Int), out_2)) (by kernel_rfl) (by kernel_rfl) (g3 h_0 i_1 out_2 h_4 h_5 h_6 h_7 h_8) ?_
      rintro ⟨late_9, j_10, out_11⟩ h_12
      obtain ⟨h_13, h_14, h_15, h_16⟩ : out_11 = out_2 ∧ (0 : Int) ≤ j_10 ∧ j_10 ≤ (↑vs.length : Int) ∧ (late_9 = true ↔ ∀ (k : Nat), (↑k : Int) < j_10 → ¬ordV (srtV vs)[i_1.toNat]! (srtV vs)[k]! = (1 : Int)) := h_12
      refine st_seq (by kernel_rfl) ?_
      refine st_seq (by kernel_rfl) ?_
      refine st_reg (A := (AV.i IntKind.i64 (↑(List.map c22 (List.map short (srtV vs))).length : Int) = AV.i IntKind.i64 (↑(List.map short (srtV vs)).length : Int)) ∧ (AV.b (decide (j_10 < (↑(List.map short (srtV vs)).length : Int))) = AV.b (decide (j_10 < (↑(List.map short (srtV vs)).length : Int))))) (σ' := ⟨[(4, .sl (List.map c22 (List.map short (srtV vs)))), (5, .own 1005 0), (6, .i .i64 (i_1)), (7, .b (late_9)), (8, .i .i64 (j_10)), (23, .b (decide (j_10 < (↑(List.map short (srtV vs)).length : Int))))], [(1005, ⟨0, 22, .row 1 (List.map c22 out_11)⟩)]⟩) cx [(2, { tell := some (.i .i64 ((↑(List.map short (srtV vs)).length : Int))) }), (3, { tell := some (.b (decide (j_10 < (↑(List.map short (srtV vs)).length : Int)))) })] [4, 5, 6, 7, 8, 23] [1005] (by kernel_rfl) (by kernel_rfl) ⟨(told_len c22 (List.map short (srtV vs))), (by kernel_rfl)⟩ ?_
      refine q_seq_normal ?_
      refine st_dec (j_10 < (↑(List.map short (srtV vs)).length : Int)) (by kernel_rfl) (by kernel_rfl) (fun h_17 => ?_) (fun h_17 => ?_)
      ·
        refine st_skip (by kernel_rfl) ?_
        refine q_seq_normal ?_
        refine st_seq (by kernel_rfl) ?_
        refine st_block 3 (by kernel_rfl) ?_
        refine st_seq (by kernel_rfl) ?_
        refine st_any (A := ((0 : Int) ≤ i_1) ∧ ((List.map c22 (List.map short (srtV vs)))[i_1.toNat]? = some (c22 (List.map short (srtV vs))[i_1.toNat]!)) ∧ ((c22 (List.map short (srtV vs))[i_1.toNat]!).length = (1 : Nat)) ∧ ((0 : Int) ≤ j_10) ∧ ((List.map c22 (List.map short (srtV vs)))[j_10.toNat]? = some (c22 (List.map short (srtV vs))[j_10.toNat]!)) ∧ ((c22 (List.map short (srtV vs))[j_10.toNat]!).length = (1 : Nat)) ∧ (Con Try.prog (40 : FuncId) [AV.sl (List.map c3 (List.map short (srtV vs))[i_1.toNat]!), AV.sl (List.map c3 (List.map short (srtV vs))[j_10.toNat]!)] (AV.i IntKind.i64 (ordV (of (List.map short (srtV vs))[i_1.toNat]!) (of (List.map short (srtV vs))[j_10.toNat]!)))) ∧ (AV.b (ordV (of (List.map short (srtV vs))[i_1.toNat]!) (of (List.map short (srtV vs))[j_10.toNat]!) == (1 : Int)) = AV.b (decide (ordV (of (List.map short (srtV vs))[i_1.toNat]!) (of (List.map short (srtV vs))[j_10.toNat]!) = (1 : Int))))) (σ' := ⟨[(4, .sl (List.map c22 (List.map short (srtV vs)))), (5, .own 1005 0), (6, .i .i64 (i_1)), (7, .b (late_9)), (8, .i .i64 (j_10)), (35, .b (decide (ordV (of (List.map short (srtV vs))[i_1.toNat]!) (of (List.map short (srtV vs))[j_10.toNat]!) = (1 : Int))))], [(1005, ⟨0, 22, .row 1 (List.map c22 out_11)⟩)]⟩) cx [(2, { row := (c22 (List.map short (srtV vs))[i_1.toNat]!) }), (6, { row := (c22 (List.map short (srtV vs))[j_10.toNat]!) }), (8, { val := some (.i .i64 (ordV (of (List.map short (srtV vs))[i_1.toNat]!) (of (List.map short (srtV vs))[j_10.toNat]!))) }), (9, { tell := some (.b (decide (ordV (of (List.map short (srtV vs))[i_1.toNat]!) (of (List.map short (srtV vs))[j_10.toNat]!) = (1 : Int)))) })] [4, 5, 6, 7, 8, 35] [1005] (by kernel_rfl) (by kernel_rfl) ⟨(by (with_reducible assumption)), (by (with_reducible refine get_map ?_; omega)), (by kernel_rfl), (by (with_reducible assumption)), (by (with_reducible refine get_map ?_; omega)), (by kernel_rfl), (con40 ((List.map short (srtV vs))[i_1.toNat]!) ((List.map short (srtV vs))[j_10.toNat]!)), (by kernel_rfl)⟩ ?_
        refine q_seq_normal ?_
        refine st_dec (ordV (of (List.map short (srtV vs))[i_1.toNat]!) (of (List.map short (srtV vs))[j_10.toNat]!) = (1 : Int)) (by kernel_rfl) (by kernel_rfl) (fun h_18 => ?_) (fun h_18 => ?_)
        ·
          refine st_reg (A := True) (σ' := ⟨[(4, .sl (List.map c22 (List.map short (srtV vs)))), (5, .own 1005 0), (6, .i .i64 (i_1)), (7, .b (false)), (8, .i .i64 (j_10))], [(1005, ⟨0, 22, .row 1 (List.map c22 out_11)⟩)]⟩) cx [] [4, 5, 6, 7, 8] [1005] (by kernel_rfl) (by kernel_rfl) trivial ?_
          refine q_blk_normal ?_
          refine q_seq_normal ?_
          refine st_reg (A := (AV.i IntKind.i64 (IntKind.i64.wrap (j_10 + (1 : Int))) = AV.i IntKind.i64 (j_10 + (1 : Int)))) (σ' := ⟨[(4, .sl (List.map c22 (List.map short (srtV vs)))), (5, .own 1005 0), (6, .i .i64 (i_1)), (7, .b (false)), (8, .i .i64 (j_10 + (1 : Int)))], [(1005, ⟨0, 22, .row 1 (List.map c22 out_11)⟩)]⟩) cx [(1, { tell := some (.i .i64 (j_10 + (1 : Int))) })] [4, 5, 6, 7, 8] [1005] (by kernel_rfl) (by kernel_rfl) (told_i64 (by omega) (by omega)) ?_
          refine q_seq_normal ?_
          exact loop_next ((false, j_10 + (1 : Int), out_11)) (by kernel_rfl) (show ((↑vs.length : Int) - (j_10 + (1 : Int))).toNat < ((↑vs.length : Int) - j_10).toNat from (g4 h_0 i_1 out_2 h_4 h_5 h_6 h_7 h_8 late_9 j_10 out_11 h_13 h_14 h_15 h_16 h_17 h_18)) (g5 h_0 i_1 out_2 h_4 h_5 h_6 h_7 h_8 late_9 j_10 out_11 h_13 h_14 h_15 h_16 h_17 h_18)
        ·
          refine st_skip (by kernel_rfl) ?_
          refine q_blk_normal ?_
          refine q_seq_normal ?_
          refine st_reg (A := (AV.i IntKind.i64 (IntKind.i64.wrap (j_10 + (1 : Int))) = AV.i IntKind.i64 (j_10 + (1 : Int)))) (σ' := ⟨[(4, .sl (List.map c22 (List.map short (srtV vs)))), (5, .own 1005 0), (6, .i .i64 (i_1)), (7, .b (late_9)), (8, .i .i64 (j_10 + (1 : Int)))], [(1005, ⟨0, 22, .row 1 (List.map c22 out_11)⟩)]⟩) cx [(1, { tell := some (.i .i64 (j_10 + (1 : Int))) })] [4, 5, 6, 7, 8] [1005] (by kernel_rfl) (by kernel_rfl) (told_i64 (by omega) (by omega)) ?_
          refine q_seq_normal ?_
          exact loop_next ((late_9, j_10 + (1 : Int), out_11)) (by kernel_rfl) (show ((↑vs.length : Int) - (j_10 + (1 : Int))).toNat < ((↑vs.length : Int) - j_10).toNat from (g6 h_0 i_1 out_2 h_4 h_5 h_6 h_7 h_8 late_9 j_10 out_11 h_13 h_14 h_15 h_16 h_17 h_18)) (g7 h_0 i_1 out_2 h_4 h_5 h_6 h_7 h_8 late_9 j_10 out_11 h_13 h_14 h_15 h_16 h_17 h_18)
      ·
        refine st_exit 2 (by kernel_rfl) ?_
        refine q_seq_exit ?_
        refine q_seq_exit ?_
        refine q_blk_hit ?_
        refine q_seq_normal ?_
        refine st_seq (by kernel_rfl) ?_
        refine st_seq (by kernel_rfl) ?_
        refine st_join (σ' := ⟨[(4, .sl (List.map c22 (List.map short (srtV vs)))), (5, .own 1005 0), (6, .i .i64 (i_1)), (7, .b (late_9)), (49, .b (decide ((0 : Int) < i_1 ∧ (List.map short (srtV vs))[i_1.toNat]! = (List.map short (srtV vs))[(i_1 - (1 : Int)).toNat]!)))], [(1005, ⟨0, 22, .row 1 (List.map c22 out_11)⟩)]⟩) ?_ ?_
        ·
          refine st_split ((0 : Int) < i_1) (fun h_20 => ?_) (fun h_20 => ?_)
          ·
            refine st_any (A := (AV.b (decide (i_1 > (0 : Int))) = AV.b true) ∧ ((0 : Int) ≤ i_1) ∧ ((List.map c22 (List.map short (srtV vs)))[i_1.toNat]? = some (c22 (List.map short (srtV vs))[i_1.toNat]!)) ∧ ((c22 (List.map short (srtV vs))[i_1.toNat]!).length = (1 : Nat)) ∧ (AV.i IntKind.i64 (IntKind.i64.wrap (i_1 - (1 : Int))) = AV.i IntKind.i64 (i_1 - (1 : Int))) ∧ ((0 : Int) ≤ i_1 - (1 : Int)) ∧ ((List.map c22 (List.map short (srtV vs)))[(i_1 - (1 : Int)).toNat]? = some (c22 (List.map short (srtV vs))[(i_1 - (1 : Int)).toNat]!)) ∧ ((c22 (List.map short (srtV vs))[(i_1 - (1 : Int)).toNat]!).length = (1 : Nat)) ∧ (Con Try.prog (20 : FuncId) [AV.sl (List.map c3 (List.map short (srtV vs))[i_1.toNat]!), AV.sl (List.map c3 (List.map short (srtV vs))[(i_1 - (1 : Int)).toNat]!)] (AV.b (decide ((List.map short (srtV vs))[i_1.toNat]! = (List.map short (srtV vs))[(i_1 - (1 : Int)).toNat]!)))) ∧ (AV.b (decide ((List.map short (srtV vs))[i_1.toNat]! = (List.map short (srtV vs))[(i_1 - (1 : Int)).toNat]!)) = AV.b (decide ((0 : Int) < i_1 ∧ (List.map short (srtV vs))[i_1.toNat]! = (List.map short (srtV vs))[(i_1 - (1 : Int)).toNat]!)))) (σ' := ⟨[(4, .sl (List.map c22 (List.map short (srtV vs)))), (5, .own 1005 0), (6, .i .i64 (i_1)), (7, .b (late_9)), (49, .b (decide ((0 : Int) < i_1 ∧ (List.map short (srtV vs))[i_1.toNat]! = (List.map short (srtV vs))[(i_1 - (1 : Int)).toNat]!)))], [(1005, ⟨0, 22, .row 1 (List.map c22 out_11)⟩)]⟩) cx [(1, { tell := some (.b (true)) }), (5, { row := (c22 (List.map short (srtV vs))[i_1.toNat]!) }), (9, { tell := some (.i .i64 (i_1 - (1 : Int))) }), (10, { row := (c22 (List.map short (srtV vs))[(i_1 - (1 : Int)).toNat]!) }), (12, { val := some (.b (decide ((List.map short (srtV vs))[i_1.toNat]! = (List.map short (srtV vs))[(i_1 - (1 : Int)).toNat]!))) }), (13, { tell := some (.b (decide ((0 : Int) < i_1 ∧ (List.map short (srtV vs))[i_1.toNat]! = (List.map short (srtV vs))[(i_1 - (1 : Int)).toNat]!))) })] [4, 5, 6, 7, 49] [1005] (by kernel_rfl) (by kernel_rfl) ⟨(told_true h_20), (by (with_reducible assumption)), (by (with_reducible refine get_map ?_; omega)), (by kernel_rfl), (told_i64 (by omega) (by omega)), (by omega), (by (with_reducible refine get_map ?_; omega)), (by kernel_rfl), (con20 ((List.map short (srtV vs))[i_1.toNat]!) ((List.map short (srtV vs))[(i_1 - (1 : Int)).toNat]!)), (by simp only [eq_true h_20, told_simp1, told_simp2, and_true, true_and, and_false, false_and, or_true, true_or, or_false, false_or, not_true_eq_false, not_false_eq_true, decide_true, decide_false, Bool.decide_eq_true])⟩ ?_
            exact ⟨rfl, rfl⟩
          ·
            refine st_any (A := (AV.b (decide (i_1 > (0 : Int))) = AV.b false) ∧ (AV.b false = AV.b (decide ((0 : Int) < i_1 ∧ (List.map short (srtV vs))[i_1.toNat]! = (List.map short (srtV vs))[(i_1 - (1 : Int)).toNat]!)))) (σ' := ⟨[(4, .sl (List.map c22 (List.map short (srtV vs)))), (5, .own 1005 0), (6, .i .i64 (i_1)), (7, .b (late_9)), (49, .b (decide ((0 : Int) < i_1 ∧ (List.map short (srtV vs))[i_1.toNat]! = (List.map short (srtV vs))[(i_1 - (1 : Int)).toNat]!)))], [(1005, ⟨0, 22, .row 1 (List.map c22 out_11)⟩)]⟩) cx [(1, { tell := some (.b (false)) }), (13, { tell := some (.b (decide ((0 : Int) < i_1 ∧ (List.map short (srtV vs))[i_1.toNat]! = (List.map short (srtV vs))[(i_1 - (1 : Int)).toNat]!))) })] [4, 5, 6, 7, 49] [1005] (by kernel_rfl) (by kernel_rfl) ⟨(told_false h_20), (by simp only [eq_false h_20, told_simp1, told_simp2, and_true, true_and, and_false, false_and, or_true, true_or, or_false, false_or, not_true_eq_false, not_false_eq_true, decide_true, decide_false, Bool.decide_eq_true])⟩ ?_
            exact ⟨rfl, rfl⟩
        ·
          refine q_seq_normal ?_
          refine st_dec ((0 : Int) < i_1 ∧ (List.map short (srtV vs))[i_1.toNat]! = (List.map short (srtV vs))[(i_1 - (1 : Int)).toNat]!) (by kernel_rfl) (by kernel_rfl) (fun h_21 => ?_) (fun h_21 => ?_)
          ·
            refine st_reg (A := True) (σ' := ⟨[(4, .sl (List.map c22 (List.map short (srtV vs)))), (5, .own 1005 0), (6, .i .i64 (i_1)), (7, .b (false))], [(1005, ⟨0, 22, .row 1 (List.map c22 out_11)⟩)]⟩) cx [] [4, 5, 6, 7] [1005] (by kernel_rfl) (by kernel_rfl) trivial ?_
            refine q_seq_normal ?_
            refine st_seq (by kernel_rfl) ?_
            refine st_reg (A := True) (σ' := ⟨[(4, .sl (List.map c22 (List.map short (srtV vs)))), (5, .own 1005 0), (6, .i .i64 (i_1)), (50, .b (false))], [(1005, ⟨0, 22, .row 1 (List.map c22 out_11)⟩)]⟩) cx [] [4, 5, 6, 50] [1005] (by kernel_rfl) (by kernel_rfl) trivial ?_
            refine q_seq_normal ?_
            refine st_false (by kernel_rfl) (by kernel_rfl) ?_
            refine st_skip (by kernel_rfl) ?_
            refine q_blk_normal ?_
            refine q_seq_normal ?_
            refine st_reg (A := (AV.i IntKind.i64 (IntKind.i64.wrap (i_1 + (1 : Int))) = AV.i IntKind.i64 (i_1 + (1 : Int)))) (σ' := ⟨[(4, .sl (List.map c22 (List.map short (srtV vs)))), (5, .own 1005 0), (6, .i .i64 (i_1 + (1 : Int)))], [(1005, ⟨0, 22, .row 1 (List.map c22 out_11)⟩)]⟩) cx [(1, { tell := some (.i .i64 (i_1 + (1 : Int))) })] [4, 5, 6] [1005] (by kernel_rfl) (by kernel_rfl) (told_i64 (by omega) (by omega)) ?_
            refine q_seq_normal ?_
            exact loop_next ((i_1 + (1 : Int), out_11)) (by kernel_rfl) (show ((↑vs.length : Int) - (i_1 + (1 : Int))).toNat < ((↑vs.length : Int) - i_1).toNat from (by omega)) (g8 h_0 i_1 out_2 h_4 h_5 h_6 h_7 h_8 late_9 j_10 out_11 h_13 h_14 h_15 h_16 h_17 h_21)
          ·
            refine st_skip (by kernel_rfl) ?_
            refine q_seq_normal ?_
            refine st_seq (by kernel_rfl) ?_
            refine st_reg (A := True) (σ' := ⟨[(4, .sl (List.map c22 (List.map short (srtV vs)))), (5, .own 1005 0), (6, .i .i64 (i_1)), (50, .b (late_9))], [(1005, ⟨0, 22, .row 1 (List.map c22 out_11)⟩)]⟩) cx [] [4, 5, 6, 50] [1005] (by kernel_rfl) (by kernel_rfl) trivial ?_
            refine q_seq_normal ?_
            refine st_cond (late_9) (by kernel_rfl) (by kernel_rfl) (fun h_22 => ?_) (fun h_22 => ?_)
            ·
              refine st_reg (A := ((0 : Int) ≤ i_1) ∧ ((List.map c22 (List.map short (srtV vs)))[i_1.toNat]? = some (c22 (List.map short (srtV vs))[i_1.toNat]!)) ∧ ((c22 (List.map short (srtV vs))[i_1.toNat]!).length = (1 : Nat)) ∧ (22 = (22 : Nat)) ∧ ((1 : Nat) = 1) ∧ ([AV.nl].length = (1 : Nat)) ∧ (∀ (r : List AV), r ∈ List.map c22 [(List.map short (srtV vs))[i_1.toNat]!] → r.length = 1) ∧ ((List.map c22 out_11).length + (List.map c22 [(List.map short (srtV vs))[i_1.toNat]!]).length ≤ maxLen) ∧ (((List.map c22 out_11).length + (List.map c22 [(List.map short (srtV vs))[i_1.toNat]!]).length) * (24 : Nat) ≤ (140737488355328 : Nat)) ∧ (List.map c22 out_11 ++ List.map c22 [(List.map short (srtV vs))[i_1.toNat]!] = List.map c22 (out_11 ++ [(List.map short (srtV vs))[i_1.toNat]!]))) (σ' := ⟨[(4, .sl (List.map c22 (List.map short (srtV vs)))), (5, .own 1005 0), (6, .i .i64 (i_1))], [(1005, ⟨0, 22, .row 1 (List.map c22 (out_11 ++ [(List.map short (srtV vs))[i_1.toNat]!]))⟩)]⟩) cx [(3, { row := (c22 (List.map short (srtV vs))[i_1.toNat]!) }), (6, { rows := some (List.map c22 (out_11 ++ [(List.map short (srtV vs))[i_1.toNat]!])) })] [4, 5, 6] [1005] (by kernel_rfl) (by kernel_rfl) ⟨(by (with_reducible assumption)), (by (with_reducible refine get_map ?_; omega)), (by kernel_rfl), (by kernel_rfl), (by kernel_rfl), (by kernel_rfl), (by (with_reducible refine len_map (fun _ => ?_) _; kernel_rfl)), (g9 h_0 i_1 out_2 h_4 h_5 h_6 h_7 h_8 late_9 j_10 out_11 h_13 h_14 h_15 h_16 h_17 h_21 h_22), (g10 h_0 i_1 out_2 h_4 h_5 h_6 h_7 h_8 late_9 j_10 out_11 h_13 h_14 h_15 h_16 h_17 h_21 h_22), (by (with_reducible refine app_map ?_; kernel_rfl))⟩ ?_
              refine q_blk_normal ?_
              refine q_seq_normal ?_
              refine st_reg (A := (AV.i IntKind.i64 (IntKind.i64.wrap (i_1 + (1 : Int))) = AV.i IntKind.i64 (i_1 + (1 : Int)))) (σ' := ⟨[(4, .sl (List.map c22 (List.map short (srtV vs)))), (5, .own 1005 0), (6, .i .i64 (i_1 + (1 : Int)))], [(1005, ⟨0, 22, .row 1 (List.map c22 (out_11 ++ [(List.map short (srtV vs))[i_1.toNat]!]))⟩)]⟩) cx [(1, { tell := some (.i .i64 (i_1 + (1 : Int))) })] [4, 5, 6] [1005] (by kernel_rfl) (by kernel_rfl) (told_i64 (by omega) (by omega)) ?_
              refine q_seq_normal ?_
              exact loop_next ((i_1 + (1 : Int), out_11 ++ [(List.map short (srtV vs))[i_1.toNat]!])) (by kernel_rfl) (show ((↑vs.length : Int) - (i_1 + (1 : Int))).toNat < ((↑vs.length : Int) - i_1).toNat from (by omega)) (g11 h_0 i_1 out_2 h_4 h_5 h_6 h_7 h_8 late_9 j_10 out_11 h_13 h_14 h_15 h_16 h_17 h_21 h_22)
            ·
              refine st_skip (by kernel_rfl) ?_
              refine q_blk_normal ?_
              refine q_seq_normal ?_
              refine st_reg (A := (AV.i IntKind.i64 (IntKind.i64.wrap (i_1 + (1 : Int))) = AV.i IntKind.i64 (i_1 + (1 : Int)))) (σ' := ⟨[(4, .sl (List.map c22 (List.map short (srtV vs)))), (5, .own 1005 0), (6, .i .i64 (i_1 + (1 : Int)))], [(1005, ⟨0, 22, .row 1 (List.map c22 out_11)⟩)]⟩) cx [(1, { tell := some (.i .i64 (i_1 + (1 : Int))) })] [4, 5, 6] [1005] (by kernel_rfl) (by kernel_rfl) (told_i64 (by omega) (by omega)) ?_
              refine q_seq_normal ?_
              exact loop_next ((i_1 + (1 : Int), out_11)) (by kernel_rfl) (show ((↑vs.length : Int) - (i_1 + (1 : Int))).toNat < ((↑vs.length : Int) - i_1).toNat from (by omega)) (g12 h_0 i_1 out_2 h_4 h_5 h_6 h_7 h_8 late_9 j_10 out_11 h_13 h_14 h_15 h_16 h_17 h_21 h_22)
    ·
      refine st_exit 0 (by kernel_rfl) ?_
      refine q_seq_exit ?_
      refine q_seq_exit ?_
      refine q_blk_hit ?_
      refine q_seq_normal ?_
      refine st_seq (by kernel_rfl) ?_
      refine st_reg (A := True) (σ' := ⟨[(2, .own 1005 0), (3, .i .i64 ((0 : Int)))], [(1005, ⟨0, 22, .row 1 (List.map c22 out_2)⟩)]⟩) cx [] [2, 3] [1005] (by kernel_rfl) (by kernel_rfl) trivial ?_
      refine q_seq_normal ?_
      refine st_ret (by kernel_rfl) ?_
      exact q_ret (r := .tup [.sl (List.map c22 out_2), .i .i64 ((0 : Int))]) (obl := []) (by kernel_rfl) trivial (AVle.tup (ZLe.cons (AVle.eq (g14 h_0 i_1 out_2 h_4 h_5 h_6 h_7 h_8)) (ZLe.cons (AVle.eq (g13 h_0 i_1 out_2 h_4 h_5 h_6 h_7 h_8)) ZLe.nil)))
theorem con47 (vs : List (List Int)) (hs : sz38 vs) : Con Try.prog 47 [.sl (vs.map c22)] (.tup [.sl ((headsV vs).1.map c22), .i .i64 (headsV vs).2]) :=
  by
  have hL := len_srt vs
  have h1 := hs.1
  refine walk47 vs hs (fun h => by rw [headsV, if_pos (by omega)]) (fun h => by rw [headsV, if_pos (by omega)]; rfl) (fun h => ⟨by omega, by omega, rfl, by simp⟩)
    (fun h i o h0 h1 h2 h3 h4 => ⟨rfl, by omega, by omega, by simp; omega⟩) (fun h i o h0 h1 h2 h3 h4 late j o' k0 k1 k2 k3 k4 k5 => by omega)
    (fun h i o h0 h1 h2 h3 h4 late j o' k0 k1 k2 k3 k4 k5 => ⟨k0, by omega, by omega, ?_⟩) (fun h i o h0 h1 h2 h3 h4 late j o' k0 k1 k2 k3 k4 k5 => by omega)
    (fun h i o h0 h1 h2 h3 h4 late j o' k0 k1 k2 k3 k4 k5 => ⟨k0, by omega, by omega, ?_⟩) (fun h i o h0 h1 h2 h3 h4 late j o' k0 k1 k2 k3 k4 k5 => ?_)
    (fun h i o h0 h1 h2 h3 h4 late j o' k0 k1 k2 k3 k4 k5 k6 => ?_) (fun h i o h0 h1 h2 h3 h4 late j o' k0 k1 k2 k3 k4 k5 k6 => ?_) (fun h i o h0 h1 h2 h3 h4 late j o' k0 k1 k2 k3 k4 k5 k6 => ?_)
    (fun h i o h0 h1 h2 h3 h4 late j o' k0 k1 k2 k3 k4 k5 k6 => ?_) (fun h i o h0 h1 h2 h3 h4 => by rw [headsV, if_neg (by omega)]) (fun h i o h0 h1 h2 h3 h4 => ?_)
  · rw [srt_of (by omega), srt_of (by omega)] at k5
    constructor
    · intro h; cases h
    · intro g; exact absurd k5 (g j.toNat (by omega))
  · rw [srt_of (by omega), srt_of (by omega)] at k5
    exact late_step k1 k3 k5
  · have := heads44 h0 (by omega) h2 h3 k3 k2 (by omega)
    rw [if_neg (fun g => g.2 k5)] at this
    rw [k0]; exact this
  · simp only [List.length_map, List.length_cons, List.length_nil, Go.maxLen, k0]; omega
  · simp only [List.length_map, List.length_cons, List.length_nil, k0]; omega
  · have := heads44 h0 (by omega) h2 h3 k3 k2 (by omega)
    rw [if_pos ⟨k6, k5⟩] at this
    rw [k0]; exact this
  · have := heads44 h0 (by omega) h2 h3 k3 k2 (by omega)
    rw [if_neg (fun g => by rw [k6] at g; cases g.1)] at this
    rw [k0]; exact this
  · rw [headsV, if_neg (by omega), h2]
    have : i.toNat = vs.length := by omega
    rw [this]
end Go.Proofs.Ytoeifjooljkpaaa
