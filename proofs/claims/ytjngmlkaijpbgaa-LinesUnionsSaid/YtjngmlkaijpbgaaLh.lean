/- Lh: lines: Union, and the library's Grow and Concat at entries. Conditions: sizes. -/
import Derived.Test.YtjngmlkaijpbgaaLg
import Derived.Lib.AppendZeros
import Derived.WalkKit
import Derived.Deep.LoopGhost
import Derived.Lib.Walk
import Derived.Lib.SliceRun
set_option linter.unusedVariables false
set_option linter.unusedSimpArgs false
namespace Go.Proofs.Ytjngmlkaijpbgaa
open Go.E
set_option maxRecDepth 100000
set_option maxHeartbeats 4000000
open Go Go.Lib Go.RowKit Go.Proofs
set_option maxHeartbeats 4000000 in
theorem grow_some (n : Nat) (h0 : 0 < n) (hb : n * 40 ≤ 140737488351232) (w : World) : Calls Try.prog 77 #[.slice none 0 0, .int .i64 n] w fun e w' =>
    ∃ cap cells, e = .returned (.slice (some ⟨w.heap.size, 0, none⟩) 0 cap) ∧ w'.heap[w.heap.size]? = some (.cells cells 28 (0, 0)) ∧ cells.size = cap * 4 ∧ cap ≤ maxLen ∧ Below w.heap.size w w' := by
  obtain ⟨i, z, hi, hi1, hi2, hz, hzs⟩ : ∃ (i : TypeInfo) (z : Value), Try.prog.info? 28 = some i ∧ i.size = 4 ∧ i.bytes = 40 ∧ i.zero = some z ∧ z.cells.size = 4 :=
    ⟨tiE, tiE.zero.get!, by kernel_rfl, by kernel_rfl, by kernel_rfl, by kernel_rfl, by kernel_rfl⟩
  have happ := Lib.run_append_nil_zeros (P := Try.prog) w 22 3 22 28 i z .i64 .i64 Try.underlying22 Try.underlying3 hi hz n h0 (by omega) (by omega) (by rw [hi2]; omega)
  generalize hcap : grownCap w n 0 28 = cap2 at happ
  have hcapge : n ≤ cap2 := by rw [← hcap]; exact grownCap_ge w _ 0 28
  have hcaple : cap2 ≤ maxLen := by rw [← hcap]; exact grownCap_le_maxLen w _ 0 28 (by unfold maxLen; omega)
  generalize hZ : (Builtin.zeroCells z.cells n ++ Builtin.zeroCells z.cells (cap2 - n)) = Z at happ
  have hZs : Z.size = cap2 * 4 := by rw [← hZ]; simp [size_zeroCells, hzs]; omega
  clear hcap hZ
  go_enter Try.func77, Try.ntmps77
  go_wp2_with (at_builtin; refine Lib.wpList_append_run _ rfl _ _ _ _ rfl _ _ rfl rfl _ _ happ ?_)
  go_ret
  exact ⟨cap2, Z, rfl, heap_alloc_new w _, hZs, hcaple, ⟨rfl, rfl, rfl, by simp, fun k hk => Below.heap_alloc w _ k hk⟩⟩
set_option maxHeartbeats 4000000 in
theorem grow_none (w : World) : Calls Try.prog 77 #[.slice none 0 0, .int .i64 0] w fun e w' => e = .returned (.slice none 0 0) ∧ w' = w := by
  go_enter Try.func77, Try.ntmps77
  go_wp2
  go_ret
  exact ⟨rfl, rfl⟩
theorem con77 (n : Int) (h0 : 0 ≤ n) (hb : n * 40 ≤ 140737488351232) : ConB Try.prog 77 [.nl, .i .i64 n] 28 (.row 4 (([] : List Entry).map c28)) := by
  refine ⟨⟨_, Try.func77, by kernel_rfl, by kernel_rfl⟩, fun w S0 vs hS hl hv => ?_⟩
  obtain ⟨v, u, rfl⟩ : ∃ v u, vs = [v, u] := by
    match vs, hl with
    | [v, u], _ => exact ⟨v, u, rfl⟩
  have h1 := hv 0 _ v rfl rfl
  have h2 := hv 1 _ u rfl rfl
  cases h1
  cases h2
  by_cases hn : n = 0
  · subst hn
    refine (grow_none w).mono ?_
    rintro e w' ⟨rfl, rfl⟩
    exact ⟨_, rfl, ⟨fun r hr => by simp at hr, [], World.ownsRow_nil _ _ _ _, fun u hu => by simp at hu, fun j b u hb => by simp at hb⟩, Below.refl _ _⟩
  · obtain ⟨m, rfl⟩ : ∃ m : Nat, n = m := ⟨n.toNat, by omega⟩
    refine (grow_some m (by omega) (by omega) w).mono ?_
    rintro e w' ⟨cap, cells, rfl, g1, g2, g3, g4⟩
    exact ⟨_, rfl, ⟨fun r hr => by simp at hr, [], ⟨by simp, .inr ⟨w.heap.size, cap, cells, rfl, Nat.le_refl _, g1, Nat.zero_le _, g3, g2, by simp⟩⟩, fun u hu => by simp at hu, fun j b u hb => by simp at hb⟩, g4⟩
def c22 (l : List Entry) : List AV := [.sl (l.map c28)]
def sumL (ss : List (List Entry)) (n : Int) (i : Int) : Prop := n = ((ss.take i.toNat).flatten.length : Int)
def isCat (ss : List (List Entry)) (i : Int) (l : List Entry) : Prop := l = (ss.take i.toNat).flatten
def inv59a (ss : List (List Entry)) (n i : Int) : Prop := 0 ≤ i ∧ i ≤ ss.length ∧ 0 ≤ n ∧ n ≤ 140737488351232 ∧ sumL ss n i
def dec59a (ss : List (List Entry)) (n i : Int) : Nat := (ss.length - i).toNat
def inv59b (ss : List (List Entry)) (i : Int) (l : List Entry) : Prop := 0 ≤ i ∧ i ≤ ss.length ∧ isCat ss i l
def dec59b (ss : List (List Entry)) (i : Int) (l : List Entry) : Nat := (ss.length - i).toNat
theorem flat_le (ss : List (List Entry)) (i : Nat) : (ss.take i).flatten.length ≤ ss.flatten.length := by
  have h : (ss.take i).flatten ++ (ss.drop i).flatten = ss.flatten := by rw [← List.flatten_append, List.take_append_drop]
  rw [← h, List.length_append]
  omega
theorem flat_step {ss : List (List Entry)} {i : Int} (h0 : 0 ≤ i) (h : i < ss.length) : (ss.take (i + 1).toNat).flatten = (ss.take i.toNat).flatten ++ ss[i.toNat]! := by
  rw [← take_step h0 h, List.flatten_append]
  simp
theorem cat_len {ss : List (List Entry)} {n i : Int} (hb : ss.flatten.length * 40 ≤ 140737488351232) (h0 : 0 ≤ i) (h : i < ss.length) (hs : sumL ss n i) : (n + ss[i.toNat]!.length) * 40 ≤ 140737488351232 := by
  have h1 := flat_le ss (i + 1).toNat
  rw [flat_step h0 h, List.length_append] at h1
  unfold sumL at hs
  omega
theorem inv59a_init (ss : List (List Entry)) : inv59a ss 0 0 := ⟨by omega, by omega, by omega, by omega, by simp [sumL]⟩
theorem inv59a_step {ss : List (List Entry)} {n i : Int} (hb : ss.flatten.length * 40 ≤ 140737488351232) (h0 : 0 ≤ i) (h : i < ss.length) (hn : 0 ≤ n) (hs : sumL ss n i) : inv59a ss (n + ss[i.toNat]!.length) (i + 1) := by
  have := cat_len hb h0 h hs
  refine ⟨by omega, by omega, by omega, by omega, ?_⟩
  unfold sumL at *
  rw [flat_step h0 h, List.length_append]
  omega
theorem cat_end {ss : List (List Entry)} {n i : Int} (hb : ss.flatten.length * 40 ≤ 140737488351232) (hs : sumL ss n i) : n * 40 ≤ 140737488351232 := by
  have := flat_le ss i.toNat
  unfold sumL at hs
  omega
theorem cat_app {ss : List (List Entry)} {i : Int} {l : List Entry} (hb : ss.flatten.length * 40 ≤ 140737488351232) (h0 : 0 ≤ i) (h : i < ss.length) (hs : isCat ss i l) : (l.length + ss[i.toNat]!.length) * 40 ≤ 140737488351232 := by
  have h1 := flat_le ss (i + 1).toNat
  rw [flat_step h0 h, List.length_append] at h1
  unfold isCat at hs
  rw [hs]
  omega
theorem inv59b_step {ss : List (List Entry)} {i : Int} {l : List Entry} (h0 : 0 ≤ i) (h : i < ss.length) (hs : isCat ss i l) : inv59b ss (i + 1) (l ++ ss[i.toNat]!) :=
  ⟨by omega, by omega, by unfold isCat at *; rw [flat_step h0 h, hs]⟩
theorem isCat_end {ss : List (List Entry)} {i : Int} {l : List Entry} (h : ¬ i < ss.length) (hs : isCat ss i l) : l = ss.flatten := by
  unfold isCat at hs
  rw [hs, List.take_of_length_le (by omega)]
theorem walk59 (ss : List (List Entry)) (hb : ss.flatten.length * (40 : Nat) ≤ (140737488351232 : Nat))
    (g0 : inv59a ss (0 : Int) (0 : Int))
    (g1 : ∀ (n_0 i_1 : Int), (0 : Int) ≤ i_1 → i_1 ≤ (↑ss.length : Int) → (0 : Int) ≤ n_0 → n_0 ≤ (140737488351232 : Int) → sumL ss n_0 i_1 → i_1 < (↑ss.length : Int) → n_0 + (↑ss[i_1.toNat]!.length : Int) ≤ (9223372036854775807 : Int))
    (g2 : ∀ (n_0 i_1 : Int), (0 : Int) ≤ i_1 → i_1 ≤ (↑ss.length : Int) → (0 : Int) ≤ n_0 → n_0 ≤ (140737488351232 : Int) → sumL ss n_0 i_1 → i_1 < (↑ss.length : Int) → ¬n_0 + (↑ss[i_1.toNat]!.length : Int) < (0 : Int) → inv59a ss (n_0 + (↑ss[i_1.toNat]!.length : Int)) (i_1 + (1 : Int)))
    (g3 : ∀ (n_0 i_1 : Int), (0 : Int) ≤ i_1 → i_1 ≤ (↑ss.length : Int) → (0 : Int) ≤ n_0 → n_0 ≤ (140737488351232 : Int) → sumL ss n_0 i_1 → ¬i_1 < (↑ss.length : Int) → n_0 * (40 : Int) ≤ (140737488351232 : Int))
    (g4 : ∀ (n_0 i_1 : Int), (0 : Int) ≤ i_1 → i_1 ≤ (↑ss.length : Int) → (0 : Int) ≤ n_0 → n_0 ≤ (140737488351232 : Int) → sumL ss n_0 i_1 → ¬i_1 < (↑ss.length : Int) → inv59b ss (0 : Int) [])
    (g5 : ∀ (n_0 i_1 : Int), (0 : Int) ≤ i_1 → i_1 ≤ (↑ss.length : Int) → (0 : Int) ≤ n_0 → n_0 ≤ (140737488351232 : Int) → sumL ss n_0 i_1 → ¬i_1 < (↑ss.length : Int) → ∀ (i_10 : Int) (l_11 : List Entry), (0 : Int) ≤ i_10 → i_10 ≤ (↑ss.length : Int) → isCat ss i_10 l_11 → i_10 < (↑ss.length : Int) → (List.map c28 l_11).length + (List.map c28 ss[i_10.toNat]!).length ≤ maxLen)
    (g6 : ∀ (n_0 i_1 : Int), (0 : Int) ≤ i_1 → i_1 ≤ (↑ss.length : Int) → (0 : Int) ≤ n_0 → n_0 ≤ (140737488351232 : Int) → sumL ss n_0 i_1 → ¬i_1 < (↑ss.length : Int) → ∀ (i_10 : Int) (l_11 : List Entry), (0 : Int) ≤ i_10 → i_10 ≤ (↑ss.length : Int) → isCat ss i_10 l_11 → i_10 < (↑ss.length : Int) → ((List.map c28 l_11).length + (List.map c28 ss[i_10.toNat]!).length) * (40 : Nat) ≤ (140737488355328 : Nat))
    (g7 : ∀ (n_0 i_1 : Int), (0 : Int) ≤ i_1 → i_1 ≤ (↑ss.length : Int) → (0 : Int) ≤ n_0 → n_0 ≤ (140737488351232 : Int) → sumL ss n_0 i_1 → ¬i_1 < (↑ss.length : Int) → ∀ (i_10 : Int) (l_11 : List Entry), (0 : Int) ≤ i_10 → i_10 ≤ (↑ss.length : Int) → isCat ss i_10 l_11 → i_10 < (↑ss.length : Int) → inv59b ss (i_10 + (1 : Int)) (l_11 ++ ss[i_10.toNat]!))
    (g8 : ∀ (n_0 i_1 : Int), (0 : Int) ≤ i_1 → i_1 ≤ (↑ss.length : Int) → (0 : Int) ≤ n_0 → n_0 ≤ (140737488351232 : Int) → sumL ss n_0 i_1 → ¬i_1 < (↑ss.length : Int) → ∀ (i_10 : Int) (l_11 : List Entry), (0 : Int) ≤ i_10 → i_10 ≤ (↑ss.length : Int) → isCat ss i_10 l_11 → ¬i_10 < (↑ss.length : Int) → List.map c28 l_11 = List.map c28 ss.flatten) :
    ConB Try.prog (59 : FuncId) [AV.sl (List.map c22 ss)] (28 : Nat) (BK.row (4 : Nat) (List.map c28 ss.flatten)) := by
  refine conB_lens 0 (c22) (ss) (by kernel_rfl) Go.Proofs.Try.func59 (by kernel_rfl) fun hl_0 => ?_
  refine st_conB tab_ok (by kernel_rfl) (.tmp 2) 36 Go.Proofs.Try.func59 (by kernel_rfl) (by kernel_rfl) ?_
  intro e0 cx
  refine st_seq (by kernel_rfl) ?_
  refine st_reg (A := True) (σ' := ⟨[(0, .sl (List.map c22 ss))], []⟩) cx [] [0] [] (by kernel_rfl) (by kernel_rfl) trivial ?_
  refine q_seq_normal ?_
  refine st_seq (by kernel_rfl) ?_
  refine st_reg (A := True) (σ' := ⟨[(0, .sl (List.map c22 ss)), (3, .i .i64 ((0 : Int)))], []⟩) cx [] [0, 3] [] (by kernel_rfl) (by kernel_rfl) trivial ?_
  refine q_seq_normal ?_
  refine st_seq (by kernel_rfl) ?_
  refine st_seq (by kernel_rfl) ?_
  refine st_reg (A := (AV.i IntKind.i64 (↑(List.map c22 ss).length : Int) = AV.i IntKind.i64 (↑ss.length : Int))) (σ' := ⟨[(0, .sl (List.map c22 ss)), (3, .i .i64 ((0 : Int))), (9, .sl (List.map c22 ss)), (10, .i .i64 ((↑ss.length : Int))), (11, .i .i64 ((0 : Int)))], []⟩) cx [(1, { tell := some (.i .i64 ((↑ss.length : Int))) })] [0, 3, 9, 10, 11] [] (by kernel_rfl) (by kernel_rfl) (told_len c22 ss) ?_
  refine q_seq_normal ?_
  refine st_block 0 (by kernel_rfl) ?_
  refine st_loop (X := Int × Int) (fun x => ⟨[(0, .sl (List.map c22 ss)), (3, .i .i64 (x.fst)), (9, .sl (List.map c22 ss)), (10, .i .i64 ((↑ss.length : Int))), (11, .i .i64 (x.snd))], []⟩) (fun x ↦ dec59a ss x.fst x.snd) (fun x ↦ inv59a ss x.fst x.snd) [0, 3, 9, 10, 11] [] (((0 : Int), (0 : Int))) (by kernel_rfl) (by kernel_rfl) g0 ?_
  rintro ⟨n_0, i_1⟩ h_2
  obtain ⟨h_3, h_4, h_5, h_6, h_7⟩ : (0 : Int) ≤ i_1 ∧ i_1 ≤ (↑ss.length : Int) ∧ (0 : Int) ≤ n_0 ∧ n_0 ≤ (140737488351232 : Int) ∧ sumL ss n_0 i_1 := h_2
  refine st_seq (by kernel_rfl) ?_
  refine st_reg (A := (AV.b (decide (i_1 < (↑ss.length : Int))) = AV.b (decide (i_1 < (↑ss.length : Int))))) (σ' := ⟨[(0, .sl (List.map c22 ss)), (3, .i .i64 (n_0)), (9, .sl (List.map c22 ss)), (10, .i .i64 ((↑ss.length : Int))), (11, .i .i64 (i_1)), (12, .b (decide (i_1 < (↑ss.length : Int))))], []⟩) cx [(0, { tell := some (.b (decide (i_1 < (↑ss.length : Int)))) })] [0, 3, 9, 10, 11, 12] [] (by kernel_rfl) (by kernel_rfl) (by kernel_rfl) ?_
  refine q_seq_normal ?_
  refine st_seq (by kernel_rfl) ?_
  refine st_dec (i_1 < (↑ss.length : Int)) (by kernel_rfl) (by kernel_rfl) (fun h_8 => ?_) (fun h_8 => ?_)
  ·
    refine st_skip (by kernel_rfl) ?_
    refine q_seq_normal ?_
    refine st_seq (by kernel_rfl) ?_
    refine st_block 1 (by kernel_rfl) ?_
    refine st_seq (by kernel_rfl) ?_
    refine st_reg (A := ((0 : Int) ≤ i_1) ∧ ((List.map c22 ss)[i_1.toNat]? = some (c22 ss[i_1.toNat]!)) ∧ ((c22 ss[i_1.toNat]!).length = (1 : Nat))) (σ' := ⟨[(0, .sl (List.map c22 ss)), (3, .i .i64 (n_0)), (9, .sl (List.map c22 ss)), (10, .i .i64 ((↑ss.length : Int))), (11, .i .i64 (i_1)), (5, .sl (List.map c28 ss[i_1.toNat]!))], []⟩) cx [(0, { row := (c22 ss[i_1.toNat]!) })] [0, 3, 9, 10, 11, 5] [] (by kernel_rfl) (by kernel_rfl) ⟨(by (with_reducible assumption)), (by (with_reducible refine get_map ?_; omega)), (by kernel_rfl)⟩ ?_
    refine q_seq_normal ?_
    refine st_seq (by kernel_rfl) ?_
    refine st_reg (A := (AV.i IntKind.i64 (↑(List.map c28 ss[i_1.toNat]!).length : Int) = AV.i IntKind.i64 (↑ss[i_1.toNat]!.length : Int)) ∧ (AV.i IntKind.i64 (IntKind.i64.wrap (n_0 + (↑ss[i_1.toNat]!.length : Int))) = AV.i IntKind.i64 (n_0 + (↑ss[i_1.toNat]!.length : Int)))) (σ' := ⟨[(0, .sl (List.map c22 ss)), (3, .i .i64 (n_0 + (↑ss[i_1.toNat]!.length : Int))), (9, .sl (List.map c22 ss)), (10, .i .i64 ((↑ss.length : Int))), (11, .i .i64 (i_1))], []⟩) cx [(2, { tell := some (.i .i64 ((↑ss[i_1.toNat]!.length : Int))) }), (3, { tell := some (.i .i64 (n_0 + (↑ss[i_1.toNat]!.length : Int))) })] [0, 3, 9, 10, 11] [] (by kernel_rfl) (by kernel_rfl) ⟨(told_len c28 ss[i_1.toNat]!), (told_i64 (by omega) (g1 n_0 i_1 h_3 h_4 h_5 h_6 h_7 h_8))⟩ ?_
    refine q_seq_normal ?_
    refine st_seq (by kernel_rfl) ?_
    refine st_reg (A := (AV.b (decide (n_0 + (↑ss[i_1.toNat]!.length : Int) < (0 : Int))) = AV.b (decide (n_0 + (↑ss[i_1.toNat]!.length : Int) < (0 : Int))))) (σ' := ⟨[(0, .sl (List.map c22 ss)), (3, .i .i64 (n_0 + (↑ss[i_1.toNat]!.length : Int))), (9, .sl (List.map c22 ss)), (10, .i .i64 ((↑ss.length : Int))), (11, .i .i64 (i_1)), (20, .b (decide (n_0 + (↑ss[i_1.toNat]!.length : Int) < (0 : Int))))], []⟩) cx [(1, { tell := some (.b (decide (n_0 + (↑ss[i_1.toNat]!.length : Int) < (0 : Int)))) })] [0, 3, 9, 10, 11, 20] [] (by kernel_rfl) (by kernel_rfl) (by kernel_rfl) ?_
    refine q_seq_normal ?_
    refine st_dec (n_0 + (↑ss[i_1.toNat]!.length : Int) < (0 : Int)) (by kernel_rfl) (by kernel_rfl) (fun h_9 => absurd h_9 (by omega)) (fun h_9 => ?_)
    refine st_skip (by kernel_rfl) ?_
    refine q_blk_normal ?_
    refine q_seq_normal ?_
    refine st_reg (A := (AV.i IntKind.i64 (IntKind.i64.wrap (i_1 + (1 : Int))) = AV.i IntKind.i64 (i_1 + (1 : Int)))) (σ' := ⟨[(0, .sl (List.map c22 ss)), (3, .i .i64 (n_0 + (↑ss[i_1.toNat]!.length : Int))), (9, .sl (List.map c22 ss)), (10, .i .i64 ((↑ss.length : Int))), (11, .i .i64 (i_1 + (1 : Int)))], []⟩) cx [(0, { tell := some (.i .i64 (i_1 + (1 : Int))) })] [0, 3, 9, 10, 11] [] (by kernel_rfl) (by kernel_rfl) (told_i64 (by omega) (by omega)) ?_
    refine q_seq_normal ?_
    exact loop_next ((n_0 + (↑ss[i_1.toNat]!.length : Int), i_1 + (1 : Int))) (by kernel_rfl) (show ((↑ss.length : Int) - (i_1 + (1 : Int))).toNat < ((↑ss.length : Int) - i_1).toNat from (by omega)) (g2 n_0 i_1 h_3 h_4 h_5 h_6 h_7 h_8 h_9)
  ·
    refine st_exit 0 (by kernel_rfl) ?_
    refine q_seq_exit ?_
    refine q_seq_exit ?_
    refine q_blk_hit ?_
    refine q_seq_normal ?_
    refine st_seq (by kernel_rfl) ?_
    refine st_reg (A := (ConB Try.prog (77 : FuncId) [AV.nl, AV.i IntKind.i64 n_0] (28 : Nat) (BK.row (4 : Nat) (List.map c28 [])))) (σ' := ⟨[(0, .sl (List.map c22 ss)), (6, .own 24 0)], [(24, ⟨0, 28, .row 4 (List.map c28 [])⟩)]⟩) cx [(1, { val := some (.own (28 : Nat) (4 : Nat)), rows := some (List.map c28 []) })] [0, 6] [24] (by kernel_rfl) (by kernel_rfl) (con77 (n_0) (by (with_reducible assumption)) (g3 n_0 i_1 h_3 h_4 h_5 h_6 h_7 h_8)) ?_
    refine q_seq_normal ?_
    refine st_seq (by kernel_rfl) ?_
    refine st_seq (by kernel_rfl) ?_
    refine st_reg (A := (AV.i IntKind.i64 (↑(List.map c22 ss).length : Int) = AV.i IntKind.i64 (↑ss.length : Int))) (σ' := ⟨[(6, .own 24 0), (25, .sl (List.map c22 ss)), (26, .i .i64 ((↑ss.length : Int))), (27, .i .i64 ((0 : Int)))], [(24, ⟨0, 28, .row 4 (List.map c28 [])⟩)]⟩) cx [(1, { tell := some (.i .i64 ((↑ss.length : Int))) })] [6, 25, 26, 27] [24] (by kernel_rfl) (by kernel_rfl) (told_len c22 ss) ?_
    refine q_seq_normal ?_
    refine st_block 2 (by kernel_rfl) ?_
    refine st_loop (X := Int × List Entry) (fun x => ⟨[(6, .own 24 0), (25, .sl (List.map c22 ss)), (26, .i .i64 ((↑ss.length : Int))), (27, .i .i64 (x.fst))], [(24, ⟨0, 28, .row 4 (List.map c28 x.snd)⟩)]⟩) (fun x ↦ dec59b ss x.fst x.snd) (fun x ↦ inv59b ss x.fst x.snd) [6, 25, 26, 27] [24] (((0 : Int), [])) (by kernel_rfl) (by kernel_rfl) (g4 n_0 i_1 h_3 h_4 h_5 h_6 h_7 h_8) ?_
    rintro ⟨i_10, l_11⟩ h_12
    obtain ⟨h_13, h_14, h_15⟩ : (0 : Int) ≤ i_10 ∧ i_10 ≤ (↑ss.length : Int) ∧ isCat ss i_10 l_11 := h_12
    refine st_seq (by kernel_rfl) ?_
    refine st_reg (A := (AV.b (decide (i_10 < (↑ss.length : Int))) = AV.b (decide (i_10 < (↑ss.length : Int))))) (σ' := ⟨[(6, .own 24 0), (25, .sl (List.map c22 ss)), (26, .i .i64 ((↑ss.length : Int))), (27, .i .i64 (i_10)), (28, .b (decide (i_10 < (↑ss.length : Int))))], [(24, ⟨0, 28, .row 4 (List.map c28 l_11)⟩)]⟩) cx [(0, { tell := some (.b (decide (i_10 < (↑ss.length : Int)))) })] [6, 25, 26, 27, 28] [24] (by kernel_rfl) (by kernel_rfl) (by kernel_rfl) ?_
    refine q_seq_normal ?_
    refine st_seq (by kernel_rfl) ?_
    refine st_dec (i_10 < (↑ss.length : Int)) (by kernel_rfl) (by kernel_rfl) (fun h_16 => ?_) (fun h_16 => ?_)
    ·
      refine st_skip (by kernel_rfl) ?_
      refine q_seq_normal ?_
      refine st_seq (by kernel_rfl) ?_
      refine st_block 3 (by kernel_rfl) ?_
      refine st_seq (by kernel_rfl) ?_
      refine st_reg (A := ((0 : Int) ≤ i_10) ∧ ((List.map c22 ss)[i_10.toNat]? = some (c22 ss[i_10.toNat]!)) ∧ ((c22 ss[i_10.toNat]!).length = (1 : Nat))) (σ' := ⟨[(6, .own 24 0), (25, .sl (List.map c22 ss)), (26, .i .i64 ((↑ss.length : Int))), (27, .i .i64 (i_10)), (8, .sl (List.map c28 ss[i_10.toNat]!))], [(24, ⟨0, 28, .row 4 (List.map c28 l_11)⟩)]⟩) cx [(0, { row := (c22 ss[i_10.toNat]!) })] [6, 25, 26, 27, 8] [24] (by kernel_rfl) (by kernel_rfl) ⟨(by (with_reducible assumption)), (by (with_reducible refine get_map ?_; omega)), (by kernel_rfl)⟩ ?_
      refine q_seq_normal ?_
      refine st_reg (A := (28 = (28 : Nat)) ∧ ((4 : Nat) = 4) ∧ ([AV.i IntKind.i64 (0 : Int), AV.i IntKind.i64 (0 : Int), AV.s { data := #[] : ByteArray }, AV.i IntKind.i64 (0 : Int)].length = (4 : Nat)) ∧ (∀ (r : List AV), r ∈ List.map c28 ss[i_10.toNat]! → r.length = 4) ∧ ((List.map c28 l_11).length + (List.map c28 ss[i_10.toNat]!).length ≤ maxLen) ∧ (((List.map c28 l_11).length + (List.map c28 ss[i_10.toNat]!).length) * (40 : Nat) ≤ (140737488355328 : Nat)) ∧ (List.map c28 l_11 ++ List.map c28 ss[i_10.toNat]! = List.map c28 (l_11 ++ ss[i_10.toNat]!))) (σ' := ⟨[(6, .own 24 0), (25, .sl (List.map c22 ss)), (26, .i .i64 ((↑ss.length : Int))), (27, .i .i64 (i_10))], [(24, ⟨0, 28, .row 4 (List.map c28 (l_11 ++ ss[i_10.toNat]!))⟩)]⟩) cx [(2, { rows := some (List.map c28 (l_11 ++ ss[i_10.toNat]!)) })] [6, 25, 26, 27] [24] (by kernel_rfl) (by kernel_rfl) ⟨(by kernel_rfl), (by kernel_rfl), (by kernel_rfl), (by (with_reducible refine len_map (fun _ => ?_) _; kernel_rfl)), (g5 n_0 i_1 h_3 h_4 h_5 h_6 h_7 h_8 i_10 l_11 h_13 h_14 h_15 h_16), (g6 n_0 i_1 h_3 h_4 h_5 h_6 h_7 h_8 i_10 l_11 h_13 h_14 h_15 h_16), (by (with_reducible refine app_map ?_; kernel_rfl))⟩ ?_
      refine q_blk_normal ?_
      refine q_seq_normal ?_
      refine st_reg (A := (AV.i IntKind.i64 (IntKind.i64.wrap (i_10 + (1 : Int))) = AV.i IntKind.i64 (i_10 + (1 : Int)))) (σ' := ⟨[(6, .own 24 0), (25, .sl (List.map c22 ss)), (26, .i .i64 ((↑ss.length : Int))), (27, .i .i64 (i_10 + (1 : Int)))], [(24, ⟨0, 28, .row 4 (List.map c28 (l_11 ++ ss[i_10.toNat]!))⟩)]⟩) cx [(0, { tell := some (.i .i64 (i_10 + (1 : Int))) })] [6, 25, 26, 27] [24] (by kernel_rfl) (by kernel_rfl) (told_i64 (by omega) (by omega)) ?_
      refine q_seq_normal ?_
      exact loop_next ((i_10 + (1 : Int), l_11 ++ ss[i_10.toNat]!)) (by kernel_rfl) (show ((↑ss.length : Int) - (i_10 + (1 : Int))).toNat < ((↑ss.length : Int) - i_10).toNat from (by omega)) (g7 n_0 i_1 h_3 h_4 h_5 h_6 h_7 h_8 i_10 l_11 h_13 h_14 h_15 h_16)
    ·
      refine st_exit 2 (by kernel_rfl) ?_
      refine q_seq_exit ?_
      refine q_seq_exit ?_
      refine q_blk_hit ?_
      refine q_seq_normal ?_
      refine st_seq (by kernel_rfl) ?_
      refine st_reg (A := True) (σ' := ⟨[(2, .own 24 0)], [(24, ⟨0, 28, .row 4 (List.map c28 l_11)⟩)]⟩) cx [] [2] [24] (by kernel_rfl) (by kernel_rfl) trivial ?_
      refine q_seq_normal ?_
      refine st_ret (by kernel_rfl) ?_
      exact qb_own (rows' := (List.map c28 l_11)) .ret (.inr rfl) 2 24 0 (by kernel_rfl) (by kernel_rfl) (by kernel_rfl) (g8 n_0 i_1 h_3 h_4 h_5 h_6 h_7 h_8 i_10 l_11 h_13 h_14 h_15 h_16)
theorem con59 (ss : List (List Entry)) (hb : ss.flatten.length * 40 ≤ 140737488351232) : ConB Try.prog 59 [.sl (ss.map c22)] 28 (.row 4 (ss.flatten.map c28)) :=
  by
  apply walk59 ss hb
  case g0 => exact inv59a_init ss
  case g1 => intro n i h0 h1 h2 h3 h4 h5; have := cat_len hb h0 h5 h4; omega
  case g2 => intro n i h0 h1 h2 h3 h4 h5 h6; exact inv59a_step hb h0 h5 h2 h4
  case g3 => intro n i h0 h1 h2 h3 h4 h5; exact cat_end hb h4
  case g4 => intros; exact ⟨by omega, by omega, by simp [isCat]⟩
  case g5 => intro n i h0 h1 h2 h3 h4 h5 j l k0 k1 k2 k3; have := cat_app hb k0 k3 k2; simp only [List.length_map, Go.maxLen]; omega
  case g6 => intro n i h0 h1 h2 h3 h4 h5 j l k0 k1 k2 k3; have := cat_app hb k0 k3 k2; simp only [List.length_map]; omega
  case g7 => intro n i h0 h1 h2 h3 h4 h5 j l k0 k1 k2 k3; exact inv59b_step k0 k3 k2
  case g8 => intro n i h0 h1 h2 h3 h4 h5 j l k0 k1 k2 k3; rw [isCat_end k3 k2]
theorem ent_ok {e : Entry} (h : entE e = 0) : 0 ≤ e.dot.rep ∧ e.dot.rep < 16 ∧ 1 ≤ e.dot.num ∧ e.dot.num ≤ 1000000000 := by
  unfold entE at h
  split at h
  · cases h
  · split at h
    · cases h
    · omega
theorem okL_at {es : List Entry} (h : okL es = true) {i : Nat} (hi : i < es.length) : entE es[i]! = 0 ∧ (i = 0 ∨ dLt es[i - 1]!.dot es[i]!.dot = true) := (okAt_iff _ _).1 ((allUp_iff _ _).1 h i hi)
theorem okL_key {es : List Entry} (h : okL es = true) : ∀ i : Nat, i < es.length → (i : Int) + 1 ≤ es[i]!.dot.rep * 1000000000 + es[i]!.dot.num
  | 0, hi => by have := ent_ok (okL_at h hi).1; omega
  | i + 1, hi => by
    have h1 := okL_key h i (by omega)
    have h2 := ent_ok (okL_at h hi).1
    have h3 := ent_ok (okL_at h (show i < es.length by omega)).1
    have h4 := (okL_at h hi).2
    rcases h4 with h4 | h4
    · omega
    · simp only [Nat.add_sub_cancel, dLt, decide_eq_true_eq] at h4
      omega
/-- A list in form is no longer than there are dots. -/
theorem okL_len {es : List Entry} (h : okL es = true) : es.length ≤ 16000000000 := by
  by_cases h0 : es.length = 0
  · omega
  · have h1 := okL_key h (es.length - 1) (by omega)
    have h2 := ent_ok (okL_at h (show es.length - 1 < es.length by omega)).1
    omega
theorem lst_ok {es : List Entry} (h : lstE es = 0) : okL es = true := by
  unfold lstE at h
  split at h
  · assumption
  · cases h
theorem lst_no {es : List Entry} (h : ¬ lstE es = 0) : ¬ okL es = true := fun k => h (by unfold lstE; rw [if_pos k])
def unionR (a b : List Entry) : List Entry × Int := if okL a = true ∧ okL b = true then onceR (srtE (a ++ b)) else ([], 1)
theorem union_no {a b : List Entry} (h : ¬ lstE a = 0 ∨ ¬ lstE b = 0) : unionR a b = ([], 1) := by
  unfold unionR
  rw [if_neg]
  rintro ⟨h1, h2⟩
  exact h.elim (fun k => lst_no k h1) (fun k => lst_no k h2)
theorem union_ok {a b : List Entry} (h1 : lstE a = 0) (h2 : lstE b = 0) : unionR a b = onceR (srtE (a ++ b)) := by
  unfold unionR
  rw [if_pos ⟨lst_ok h1, lst_ok h2⟩]
theorem union_sort {a b : List Entry} (h1 : lstE a = 0) (h2 : lstE b = 0) : sortR (a ++ b) = unionR a b := by
  rw [union_ok h1 h2]
  refine sortR_ok fun j hj => ?_
  by_cases h : j < a.length
  · have : (a ++ b)[j]! = a[j]! := by rw [getElem!_pos (a ++ b) j hj, getElem!_pos a j h, List.getElem_append_left h]
    rw [this]
    exact (okL_at (lst_ok h1) h).1
  · rw [List.length_append] at hj
    have : (a ++ b)[j]! = b[j - a.length]! := by rw [getElem!_pos (a ++ b) j (by rw [List.length_append]; omega), getElem!_pos b (j - a.length) (by omega), List.getElem_append_right (by omega)]
    rw [this]
    exact (okL_at (lst_ok h2) (by omega)).1
theorem two_len {a b : List Entry} (h1 : lstE a = 0) (h2 : lstE b = 0) : a.length ≤ 16000000000 ∧ b.length ≤ 16000000000 := ⟨okL_len (lst_ok h1), okL_len (lst_ok h2)⟩
theorem two_flat (a b : List Entry) : [a, b].flatten = a ++ b := by simp
theorem both_ok {a b : List Entry} (h : ¬ (¬ lstE a = 0 ∨ ¬ lstE b = 0)) : lstE a = 0 ∧ lstE b = 0 := ⟨Classical.not_not.1 fun k => h (.inl k), Classical.not_not.1 fun k => h (.inr k)⟩
theorem both_len {a b : List Entry} (h : ¬ (¬ lstE a = 0 ∨ ¬ lstE b = 0)) : a.length ≤ 16000000000 ∧ b.length ≤ 16000000000 := two_len (both_ok h).1 (both_ok h).2
theorem both_flat {a b : List Entry} (h : ¬ (¬ lstE a = 0 ∨ ¬ lstE b = 0)) : [a, b].flatten.length * 40 ≤ 140737488351232 := by
  have := both_len h
  rw [two_flat, List.length_append]
  omega
def isSuf0 (a b : List Entry) (i : Int) (l : List Entry) : Prop := l = a ++ b.take i.toNat
theorem isSuf_step {a b l : List Entry} {i : Int} (h0 : 0 ≤ i) (h : i < b.length) (hs : isSuf0 a b i l) : isSuf0 a b (i + 1) (l ++ [b[i.toNat]!]) := by
  unfold isSuf0 at *
  rw [← take_step h0 h, hs, List.append_assoc]
theorem isSuf_end {a b l : List Entry} {i : Int} (h : ¬ i < b.length) (hs : isSuf0 a b i l) : l = a ++ b := by
  unfold isSuf0 at hs
  rw [hs, List.take_of_length_le (by omega)]
theorem bot_union {a b l : List Entry} {i : Int} (hu : ¬ (¬ lstE a = 0 ∨ ¬ lstE b = 0)) (h : ¬ i < b.length) (hs : isSuf0 a b i l) : onceR (botS (leM 0) 1 l) = unionR a b := by
  rw [bot_once, isSuf_end h hs, union_ok (both_ok hu).1 (both_ok hu).2]
theorem union_some : unionR (someL.take 1) (someL.drop 1) = (someL, 0) := by
  have h1 : onceR (srtE (someL.take 1 ++ someL.drop 1)) = onceR someL := onceR_perm ((List.mergeSort_perm _ _).trans (by decide +kernel)) (srtE_rises _) (by unfold risesE; decide +kernel)
  rw [union_ok (by decide +kernel) (by decide +kernel), h1]
  decide +kernel
def inv30a (a : List Entry) (i : Int) (l : List Entry) : Prop := 0 ≤ i ∧ i ≤ a.length ∧ (l.length : Int) = i ∧ isPre a i l
def dec30a (a : List Entry) (i : Int) (l : List Entry) : Nat := (a.length - i).toNat
def inv30b (a b : List Entry) (i : Int) (l : List Entry) : Prop := 0 ≤ i ∧ i ≤ b.length ∧ (l.length : Int) = a.length + i ∧ isSuf0 a b i l
def dec30b (b : List Entry) (i : Int) (l : List Entry) : Nat := (b.length - i).toNat
theorem walk29 (a : List Entry) (b : List Entry)
    (g0 : ¬lstE a = (0 : Int) ∨ ¬lstE b = (0 : Int) → AV.i IntKind.i64 (1 : Int) = AV.i IntKind.i64 (unionR a b).snd)
    (g1 : ¬lstE a = (0 : Int) ∨ ¬lstE b = (0 : Int) → List.map c28 (unionR a b).fst = [])
    (g2 : ¬(¬lstE a = (0 : Int) ∨ ¬lstE b = (0 : Int)) → [a, b].flatten.length * (40 : Nat) ≤ (140737488351232 : Nat))
    (g3 : ¬(¬lstE a = (0 : Int) ∨ ¬lstE b = (0 : Int)) → [a, b].flatten.length * (40 : Nat) ≤ (140737488351232 : Nat))
    (g4 : ¬(¬lstE a = (0 : Int) ∨ ¬lstE b = (0 : Int)) → AV.i IntKind.i64 (sortR [a, b].flatten).snd = AV.i IntKind.i64 (unionR a b).snd)
    (g5 : ¬(¬lstE a = (0 : Int) ∨ ¬lstE b = (0 : Int)) → AV.sl (List.map c28 (sortR [a, b].flatten).fst) = AV.sl (List.map c28 (unionR a b).fst)) :
    Con Try.prog (29 : FuncId) [AV.sl (List.map c28 a), AV.sl (List.map c28 b)] (AV.tup [AV.sl (List.map c28 (unionR a b).fst), AV.i IntKind.i64 (unionR a b).snd]) := by
  refine con_lens 0 (c28) (a) (by kernel_rfl) Go.Proofs.Try.func29 (by kernel_rfl) fun hl_0 => ?_
  refine con_lens 1 (c28) (b) (by kernel_rfl) Go.Proofs.Try.func29 (by kernel_rfl) fun hl_1 => ?_
  refine st_con tab_ok (by kernel_rfl) [.tmp 4, .tmp 5] 21 Go.Proofs.Try.func29 (by kernel_rfl) (by kernel_rfl) ?_
  intro e0 cx
  refine st_seq (by kernel_rfl) ?_
  refine st_reg (A := True) (σ' := ⟨[(0, .sl (List.map c28 a)), (1, .sl (List.map c28 b))], []⟩) cx [] [0, 1] [] (by kernel_rfl) (by kernel_rfl) trivial ?_
  refine q_seq_normal ?_
  refine st_seq (by kernel_rfl) ?_
  refine st_seq (by kernel_rfl) ?_
  refine st_join (σ' := ⟨[(0, .sl (List.map c28 a)), (1, .sl (List.map c28 b)), (13, .b (decide (¬lstE a = (0 : Int) ∨ ¬lstE b = (0 : Int))))], []⟩) ?_ ?_
  ·
    refine st_split (¬lstE a = (0 : Int)) (fun h_1 => ?_) (fun h_1 => ?_)
    ·
      refine st_reg (A := (Con Try.prog (16 : FuncId) [AV.sl (List.map c28 a)] (AV.i IntKind.i64 (lstE a))) ∧ (AV.b (lstE a != (0 : Int)) = AV.b true) ∧ (AV.b true = AV.b (decide (¬lstE a = (0 : Int) ∨ ¬lstE b = (0 : Int))))) (σ' := ⟨[(0, .sl (List.map c28 a)), (1, .sl (List.map c28 b)), (13, .b (decide (¬lstE a = (0 : Int) ∨ ¬lstE b = (0 : Int))))], []⟩) cx [(1, { val := some (.i .i64 (lstE a)) }), (2, { tell := some (.b (true)) }), (7, { tell := some (.b (decide (¬lstE a = (0 : Int) ∨ ¬lstE b = (0 : Int)))) })] [0, 1, 13] [] (by kernel_rfl) (by kernel_rfl) ⟨(con16 (a)), (told_neqt h_1), (by simp only [eq_false h_1, told_simp1, told_simp2, and_true, true_and, and_false, false_and, or_true, true_or, or_false, false_or, not_true_eq_false, not_false_eq_true, decide_true, decide_false, Bool.decide_eq_true])⟩ ?_
      exact ⟨rfl, rfl⟩
    ·
      refine st_reg (A := (Con Try.prog (16 : FuncId) [AV.sl (List.map c28 a)] (AV.i IntKind.i64 (lstE a))) ∧ (AV.b (lstE a != (0 : Int)) = AV.b (decide ¬lstE a = (0 : Int))) ∧ (AV.b (decide ¬lstE a = (0 : Int)) = AV.b false) ∧ (Con Try.prog (16 : FuncId) [AV.sl (List.map c28 b)] (AV.i IntKind.i64 (lstE b))) ∧ (AV.b (lstE b != (0 : Int)) = AV.b (decide ¬lstE b = (0 : Int))) ∧ (AV.b (decide ¬lstE b = (0 : Int)) = AV.b (decide (¬lstE a = (0 : Int) ∨ ¬lstE b = (0 : Int))))) (σ' := ⟨[(0, .sl (List.map c28 a)), (1, .sl (List.map c28 b)), (13, .b (decide (¬lstE a = (0 : Int) ∨ ¬lstE b = (0 : Int))))], []⟩) cx [(1, { val := some (.i .i64 (lstE a)) }), (2, { tell := some (.b (decide ¬lstE a = (0 : Int))) }), (3, { tell := some (.b (false)) }), (5, { val := some (.i .i64 (lstE b)) }), (6, { tell := some (.b (decide ¬lstE b = (0 : Int))) }), (7, { tell := some (.b (decide (¬lstE a = (0 : Int) ∨ ¬lstE b = (0 : Int)))) })] [0, 1, 13] [] (by kernel_rfl) (by kernel_rfl) ⟨(con16 (a)), (told_neq), (told_false h_1), (con16 (b)), (told_neq), (by simp only [eq_false h_1, told_simp1, told_simp2, and_true, true_and, and_false, false_and, or_true, true_or, or_false, false_or, not_true_eq_false, not_false_eq_true, decide_true, decide_false, Bool.decide_eq_true])⟩ ?_
      exact ⟨rfl, rfl⟩
  ·
    refine q_seq_normal ?_
    refine st_dec (¬lstE a = (0 : Int) ∨ ¬lstE b = (0 : Int)) (by kernel_rfl) (by kernel_rfl) (fun h_2 => ?_) (fun h_2 => ?_)
    ·
      refine st_seq (by kernel_rfl) ?_
      refine st_reg (A := True) (σ' := ⟨[(4, .nl), (5, .i .i64 ((1 : Int)))], []⟩) cx [] [4, 5] [] (by kernel_rfl) (by kernel_rfl) trivial ?_
      refine q_seq_normal ?_
      refine st_ret (by kernel_rfl) ?_
      refine q_seq_ret ?_
      exact q_ret (r := .tup [.nl, .i .i64 ((1 : Int))]) (obl := []) (by kernel_rfl) trivial (AVle.tup (ZLe.cons (AVle.nl' (g1 h_2)) (ZLe.cons (AVle.eq (g0 h_2)) ZLe.nil)))
    ·
      refine st_skip (by kernel_rfl) ?_
      refine q_seq_normal ?_
      refine st_seq (by kernel_rfl) ?_
      have hl_3 := (rng_sortR [a, b].flatten)
      refine st_reg (A := (ConB Try.prog (59 : FuncId) [AV.sl (List.map c22 [a, b])] (28 : Nat) (BK.row (4 : Nat) (List.map c28 [a, b].flatten))) ∧ (Con Try.prog (25 : FuncId) [AV.sl (List.map c28 [a, b].flatten)] (AV.tup [AV.sl (List.map c28 (sortR [a, b].flatten).fst), AV.i IntKind.i64 (sortR [a, b].flatten).snd]))) (σ' := ⟨[(4, .sl (List.map c28 (sortR [a, b].flatten).fst)), (5, .i .i64 ((sortR [a, b].flatten).snd))], []⟩) cx [(3, { val := some (.own (28 : Nat) (4 : Nat)), rows := some (List.map c28 [a, b].flatten) }), (4, { val := some (.tup [.sl (List.map c28 (sortR [a, b].flatten).fst), .i .i64 ((sortR [a, b].flatten).snd)]) })] [4, 5] [] (by kernel_rfl) (by kernel_rfl) ⟨(con59 ([a, b]) (g2 h_2)), (con25 ([a, b].flatten) (g3 h_2))⟩ ?_
      refine q_seq_normal ?_
      refine st_ret (by kernel_rfl) ?_
      exact q_ret (r := .tup [.sl (List.map c28 (sortR [a, b].flatten).fst), .i .i64 ((sortR [a, b].flatten).snd)]) (obl := []) (by kernel_rfl) trivial (AVle.tup (ZLe.cons (AVle.eq (g5 h_2)) (ZLe.cons (AVle.eq (g4 h_2)) ZLe.nil)))
theorem con29 (a b : List Entry) : Con Try.prog 29 [.sl (a.map c28), .sl (b.map c28)] (.tup [.sl ((unionR a b).1.map c28), .i .i64 (unionR a b).2]) :=
  walk29 a b (fun h => by rw [union_no h]) (fun h => by rw [union_no h]; rfl) (fun h => both_flat h) (fun h => both_flat h) (fun h => by rw [two_flat, union_sort (both_ok h).1 (both_ok h).2]) (fun h => by rw [two_flat, union_sort (both_ok h).1 (both_ok h).2])
theorem walk30 (a : List Entry) (b : List Entry)
    (g0 : ¬lstE a = (0 : Int) ∨ ¬lstE b = (0 : Int) → AV.i IntKind.i64 (1 : Int) = AV.i IntKind.i64 (unionR a b).snd)
    (g1 : ¬lstE a = (0 : Int) ∨ ¬lstE b = (0 : Int) → List.map c28 (unionR a b).fst = [])
    (g2 : ¬(¬lstE a = (0 : Int) ∨ ¬lstE b = (0 : Int)) → inv30a a (0 : Int) [])
    (g3 : ¬(¬lstE a = (0 : Int) ∨ ¬lstE b = (0 : Int)) → ∀ (i_3 : Int) (l_4 : List Entry), (0 : Int) ≤ i_3 → i_3 ≤ (↑a.length : Int) → (↑l_4.length : Int) = i_3 → isPre a i_3 l_4 → i_3 < (↑a.length : Int) → ((List.map c28 l_4).length + (List.map c28 [a[i_3.toNat]!]).length) * (40 : Nat) ≤ (140737488355328 : Nat))
    (g4 : ¬(¬lstE a = (0 : Int) ∨ ¬lstE b = (0 : Int)) → ∀ (i_3 : Int) (l_4 : List Entry), (0 : Int) ≤ i_3 → i_3 ≤ (↑a.length : Int) → (↑l_4.length : Int) = i_3 → isPre a i_3 l_4 → i_3 < (↑a.length : Int) → inv30a a (i_3 + (1 : Int)) (l_4 ++ [a[i_3.toNat]!]))
    (g5 : ¬(¬lstE a = (0 : Int) ∨ ¬lstE b = (0 : Int)) → ∀ (i_3 : Int) (l_4 : List Entry), (0 : Int) ≤ i_3 → i_3 ≤ (↑a.length : Int) → (↑l_4.length : Int) = i_3 → isPre a i_3 l_4 → ¬i_3 < (↑a.length : Int) → inv30b a b (0 : Int) l_4)
    (g6 : ¬(¬lstE a = (0 : Int) ∨ ¬lstE b = (0 : Int)) → ∀ (i_3 : Int) (l_4 : List Entry), (0 : Int) ≤ i_3 → i_3 ≤ (↑a.length : Int) → (↑l_4.length : Int) = i_3 → isPre a i_3 l_4 → ¬i_3 < (↑a.length : Int) → ∀ (i_11 : Int) (l_12 : List Entry), (0 : Int) ≤ i_11 → i_11 ≤ (↑b.length : Int) → (↑l_12.length : Int) = (↑a.length : Int) + i_11 → isSuf0 a b i_11 l_12 → i_11 < (↑b.length : Int) → (List.map c28 l_12).length + (List.map c28 [b[i_11.toNat]!]).length ≤ maxLen)
    (g7 : ¬(¬lstE a = (0 : Int) ∨ ¬lstE b = (0 : Int)) → ∀ (i_3 : Int) (l_4 : List Entry), (0 : Int) ≤ i_3 → i_3 ≤ (↑a.length : Int) → (↑l_4.length : Int) = i_3 → isPre a i_3 l_4 → ¬i_3 < (↑a.length : Int) → ∀ (i_11 : Int) (l_12 : List Entry), (0 : Int) ≤ i_11 → i_11 ≤ (↑b.length : Int) → (↑l_12.length : Int) = (↑a.length : Int) + i_11 → isSuf0 a b i_11 l_12 → i_11 < (↑b.length : Int) → ((List.map c28 l_12).length + (List.map c28 [b[i_11.toNat]!]).length) * (40 : Nat) ≤ (140737488355328 : Nat))
    (g8 : ¬(¬lstE a = (0 : Int) ∨ ¬lstE b = (0 : Int)) → ∀ (i_3 : Int) (l_4 : List Entry), (0 : Int) ≤ i_3 → i_3 ≤ (↑a.length : Int) → (↑l_4.length : Int) = i_3 → isPre a i_3 l_4 → ¬i_3 < (↑a.length : Int) → ∀ (i_11 : Int) (l_12 : List Entry), (0 : Int) ≤ i_11 → i_11 ≤ (↑b.length : Int) → (↑l_12.length : Int) = (↑a.length : Int) + i_11 → isSuf0 a b i_11 l_12 → i_11 < (↑b.length : Int) → inv30b a b (i_11 + (1 : Int)) (l_12 ++ [b[i_11.toNat]!]))
    (g9 : ¬(¬lstE a = (0 : Int) ∨ ¬lstE b = (0 : Int)) → ∀ (i_3 : Int) (l_4 : List Entry), (0 : Int) ≤ i_3 → i_3 ≤ (↑a.length : Int) → (↑l_4.length : Int) = i_3 → isPre a i_3 l_4 → ¬i_3 < (↑a.length : Int) → ∀ (i_11 : Int) (l_12 : List Entry), (0 : Int) ≤ i_11 → i_11 ≤ (↑b.length : Int) → (↑l_12.length : Int) = (↑a.length : Int) + i_11 → isSuf0 a b i_11 l_12 → ¬i_11 < (↑b.length : Int) → l_12.length * (40 : Nat) ≤ (140737488351232 : Nat))
    (g10 : ¬(¬lstE a = (0 : Int) ∨ ¬lstE b = (0 : Int)) → ∀ (i_3 : Int) (l_4 : List Entry), (0 : Int) ≤ i_3 → i_3 ≤ (↑a.length : Int) → (↑l_4.length : Int) = i_3 → isPre a i_3 l_4 → ¬i_3 < (↑a.length : Int) → ∀ (i_11 : Int) (l_12 : List Entry), (0 : Int) ≤ i_11 → i_11 ≤ (↑b.length : Int) → (↑l_12.length : Int) = (↑a.length : Int) + i_11 → isSuf0 a b i_11 l_12 → ¬i_11 < (↑b.length : Int) → (botS (leM (0 : Int)) (1 : Nat) l_12).length * (40 : Nat) ≤ (140737488351232 : Nat))
    (g11 : ¬(¬lstE a = (0 : Int) ∨ ¬lstE b = (0 : Int)) → ∀ (i_3 : Int) (l_4 : List Entry), (0 : Int) ≤ i_3 → i_3 ≤ (↑a.length : Int) → (↑l_4.length : Int) = i_3 → isPre a i_3 l_4 → ¬i_3 < (↑a.length : Int) → ∀ (i_11 : Int) (l_12 : List Entry), (0 : Int) ≤ i_11 → i_11 ≤ (↑b.length : Int) → (↑l_12.length : Int) = (↑a.length : Int) + i_11 → isSuf0 a b i_11 l_12 → ¬i_11 < (↑b.length : Int) → AV.i IntKind.i64 (onceR (botS (leM (0 : Int)) (1 : Nat) l_12)).snd = AV.i IntKind.i64 (unionR a b).snd)
    (g12 : ¬(¬lstE a = (0 : Int) ∨ ¬lstE b = (0 : Int)) → ∀ (i_3 : Int) (l_4 : List Entry), (0 : Int) ≤ i_3 → i_3 ≤ (↑a.length : Int) → (↑l_4.length : Int) = i_3 → isPre a i_3 l_4 → ¬i_3 < (↑a.length : Int) → ∀ (i_11 : Int) (l_12 : List Entry), (0 : Int) ≤ i_11 → i_11 ≤ (↑b.length : Int) → (↑l_12.length : Int) = (↑a.length : Int) + i_11 → isSuf0 a b i_11 l_12 → ¬i_11 < (↑b.length : Int) → AV.sl (List.map c28 (onceR (botS (leM (0 : Int)) (1 : Nat) l_12)).fst) = AV.sl (List.map c28 (unionR a b).fst)) :
    Con Try.prog (30 : FuncId) [AV.sl (List.map c28 a), AV.sl (List.map c28 b)] (AV.tup [AV.sl (List.map c28 (unionR a b).fst), AV.i IntKind.i64 (unionR a b).snd]) := by
  refine con_lens 0 (c28) (a) (by kernel_rfl) Go.Proofs.Try.func30 (by kernel_rfl) fun hl_0 => ?_
  refine con_lens 1 (c28) (b) (by kernel_rfl) Go.Proofs.Try.func30 (by kernel_rfl) fun hl_1 => ?_
  refine st_con tab_ok (by kernel_rfl) [.tmp 4, .tmp 5] 48 Go.Proofs.Try.func30 (by kernel_rfl) (by kernel_rfl) ?_
  intro e0 cx
  refine st_seq (by kernel_rfl) ?_
  refine st_reg (A := True) (σ' := ⟨[(0, .sl (List.map c28 a)), (1, .sl (List.map c28 b))], []⟩) cx [] [0, 1] [] (by kernel_rfl) (by kernel_rfl) trivial ?_
  refine q_seq_normal ?_
  refine st_seq (by kernel_rfl) ?_
  refine st_seq (by kernel_rfl) ?_
  refine st_join (σ' := ⟨[(0, .sl (List.map c28 a)), (1, .sl (List.map c28 b)), (16, .b (decide (¬lstE a = (0 : Int) ∨ ¬lstE b = (0 : Int))))], []⟩) ?_ ?_
  ·
    refine st_split (¬lstE a = (0 : Int)) (fun h_1 => ?_) (fun h_1 => ?_)
    ·
      refine st_reg (A := (Con Try.prog (18 : FuncId) [AV.sl (List.map c28 a)] (AV.i IntKind.i64 (lstE a))) ∧ (AV.b (lstE a != (0 : Int)) = AV.b true) ∧ (AV.b true = AV.b (decide (¬lstE a = (0 : Int) ∨ ¬lstE b = (0 : Int))))) (σ' := ⟨[(0, .sl (List.map c28 a)), (1, .sl (List.map c28 b)), (16, .b (decide (¬lstE a = (0 : Int) ∨ ¬lstE b = (0 : Int))))], []⟩) cx [(1, { val := some (.i .i64 (lstE a)) }), (2, { tell := some (.b (true)) }), (7, { tell := some (.b (decide (¬lstE a = (0 : Int) ∨ ¬lstE b = (0 : Int)))) })] [0, 1, 16] [] (by kernel_rfl) (by kernel_rfl) ⟨(con18 (a)), (told_neqt h_1), (by simp only [eq_false h_1, told_simp1, told_simp2, and_true, true_and, and_false, false_and, or_true, true_or, or_false, false_or, not_true_eq_false, not_false_eq_true, decide_true, decide_false, Bool.decide_eq_true])⟩ ?_
      exact ⟨rfl, rfl⟩
    ·
      refine st_reg (A := (Con Try.prog (18 : FuncId) [AV.sl (List.map c28 a)] (AV.i IntKind.i64 (lstE a))) ∧ (AV.b (lstE a != (0 : Int)) = AV.b (decide ¬lstE a = (0 : Int))) ∧ (AV.b (decide ¬lstE a = (0 : Int)) = AV.b false) ∧ (Con Try.prog (18 : FuncId) [AV.sl (List.map c28 b)] (AV.i IntKind.i64 (lstE b))) ∧ (AV.b (lstE b != (0 : Int)) = AV.b (decide ¬lstE b = (0 : Int))) ∧ (AV.b (decide ¬lstE b = (0 : Int)) = AV.b (decide (¬lstE a = (0 : Int) ∨ ¬lstE b = (0 : Int))))) (σ' := ⟨[(0, .sl (List.map c28 a)), (1, .sl (List.map c28 b)), (16, .b (decide (¬lstE a = (0 : Int) ∨ ¬lstE b = (0 : Int))))], []⟩) cx [(1, { val := some (.i .i64 (lstE a)) }), (2, { tell := some (.b (decide ¬lstE a = (0 : Int))) }), (3, { tell := some (.b (false)) }), (5, { val := some (.i .i64 (lstE b)) }), (6, { tell := some (.b (decide ¬lstE b = (0 : Int))) }), (7, { tell := some (.b (decide (¬lstE a = (0 : Int) ∨ ¬lstE b = (0 : Int)))) })] [0, 1, 16] [] (by kernel_rfl) (by kernel_rfl) ⟨(con18 (a)), (told_neq), (told_false h_1), (con18 (b)), (told_neq), (by simp only [eq_false h_1, told_simp1, told_simp2, and_true, true_and, and_false, false_and, or_true, true_or, or_false, false_or, not_true_eq_false, not_false_eq_true, decide_true, decide_false, Bool.decide_eq_true])⟩ ?_
      exact ⟨rfl, rfl⟩
  ·
    refine q_seq_normal ?_
    refine st_dec (¬lstE a = (0 : Int) ∨ ¬lstE b = (0 : Int)) (by kernel_rfl) (by kernel_rfl) (fun h_2 => ?_) (fun h_2 => ?_)
    ·
      refine st_seq (by kernel_rfl) ?_
      refine st_reg (A := True) (σ' := ⟨[(4, .nl), (5, .i .i64 ((1 : Int)))], []⟩) cx [] [4, 5] [] (by kernel_rfl) (by kernel_rfl) trivial ?_
      refine q_seq_normal ?_
      refine st_ret (by kernel_rfl) ?_
      refine q_seq_ret ?_
      exact q_ret (r := .tup [.nl, .i .i64 ((1 : Int))]) (obl := []) (by kernel_rfl) trivial (AVle.tup (ZLe.cons (AVle.nl' (g1 h_2)) (ZLe.cons (AVle.eq (g0 h_2)) ZLe.nil)))
    ·
      refine st_skip (by kernel_rfl) ?_
      refine q_seq_normal ?_
      refine st_seq (by kernel_rfl) ?_
      refine st_reg (A := True) (σ' := ⟨[(0, .sl (List.map c28 a)), (1, .sl (List.map c28 b)), (6, .nl)], []⟩) cx [] [0, 1, 6] [] (by kernel_rfl) (by kernel_rfl) trivial ?_
      refine q_seq_normal ?_
      refine st_seq (by kernel_rfl) ?_
      refine st_seq (by kernel_rfl) ?_
      refine st_reg (A := True) (σ' := ⟨[(0, .sl (List.map c28 a)), (1, .sl (List.map c28 b)), (6, .nl), (7, .i .i64 ((0 : Int)))], []⟩) cx [] [0, 1, 6, 7] [] (by kernel_rfl) (by kernel_rfl) trivial ?_
      refine q_seq_normal ?_
      refine st_block 0 (by kernel_rfl) ?_
      refine awp_adopt 6 1006 28 4 (σ' := ⟨[(0, .sl (List.map c28 a)), (1, .sl (List.map c28 b)), (6, .own 1006 0), (7, .i .i64 ((0 : Int)))], [(1006, ⟨0, 28, .row 4 (List.map c28 [])⟩)]⟩) (by kernel_rfl) ?_
      refine st_loop (X := Int × List Entry) (fun x => ⟨[(0, .sl (List.map c28 a)), (1, .sl (List.map c28 b)), (6, .own 1006 0), (7, .i .i64 (x.fst))], [(1006, ⟨0, 28, .row 4 (List.map c28 x.snd)⟩)]⟩) (fun x ↦ dec30a a x.fst x.snd) (fun x ↦ inv30a a x.fst x.snd) [0, 1, 6, 7] [1006] (((0 : Int), [])) (by kernel_rfl) (by kernel_rfl) (g2 h_2) ?_
      rintro ⟨i_3, l_4⟩ h_5
      obtain ⟨h_6, h_7, h_8, h_9⟩ : (0 : Int) ≤ i_3 ∧ i_3 ≤ (↑a.length : Int) ∧ (↑l_4.length : Int) = i_3 ∧ isPre a i_3 l_4 := h_5
      refine st_seq (by kernel_rfl) ?_
      refine st_seq (by kernel_rfl) ?_
      refine st_reg (A := (AV.i IntKind.i64 (↑(List.map c28 a).length : Int) = AV.i IntKind.i64 (↑a.length : Int)) ∧ (AV.b (decide (i_3 < (↑a.length : Int))) = AV.b (decide (i_3 < (↑a.length : Int))))) (σ' := ⟨[(0, .sl (List.map c28 a)), (1, .sl (List.map c28 b)), (6, .own 1006 0), (7, .i .i64 (i_3)), (20, .b (decide (i_3 < (↑a.length : Int))))], [(1006, ⟨0, 28, .row 4 (List.map c28 l_4)⟩)]⟩) cx [(2, { tell := some (.i .i64 ((↑a.length : Int))) }), (3, { tell := some (.b (decide (i_3 < (↑a.length : Int)))) })] [0, 1, 6, 7, 20] [1006] (by kernel_rfl) (by kernel_rfl) ⟨(told_len c28 a), (by kernel_rfl)⟩ ?_
      refine q_seq_normal ?_
      refine st_dec (i_3 < (↑a.length : Int)) (by kernel_rfl) (by kernel_rfl) (fun h_10 => ?_) (fun h_10 => ?_)
      ·
        refine st_skip (by kernel_rfl) ?_
        refine q_seq_normal ?_
        refine st_seq (by kernel_rfl) ?_
        refine st_block 1 (by kernel_rfl) ?_
        refine st_reg (A := ((0 : Int) ≤ i_3) ∧ ((List.map c28 a)[i_3.toNat]? = some (c28 a[i_3.toNat]!)) ∧ ((c28 a[i_3.toNat]!).length = (4 : Nat)) ∧ ((4 : Nat) ≤ [AV.i IntKind.i64 a[i_3.toNat]!.dot.rep, AV.i IntKind.i64 a[i_3.toNat]!.dot.num, AV.s a[i_3.toNat]!.sku, AV.i IntKind.i64 a[i_3.toNat]!.qty].length) ∧ (28 = (28 : Nat)) ∧ ((4 : Nat) = 4) ∧ ([AV.i IntKind.i64 (0 : Int), AV.i IntKind.i64 (0 : Int), AV.s { data := #[] : ByteArray }, AV.i IntKind.i64 (0 : Int)].length = (4 : Nat)) ∧ (∀ (r : List AV), r ∈ List.map c28 [a[i_3.toNat]!] → r.length = 4) ∧ ((List.map c28 l_4).length + (List.map c28 [a[i_3.toNat]!]).length ≤ maxLen) ∧ (((List.map c28 l_4).length + (List.map c28 [a[i_3.toNat]!]).length) * (40 : Nat) ≤ (140737488355328 : Nat)) ∧ (List.map c28 l_4 ++ List.map c28 [a[i_3.toNat]!] = List.map c28 (l_4 ++ [a[i_3.toNat]!]))) (σ' := ⟨[(0, .sl (List.map c28 a)), (1, .sl (List.map c28 b)), (6, .own 1006 0), (7, .i .i64 (i_3))], [(1006, ⟨0, 28, .row 4 (List.map c28 (l_4 ++ [a[i_3.toNat]!]))⟩)]⟩) cx [(3, { row := (c28 a[i_3.toNat]!) }), (6, { rows := some (List.map c28 (l_4 ++ [a[i_3.toNat]!])) })] [0, 1, 6, 7] [1006] (by kernel_rfl) (by kernel_rfl) ⟨(by (with_reducible assumption)), (by (with_reducible refine get_map ?_; omega)), (by kernel_rfl), (by (simp only [List.length_append, List.length_cons, List.length_nil]; omega)), (by kernel_rfl), (by kernel_rfl), (by kernel_rfl), (by (with_reducible refine len_map (fun _ => ?_) _; kernel_rfl)), (by (simp only [Go.maxLen, List.length_map, List.length_append, List.length_cons, List.length_nil]; omega)), (g3 h_2 i_3 l_4 h_6 h_7 h_8 h_9 h_10), (by (with_reducible refine app_map ?_; kernel_rfl))⟩ ?_
        refine q_blk_normal ?_
        refine q_seq_normal ?_
        refine st_reg (A := (AV.i IntKind.i64 (IntKind.i64.wrap (i_3 + (1 : Int))) = AV.i IntKind.i64 (i_3 + (1 : Int)))) (σ' := ⟨[(0, .sl (List.map c28 a)), (1, .sl (List.map c28 b)), (6, .own 1006 0), (7, .i .i64 (i_3 + (1 : Int)))], [(1006, ⟨0, 28, .row 4 (List.map c28 (l_4 ++ [a[i_3.toNat]!]))⟩)]⟩) cx [(1, { tell := some (.i .i64 (i_3 + (1 : Int))) })] [0, 1, 6, 7] [1006] (by kernel_rfl) (by kernel_rfl) (told_i64 (by omega) (by omega)) ?_
        refine q_seq_normal ?_
        exact loop_next ((i_3 + (1 : Int), l_4 ++ [a[i_3.toNat]!])) (by kernel_rfl) (show ((↑a.length : Int) - (i_3 + (1 : Int))).toNat < ((↑a.length : Int) - i_3).toNat from (by omega)) (g4 h_2 i_3 l_4 h_6 h_7 h_8 h_9 h_10)
      ·
        refine st_exit 0 (by kernel_rfl) ?_
        refine q_seq_exit ?_
        refine q_seq_exit ?_
        refine q_blk_hit ?_
        refine q_seq_normal ?_
        refine st_seq (by kernel_rfl) ?_
        refine st_seq (by kernel_rfl) ?_
        refine st_reg (A := True) (σ' := ⟨[(1, .sl (List.map c28 b)), (6, .own 1006 0), (8, .i .i64 ((0 : Int)))], [(1006, ⟨0, 28, .row 4 (List.map c28 l_4)⟩)]⟩) cx [] [1, 6, 8] [1006] (by kernel_rfl) (by kernel_rfl) trivial ?_
        refine q_seq_normal ?_
        refine st_block 2 (by kernel_rfl) ?_
        refine st_loop (X := Int × List Entry) (fun x => ⟨[(1, .sl (List.map c28 b)), (6, .own 1006 0), (8, .i .i64 (x.fst))], [(1006, ⟨0, 28, .row 4 (List.map c28 x.snd)⟩)]⟩) (fun x ↦ dec30b b x.fst x.snd) (fun x ↦ inv30b a b x.fst x.snd) [1, 6, 8] [1006] (((0 : Int), l_4)) (by kernel_rfl) (by kernel_rfl) (g5 h_2 i_3 l_4 h_6 h_7 h_8 h_9 h_10) ?_
        rintro ⟨i_11, l_12⟩ h_13
        obtain ⟨h_14, h_15, h_16, h_17⟩ : (0 : Int) ≤ i_11 ∧ i_11 ≤ (↑b.length : Int) ∧ (↑l_12.length : Int) = (↑a.length : Int) + i_11 ∧ isSuf0 a b i_11 l_12 := h_13
        refine st_seq (by kernel_rfl) ?_
        refine st_seq (by kernel_rfl) ?_
        refine st_reg (A := (AV.i IntKind.i64 (↑(List.map c28 b).length : Int) = AV.i IntKind.i64 (↑b.length : Int)) ∧ (AV.b (decide (i_11 < (↑b.length : Int))) = AV.b (decide (i_11 < (↑b.length : Int))))) (σ' := ⟨[(1, .sl (List.map c28 b)), (6, .own 1006 0), (8, .i .i64 (i_11)), (33, .b (decide (i_11 < (↑b.length : Int))))], [(1006, ⟨0, 28, .row 4 (List.map c28 l_12)⟩)]⟩) cx [(2, { tell := some (.i .i64 ((↑b.length : Int))) }), (3, { tell := some (.b (decide (i_11 < (↑b.length : Int)))) })] [1, 6, 8, 33] [1006] (by kernel_rfl) (by kernel_rfl) ⟨(told_len c28 b), (by kernel_rfl)⟩ ?_
        refine q_seq_normal ?_
        refine st_dec (i_11 < (↑b.length : Int)) (by kernel_rfl) (by kernel_rfl) (fun h_18 => ?_) (fun h_18 => ?_)
        ·
          refine st_skip (by kernel_rfl) ?_
          refine q_seq_normal ?_
          refine st_seq (by kernel_rfl) ?_
          refine st_block 3 (by kernel_rfl) ?_
          refine st_reg (A := ((0 : Int) ≤ i_11) ∧ ((List.map c28 b)[i_11.toNat]? = some (c28 b[i_11.toNat]!)) ∧ ((c28 b[i_11.toNat]!).length = (4 : Nat)) ∧ ((4 : Nat) ≤ [AV.i IntKind.i64 b[i_11.toNat]!.dot.rep, AV.i IntKind.i64 b[i_11.toNat]!.dot.num, AV.s b[i_11.toNat]!.sku, AV.i IntKind.i64 b[i_11.toNat]!.qty].length) ∧ (28 = (28 : Nat)) ∧ ((4 : Nat) = 4) ∧ ([AV.i IntKind.i64 (0 : Int), AV.i IntKind.i64 (0 : Int), AV.s { data := #[] : ByteArray }, AV.i IntKind.i64 (0 : Int)].length = (4 : Nat)) ∧ (∀ (r : List AV), r ∈ List.map c28 [b[i_11.toNat]!] → r.length = 4) ∧ ((List.map c28 l_12).length + (List.map c28 [b[i_11.toNat]!]).length ≤ maxLen) ∧ (((List.map c28 l_12).length + (List.map c28 [b[i_11.toNat]!]).length) * (40 : Nat) ≤ (140737488355328 : Nat)) ∧ (List.map c28 l_12 ++ List.map c28 [b[i_11.toNat]!] = List.map c28 (l_12 ++ [b[i_11.toNat]!]))) (σ' := ⟨[(1, .sl (List.map c28 b)), (6, .own 1006 0), (8, .i .i64 (i_11))], [(1006, ⟨0, 28, .row 4 (List.map c28 (l_12 ++ [b[i_11.toNat]!]))⟩)]⟩) cx [(3, { row := (c28 b[i_11.toNat]!) }), (6, { rows := some (List.map c28 (l_12 ++ [b[i_11.toNat]!])) })] [1, 6, 8] [1006] (by kernel_rfl) (by kernel_rfl) ⟨(by (with_reducible assumption)), (by (with_reducible refine get_map ?_; omega)), (by kernel_rfl), (by (simp only [List.length_append, List.length_cons, List.length_nil]; omega)), (by kernel_rfl), (by kernel_rfl), (by kernel_rfl), (by (with_reducible refine len_map (fun _ => ?_) _; kernel_rfl)), (g6 h_2 i_3 l_4 h_6 h_7 h_8 h_9 h_10 i_11 l_12 h_14 h_15 h_16 h_17 h_18), (g7 h_2 i_3 l_4 h_6 h_7 h_8 h_9 h_10 i_11 l_12 h_14 h_15 h_16 h_17 h_18), (by (with_reducible refine app_map ?_; kernel_rfl))⟩ ?_
          refine q_blk_normal ?_
          refine q_seq_normal ?_
          refine st_reg (A := (AV.i IntKind.i64 (IntKind.i64.wrap (i_11 + (1 : Int))) = AV.i IntKind.i64 (i_11 + (1 : Int)))) (σ' := ⟨[(1, .sl (List.map c28 b)), (6, .own 1006 0), (8, .i .i64 (i_11 + (1 : Int)))], [(1006, ⟨0, 28, .row 4 (List.map c28 (l_12 ++ [b[i_11.toNat]!]))⟩)]⟩) cx [(1, { tell := some (.i .i64 (i_11 + (1 : Int))) })] [1, 6, 8] [1006] (by kernel_rfl) (by kernel_rfl) (told_i64 (by omega) (by omega)) ?_
          refine q_seq_normal ?_
          exact loop_next ((i_11 + (1 : Int), l_12 ++ [b[i_11.toNat]!])) (by kernel_rfl) (show ((↑b.length : Int) - (i_11 + (1 : Int))).toNat < ((↑b.length : Int) - i_11).toNat from (by omega)) (g8 h_2 i_3 l_4 h_6 h_7 h_8 h_9 h_10 i_11 l_12 h_14 h_15 h_16 h_17 h_18)
        ·
          refine st_exit 2 (by kernel_rfl) ?_
          refine q_seq_exit ?_
          refine q_seq_exit ?_
          refine q_blk_hit ?_
          refine q_seq_normal ?_
          refine st_seq (by kernel_rfl) ?_
          have hl_19 := (rng_onceR (botS (leM (0 : Int)) (1 : Nat) l_12))
          refine st_reg (A := (Con Try.prog (58 : FuncId) [AV.sl (List.map c28 l_12), AV.i IntKind.i64 (0 : Int)] (AV.sl (List.map c28 (botS (leM (0 : Int)) (1 : Nat) l_12)))) ∧ (Con Try.prog (57 : FuncId) [AV.sl (List.map c28 (botS (leM (0 : Int)) (1 : Nat) l_12))] (AV.tup [AV.sl (List.map c28 (onceR (botS (leM (0 : Int)) (1 : Nat) l_12)).fst), AV.i IntKind.i64 (onceR (botS (leM (0 : Int)) (1 : Nat) l_12)).snd]))) (σ' := ⟨[(4, .sl (List.map c28 (onceR (botS (leM (0 : Int)) (1 : Nat) l_12)).fst)), (5, .i .i64 ((onceR (botS (leM (0 : Int)) (1 : Nat) l_12)).snd))], []⟩) cx [(1, { val := some (.sl (List.map c28 (botS (leM (0 : Int)) (1 : Nat) l_12))) }), (2, { val := some (.tup [.sl (List.map c28 (onceR (botS (leM (0 : Int)) (1 : Nat) l_12)).fst), .i .i64 ((onceR (botS (leM (0 : Int)) (1 : Nat) l_12)).snd)]) })] [4, 5] [] (by kernel_rfl) (by kernel_rfl) ⟨(con58 (l_12) ((0 : Int)) (g9 h_2 i_3 l_4 h_6 h_7 h_8 h_9 h_10 i_11 l_12 h_14 h_15 h_16 h_17 h_18)), (con57 (botS (leM (0 : Int)) (1 : Nat) l_12) (g10 h_2 i_3 l_4 h_6 h_7 h_8 h_9 h_10 i_11 l_12 h_14 h_15 h_16 h_17 h_18))⟩ ?_
          refine q_seq_normal ?_
          refine st_ret (by kernel_rfl) ?_
          exact q_ret (r := .tup [.sl (List.map c28 (onceR (botS (leM (0 : Int)) (1 : Nat) l_12)).fst), .i .i64 ((onceR (botS (leM (0 : Int)) (1 : Nat) l_12)).snd)]) (obl := []) (by kernel_rfl) trivial (AVle.tup (ZLe.cons (AVle.eq (g12 h_2 i_3 l_4 h_6 h_7 h_8 h_9 h_10 i_11 l_12 h_14 h_15 h_16 h_17 h_18)) (ZLe.cons (AVle.eq (g11 h_2 i_3 l_4 h_6 h_7 h_8 h_9 h_10 i_11 l_12 h_14 h_15 h_16 h_17 h_18)) ZLe.nil)))
theorem con30 (a b : List Entry) : Con Try.prog 30 [.sl (a.map c28), .sl (b.map c28)] (.tup [.sl ((unionR a b).1.map c28), .i .i64 (unionR a b).2]) :=
  by
  apply walk30 a b
  case g0 => intro h; rw [union_no h]
  case g1 => intro h; rw [union_no h]; rfl
  case g2 => intro h; exact ⟨by omega, by omega, by simp, by simp [isPre]⟩
  case g3 => intro h i l h0 h1 h2 h3 h4; have := both_len h; simp only [List.length_map, List.length_cons, List.length_nil]; omega
  case g4 => intro h i l h0 h1 h2 h3 h4; exact ⟨by omega, by omega, by simp; omega, by unfold isPre at *; rw [h3, take_step h0 h4]⟩
  case g5 => intro h i l h0 h1 h2 h3 h4; exact ⟨by omega, by omega, by omega, by unfold isSuf0; unfold isPre at h3; rw [h3, List.take_of_length_le (by omega)]; simp⟩
  case g6 => intro h i l h0 h1 h2 h3 h4 j m k0 k1 k2 k3 k4; have := both_len h; simp only [List.length_map, List.length_cons, List.length_nil, Go.maxLen]; omega
  case g7 => intro h i l h0 h1 h2 h3 h4 j m k0 k1 k2 k3 k4; have := both_len h; simp only [List.length_map, List.length_cons, List.length_nil]; omega
  case g8 => intro h i l h0 h1 h2 h3 h4 j m k0 k1 k2 k3 k4; exact ⟨by omega, by omega, by rw [List.length_append]; simp only [List.length_cons, List.length_nil]; omega, isSuf_step k0 k4 k3⟩
  case g9 => intro h i l h0 h1 h2 h3 h4 j m k0 k1 k2 k3 k4; have := both_len h; omega
  case g10 => intro h i l h0 h1 h2 h3 h4 j m k0 k1 k2 k3 k4; have := both_len h; rw [bot_len]; omega
  case g11 => intro h i l h0 h1 h2 h3 h4 j m k0 k1 k2 k3 k4; rw [bot_union h k4 k3]
  case g12 => intro h i l h0 h1 h2 h3 h4 j m k0 k1 k2 k3 k4; rw [bot_union h k4 k3]
theorem walk7 (c : Case)
    (g0 : (1 : Int) ≤ (↑(List.map c28 someL).length : Int))
    (g1 : (1 : Int) ≤ none.getD (↑(List.map c28 someL).length : Int))
    (g2 : none.getD (↑(List.map c28 someL).length : Int) ≤ (↑(List.map c28 someL).length : Int))
    (g3 : ¬(unionR [{ dot := { rep := (0 : Int), num := (3 : Int) : Dot }, sku := { data := #[(65 : UInt8)] : ByteArray }, qty := (5 : Int) : Entry }] [{ dot := { rep := (1 : Int), num := (1 : Int) : Dot }, sku := { data := #[(66 : UInt8)] : ByteArray }, qty := (2 : Int) : Entry }, { dot := { rep := (1 : Int), num := (4 : Int) : Dot }, sku := { data := #[(65 : UInt8)] : ByteArray }, qty := (1 : Int) : Entry }]).snd = (0 : Int) ∨ ¬(unionR [{ dot := { rep := (0 : Int), num := (3 : Int) : Dot }, sku := { data := #[(65 : UInt8)] : ByteArray }, qty := (5 : Int) : Entry }] [{ dot := { rep := (1 : Int), num := (1 : Int) : Dot }, sku := { data := #[(66 : UInt8)] : ByteArray }, qty := (2 : Int) : Entry }, { dot := { rep := (1 : Int), num := (4 : Int) : Dot }, sku := { data := #[(65 : UInt8)] : ByteArray }, qty := (1 : Int) : Entry }]).fst = someL → AV.b false = AV.b true)
    (g4 : ¬(¬(unionR [{ dot := { rep := (0 : Int), num := (3 : Int) : Dot }, sku := { data := #[(65 : UInt8)] : ByteArray }, qty := (5 : Int) : Entry }] [{ dot := { rep := (1 : Int), num := (1 : Int) : Dot }, sku := { data := #[(66 : UInt8)] : ByteArray }, qty := (2 : Int) : Entry }, { dot := { rep := (1 : Int), num := (4 : Int) : Dot }, sku := { data := #[(65 : UInt8)] : ByteArray }, qty := (1 : Int) : Entry }]).snd = (0 : Int) ∨ ¬(unionR [{ dot := { rep := (0 : Int), num := (3 : Int) : Dot }, sku := { data := #[(65 : UInt8)] : ByteArray }, qty := (5 : Int) : Entry }] [{ dot := { rep := (1 : Int), num := (1 : Int) : Dot }, sku := { data := #[(66 : UInt8)] : ByteArray }, qty := (2 : Int) : Entry }, { dot := { rep := (1 : Int), num := (4 : Int) : Dot }, sku := { data := #[(65 : UInt8)] : ByteArray }, qty := (1 : Int) : Entry }]).fst = someL) → AV.b (decide ((unionR c.a c.b).fst = (unionR c.a c.b).fst)) = AV.b true) :
    Con Try.prog (7 : FuncId) [AV.agg (c38 c)] (AV.b true) := by
  refine st_con tab_ok (by kernel_rfl) [.tmp 2] 47 Go.Proofs.Try.func7 (by kernel_rfl) (by kernel_rfl) ?_
  intro e0 cx
  refine st_seq (by kernel_rfl) ?_
  refine st_reg (A := True) (σ' := ⟨[(1, .ptr (1) (0) (0) (0))], [(1, ⟨0, 38, .var [.sl (List.map c28 c.a), .sl (List.map c28 c.b), .sl (List.map c3 c.p.vec), .sl (List.map c81 c.p.cloud), .i .i64 (c.d.rep), .i .i64 (c.d.num), .i .i64 (c.rep), .s (c.sku)]⟩)]⟩) cx [] [1] [1] (by kernel_rfl) (by kernel_rfl) trivial ?_
  refine q_seq_normal ?_
  refine st_seq (by kernel_rfl) ?_
  refine st_any (A := (Con Try.prog (17 : FuncId) [] (AV.sl (List.map c28 someL))) ∧ ((0 : Int) ≤ (0 : Int)) ∧ ((0 : Int) ≤ (1 : Int)) ∧ ((1 : Int) ≤ (↑(List.map c28 someL).length : Int)) ∧ (∀ (r : List AV), r ∈ List.map c28 someL → r.length = (4 : Nat)) ∧ (Con Try.prog (17 : FuncId) [] (AV.sl (List.map c28 someL))) ∧ ((0 : Int) ≤ (1 : Int)) ∧ ((1 : Int) ≤ none.getD (↑(List.map c28 someL).length : Int)) ∧ (none.getD (↑(List.map c28 someL).length : Int) ≤ (↑(List.map c28 someL).length : Int)) ∧ (∀ (r : List AV), r ∈ List.map c28 someL → r.length = (4 : Nat)) ∧ (Con Try.prog (29 : FuncId) [AV.sl (List.map c28 [{ dot := { rep := (0 : Int), num := (3 : Int) : Dot }, sku := { data := #[(65 : UInt8)] : ByteArray }, qty := (5 : Int) : Entry }]), AV.sl (List.map c28 [{ dot := { rep := (1 : Int), num := (1 : Int) : Dot }, sku := { data := #[(66 : UInt8)] : ByteArray }, qty := (2 : Int) : Entry }, { dot := { rep := (1 : Int), num := (4 : Int) : Dot }, sku := { data := #[(65 : UInt8)] : ByteArray }, qty := (1 : Int) : Entry }])] (AV.tup [AV.sl (List.map c28 (unionR [{ dot := { rep := (0 : Int), num := (3 : Int) : Dot }, sku := { data := #[(65 : UInt8)] : ByteArray }, qty := (5 : Int) : Entry }] [{ dot := { rep := (1 : Int), num := (1 : Int) : Dot }, sku := { data := #[(66 : UInt8)] : ByteArray }, qty := (2 : Int) : Entry }, { dot := { rep := (1 : Int), num := (4 : Int) : Dot }, sku := { data := #[(65 : UInt8)] : ByteArray }, qty := (1 : Int) : Entry }]).fst), AV.i IntKind.i64 (unionR [{ dot := { rep := (0 : Int), num := (3 : Int) : Dot }, sku := { data := #[(65 : UInt8)] : ByteArray }, qty := (5 : Int) : Entry }] [{ dot := { rep := (1 : Int), num := (1 : Int) : Dot }, sku := { data := #[(66 : UInt8)] : ByteArray }, qty := (2 : Int) : Entry }, { dot := { rep := (1 : Int), num := (4 : Int) : Dot }, sku := { data := #[(65 : UInt8)] : ByteArray }, qty := (1 : Int) : Entry }]).snd]))) (σ' := ⟨[(1, .ptr (1) (0) (0) (0)), (3, .sl (List.map c28 (unionR [{ dot := { rep := (0 : Int), num := (3 : Int) : Dot }, sku := { data := #[(65 : UInt8)] : ByteArray }, qty := (5 : Int) : Entry }] [{ dot := { rep := (1 : Int), num := (1 : Int) : Dot }, sku := { data := #[(66 : UInt8)] : ByteArray }, qty := (2 : Int) : Entry }, { dot := { rep := (1 : Int), num := (4 : Int) : Dot }, sku := { data := #[(65 : UInt8)] : ByteArray }, qty := (1 : Int) : Entry }]).fst)), (4, .i .i64 ((unionR [{ dot := { rep := (0 : Int), num := (3 : Int) : Dot }, sku := { data := #[(65 : UInt8)] : ByteArray }, qty := (5 : Int) : Entry }] [{ dot := { rep := (1 : Int), num := (1 : Int) : Dot }, sku := { data := #[(66 : UInt8)] : ByteArray }, qty := (2 : Int) : Entry }, { dot := { rep := (1 : Int), num := (4 : Int) : Dot }, sku := { data := #[(65 : UInt8)] : ByteArray }, qty := (1 : Int) : Entry }]).snd))], [(1, ⟨0, 38, .var [.sl (List.map c28 c.a), .sl (List.map c28 c.b), .sl (List.map c3 c.p.vec), .sl (List.map c81 c.p.cloud), .i .i64 (c.d.rep), .i .i64 (c.d.num), .i .i64 (c.rep), .s (c.sku)]⟩)]⟩) cx [(0, { val := some (.sl (List.map c28 someL)) }), (2, { val := some (.sl (List.map c28 someL)) }), (4, { val := some (.tup [.sl (List.map c28 (unionR [{ dot := { rep := (0 : Int), num := (3 : Int) : Dot }, sku := { data := #[(65 : UInt8)] : ByteArray }, qty := (5 : Int) : Entry }] [{ dot := { rep := (1 : Int), num := (1 : Int) : Dot }, sku := { data := #[(66 : UInt8)] : ByteArray }, qty := (2 : Int) : Entry }, { dot := { rep := (1 : Int), num := (4 : Int) : Dot }, sku := { data := #[(65 : UInt8)] : ByteArray }, qty := (1 : Int) : Entry }]).fst), .i .i64 ((unionR [{ dot := { rep := (0 : Int), num := (3 : Int) : Dot }, sku := { data := #[(65 : UInt8)] : ByteArray }, qty := (5 : Int) : Entry }] [{ dot := { rep := (1 : Int), num := (1 : Int) : Dot }, sku := { data := #[(66 : UInt8)] : ByteArray }, qty := (2 : Int) : Entry }, { dot := { rep := (1 : Int), num := (4 : Int) : Dot }, sku := { data := #[(65 : UInt8)] : ByteArray }, qty := (1 : Int) : Entry }]).snd)]) })] [1, 3, 4] [1] (by kernel_rfl) (by kernel_rfl) ⟨(con17 ), (by omega), (by omega), g0, (by (with_reducible refine len_map (fun _ => ?_) _; kernel_rfl)), (con17 ), (by omega), g1, g2, (by (with_reducible refine len_map (fun _ => ?_) _; kernel_rfl)), (con29 ([{ dot := { rep := (0 : Int), num := (3 : Int) : Dot }, sku := { data := #[(65 : UInt8)] : ByteArray }, qty := (5 : Int) : Entry }]) ([{ dot := { rep := (1 : Int), num := (1 : Int) : Dot }, sku := { data := #[(66 : UInt8)] : ByteArray }, qty := (2 : Int) : Entry }, { dot := { rep := (1 : Int), num := (4 : Int) : Dot }, sku := { data := #[(65 : UInt8)] : ByteArray }, qty := (1 : Int) : Entry }]))⟩ ?_
  refine q_seq_normal ?_
  refine st_seq (by kernel_rfl) ?_
  refine st_seq (by kernel_rfl) ?_
  refine st_join (σ' := ⟨[(1, .ptr (1) (0) (0) (0)), (22, .b (decide (¬(unionR [{ dot := { rep := (0 : Int), num := (3 : Int) : Dot }, sku := { data := #[(65 : UInt8)] : ByteArray }, qty := (5 : Int) : Entry }] [{ dot := { rep := (1 : Int), num := (1 : Int) : Dot }, sku := { data := #[(66 : UInt8)] : ByteArray }, qty := (2 : Int) : Entry }, { dot := { rep := (1 : Int), num := (4 : Int) : Dot }, sku := { data := #[(65 : UInt8)] : ByteArray }, qty := (1 : Int) : Entry }]).snd = (0 : Int) ∨ ¬(unionR [{ dot := { rep := (0 : Int), num := (3 : Int) : Dot }, sku := { data := #[(65 : UInt8)] : ByteArray }, qty := (5 : Int) : Entry }] [{ dot := { rep := (1 : Int), num := (1 : Int) : Dot }, sku := { data := #[(66 : UInt8)] : ByteArray }, qty := (2 : Int) : Entry }, { dot := { rep := (1 : Int), num := (4 : Int) : Dot }, sku := { data := #[(65 : UInt8)] : ByteArray }, qty := (1 : Int) : Entry }]).fst = someL)))], [(1, ⟨0, 38, .var [.sl (List.map c28 c.a), .sl (List.map c28 c.b), .sl (List.map c3 c.p.vec), .sl (List.map c81 c.p.cloud), .i .i64 (c.d.rep), .i .i64 (c.d.num), .i .i64 (c.rep), .s (c.sku)]⟩)]⟩) ?_ ?_
  ·
    refine st_split (¬(unionR [{ dot := { rep := (0 : Int), num := (3 : Int) : Dot }, sku := { data := #[(65 : UInt8)] : ByteArray }, qty := (5 : Int) : Entry }] [{ dot := { rep := (1 : Int), num := (1 : Int) : Dot }, sku := { data := #[(66 : UInt8)] : ByteArray }, qty := (2 : Int) : Entry }, { dot := { rep := (1 : Int), num := (4 : Int) : Dot }, sku := { data := #[(65 : UInt8)] : ByteArray }, qty := (1 : Int) : Entry }]).snd = (0 : Int)) (fun h_1 => ?_) (fun h_1 => ?_)
    ·
      refine st_reg (A := (AV.b ((unionR [{ dot := { rep := (0 : Int), num := (3 : Int) : Dot }, sku := { data := #[(65 : UInt8)] : ByteArray }, qty := (5 : Int) : Entry }] [{ dot := { rep := (1 : Int), num := (1 : Int) : Dot }, sku := { data := #[(66 : UInt8)] : ByteArray }, qty := (2 : Int) : Entry }, { dot := { rep := (1 : Int), num := (4 : Int) : Dot }, sku := { data := #[(65 : UInt8)] : ByteArray }, qty := (1 : Int) : Entry }]).snd != (0 : Int)) = AV.b true) ∧ (AV.b true = AV.b (decide (¬(unionR [{ dot := { rep := (0 : Int), num := (3 : Int) : Dot }, sku := { data := #[(65 : UInt8)] : ByteArray }, qty := (5 : Int) : Entry }] [{ dot := { rep := (1 : Int), num := (1 : Int) : Dot }, sku := { data := #[(66 : UInt8)] : ByteArray }, qty := (2 : Int) : Entry }, { dot := { rep := (1 : Int), num := (4 : Int) : Dot }, sku := { data := #[(65 : UInt8)] : ByteArray }, qty := (1 : Int) : Entry }]).snd = (0 : Int) ∨ ¬(unionR [{ dot := { rep := (0 : Int), num := (3 : Int) : Dot }, sku := { data := #[(65 : UInt8)] : ByteArray }, qty := (5 : Int) : Entry }] [{ dot := { rep := (1 : Int), num := (1 : Int) : Dot }, sku := { data := #[(66 : UInt8)] : ByteArray }, qty := (2 : Int) : Entry }, { dot := { rep := (1 : Int), num := (4 : Int) : Dot }, sku := { data := #[(65 : UInt8)] : ByteArray }, qty := (1 : Int) : Entry }]).fst = someL)))) (σ' := ⟨[(1, .ptr (1) (0) (0) (0)), (22, .b (decide (¬(unionR [{ dot := { rep := (0 : Int), num := (3 : Int) : Dot }, sku := { data := #[(65 : UInt8)] : ByteArray }, qty := (5 : Int) : Entry }] [{ dot := { rep := (1 : Int), num := (1 : Int) : Dot }, sku := { data := #[(66 : UInt8)] : ByteArray }, qty := (2 : Int) : Entry }, { dot := { rep := (1 : Int), num := (4 : Int) : Dot }, sku := { data := #[(65 : UInt8)] : ByteArray }, qty := (1 : Int) : Entry }]).snd = (0 : Int) ∨ ¬(unionR [{ dot := { rep := (0 : Int), num := (3 : Int) : Dot }, sku := { data := #[(65 : UInt8)] : ByteArray }, qty := (5 : Int) : Entry }] [{ dot := { rep := (1 : Int), num := (1 : Int) : Dot }, sku := { data := #[(66 : UInt8)] : ByteArray }, qty := (2 : Int) : Entry }, { dot := { rep := (1 : Int), num := (4 : Int) : Dot }, sku := { data := #[(65 : UInt8)] : ByteArray }, qty := (1 : Int) : Entry }]).fst = someL)))], [(1, ⟨0, 38, .var [.sl (List.map c28 c.a), .sl (List.map c28 c.b), .sl (List.map c3 c.p.vec), .sl (List.map c81 c.p.cloud), .i .i64 (c.d.rep), .i .i64 (c.d.num), .i .i64 (c.rep), .s (c.sku)]⟩)]⟩) cx [(1, { tell := some (.b (true)) }), (7, { tell := some (.b (decide (¬(unionR [{ dot := { rep := (0 : Int), num := (3 : Int) : Dot }, sku := { data := #[(65 : UInt8)] : ByteArray }, qty := (5 : Int) : Entry }] [{ dot := { rep := (1 : Int), num := (1 : Int) : Dot }, sku := { data := #[(66 : UInt8)] : ByteArray }, qty := (2 : Int) : Entry }, { dot := { rep := (1 : Int), num := (4 : Int) : Dot }, sku := { data := #[(65 : UInt8)] : ByteArray }, qty := (1 : Int) : Entry }]).snd = (0 : Int) ∨ ¬(unionR [{ dot := { rep := (0 : Int), num := (3 : Int) : Dot }, sku := { data := #[(65 : UInt8)] : ByteArray }, qty := (5 : Int) : Entry }] [{ dot := { rep := (1 : Int), num := (1 : Int) : Dot }, sku := { data := #[(66 : UInt8)] : ByteArray }, qty := (2 : Int) : Entry }, { dot := { rep := (1 : Int), num := (4 : Int) : Dot }, sku := { data := #[(65 : UInt8)] : ByteArray }, qty := (1 : Int) : Entry }]).fst = someL))) })] [1, 22] [1] (by kernel_rfl) (by kernel_rfl) ⟨(told_neqt h_1), (by simp only [eq_false h_1, told_simp1, told_simp2, and_true, true_and, and_false, false_and, or_true, true_or, or_false, false_or, not_true_eq_false, not_false_eq_true, decide_true, decide_false, Bool.decide_eq_true])⟩ ?_
      exact ⟨rfl, rfl⟩
    ·
      refine st_reg (A := (AV.b ((unionR [{ dot := { rep := (0 : Int), num := (3 : Int) : Dot }, sku := { data := #[(65 : UInt8)] : ByteArray }, qty := (5 : Int) : Entry }] [{ dot := { rep := (1 : Int), num := (1 : Int) : Dot }, sku := { data := #[(66 : UInt8)] : ByteArray }, qty := (2 : Int) : Entry }, { dot := { rep := (1 : Int), num := (4 : Int) : Dot }, sku := { data := #[(65 : UInt8)] : ByteArray }, qty := (1 : Int) : Entry }]).snd != (0 : Int)) = AV.b (decide ¬(unionR [{ dot := { rep := (0 : Int), num := (3 : Int) : Dot }, sku := { data := #[(65 : UInt8)] : ByteArray }, qty := (5 : Int) : Entry }] [{ dot := { rep := (1 : Int), num := (1 : Int) : Dot }, sku := { data := #[(66 : UInt8)] : ByteArray }, qty := (2 : Int) : Entry }, { dot := { rep := (1 : Int), num := (4 : Int) : Dot }, sku := { data := #[(65 : UInt8)] : ByteArray }, qty := (1 : Int) : Entry }]).snd = (0 : Int))) ∧ (AV.b (decide ¬(unionR [{ dot := { rep := (0 : Int), num := (3 : Int) : Dot }, sku := { data := #[(65 : UInt8)] : ByteArray }, qty := (5 : Int) : Entry }] [{ dot := { rep := (1 : Int), num := (1 : Int) : Dot }, sku := { data := #[(66 : UInt8)] : ByteArray }, qty := (2 : Int) : Entry }, { dot := { rep := (1 : Int), num := (4 : Int) : Dot }, sku := { data := #[(65 : UInt8)] : ByteArray }, qty := (1 : Int) : Entry }]).snd = (0 : Int)) = AV.b false) ∧ (Con Try.prog (17 : FuncId) [] (AV.sl (List.map c28 someL))) ∧ (Con Try.prog (24 : FuncId) [AV.sl (List.map c28 (unionR [{ dot := { rep := (0 : Int), num := (3 : Int) : Dot }, sku := { data := #[(65 : UInt8)] : ByteArray }, qty := (5 : Int) : Entry }] [{ dot := { rep := (1 : Int), num := (1 : Int) : Dot }, sku := { data := #[(66 : UInt8)] : ByteArray }, qty := (2 : Int) : Entry }, { dot := { rep := (1 : Int), num := (4 : Int) : Dot }, sku := { data := #[(65 : UInt8)] : ByteArray }, qty := (1 : Int) : Entry }]).fst), AV.sl (List.map c28 someL)] (AV.b (decide ((unionR [{ dot := { rep := (0 : Int), num := (3 : Int) : Dot }, sku := { data := #[(65 : UInt8)] : ByteArray }, qty := (5 : Int) : Entry }] [{ dot := { rep := (1 : Int), num := (1 : Int) : Dot }, sku := { data := #[(66 : UInt8)] : ByteArray }, qty := (2 : Int) : Entry }, { dot := { rep := (1 : Int), num := (4 : Int) : Dot }, sku := { data := #[(65 : UInt8)] : ByteArray }, qty := (1 : Int) : Entry }]).fst = someL)))) ∧ ((AV.b !decide ((unionR [{ dot := { rep := (0 : Int), num := (3 : Int) : Dot }, sku := { data := #[(65 : UInt8)] : ByteArray }, qty := (5 : Int) : Entry }] [{ dot := { rep := (1 : Int), num := (1 : Int) : Dot }, sku := { data := #[(66 : UInt8)] : ByteArray }, qty := (2 : Int) : Entry }, { dot := { rep := (1 : Int), num := (4 : Int) : Dot }, sku := { data := #[(65 : UInt8)] : ByteArray }, qty := (1 : Int) : Entry }]).fst = someL)) = AV.b (decide ¬(unionR [{ dot := { rep := (0 : Int), num := (3 : Int) : Dot }, sku := { data := #[(65 : UInt8)] : ByteArray }, qty := (5 : Int) : Entry }] [{ dot := { rep := (1 : Int), num := (1 : Int) : Dot }, sku := { data := #[(66 : UInt8)] : ByteArray }, qty := (2 : Int) : Entry }, { dot := { rep := (1 : Int), num := (4 : Int) : Dot }, sku := { data := #[(65 : UInt8)] : ByteArray }, qty := (1 : Int) : Entry }]).fst = someL)) ∧ (AV.b (decide ¬(unionR [{ dot := { rep := (0 : Int), num := (3 : Int) : Dot }, sku := { data := #[(65 : UInt8)] : ByteArray }, qty := (5 : Int) : Entry }] [{ dot := { rep := (1 : Int), num := (1 : Int) : Dot }, sku := { data := #[(66 : UInt8)] : ByteArray }, qty := (2 : Int) : Entry }, { dot := { rep := (1 : Int), num := (4 : Int) : Dot }, sku := { data := #[(65 : UInt8)] : ByteArray }, qty := (1 : Int) : Entry }]).fst = someL) = AV.b (decide (¬(unionR [{ dot := { rep := (0 : Int), num := (3 : Int) : Dot }, sku := { data := #[(65 : UInt8)] : ByteArray }, qty := (5 : Int) : Entry }] [{ dot := { rep := (1 : Int), num := (1 : Int) : Dot }, sku := { data := #[(66 : UInt8)] : ByteArray }, qty := (2 : Int) : Entry }, { dot := { rep := (1 : Int), num := (4 : Int) : Dot }, sku := { data := #[(65 : UInt8)] : ByteArray }, qty := (1 : Int) : Entry }]).snd = (0 : Int) ∨ ¬(unionR [{ dot := { rep := (0 : Int), num := (3 : Int) : Dot }, sku := { data := #[(65 : UInt8)] : ByteArray }, qty := (5 : Int) : Entry }] [{ dot := { rep := (1 : Int), num := (1 : Int) : Dot }, sku := { data := #[(66 : UInt8)] : ByteArray }, qty := (2 : Int) : Entry }, { dot := { rep := (1 : Int), num := (4 : Int) : Dot }, sku := { data := #[(65 : UInt8)] : ByteArray }, qty := (1 : Int) : Entry }]).fst = someL)))) (σ' := ⟨[(1, .ptr (1) (0) (0) (0)), (22, .b (decide (¬(unionR [{ dot := { rep := (0 : Int), num := (3 : Int) : Dot }, sku := { data := #[(65 : UInt8)] : ByteArray }, qty := (5 : Int) : Entry }] [{ dot := { rep := (1 : Int), num := (1 : Int) : Dot }, sku := { data := #[(66 : UInt8)] : ByteArray }, qty := (2 : Int) : Entry }, { dot := { rep := (1 : Int), num := (4 : Int) : Dot }, sku := { data := #[(65 : UInt8)] : ByteArray }, qty := (1 : Int) : Entry }]).snd = (0 : Int) ∨ ¬(unionR [{ dot := { rep := (0 : Int), num := (3 : Int) : Dot }, sku := { data := #[(65 : UInt8)] : ByteArray }, qty := (5 : Int) : Entry }] [{ dot := { rep := (1 : Int), num := (1 : Int) : Dot }, sku := { data := #[(66 : UInt8)] : ByteArray }, qty := (2 : Int) : Entry }, { dot := { rep := (1 : Int), num := (4 : Int) : Dot }, sku := { data := #[(65 : UInt8)] : ByteArray }, qty := (1 : Int) : Entry }]).fst = someL)))], [(1, ⟨0, 38, .var [.sl (List.map c28 c.a), .sl (List.map c28 c.b), .sl (List.map c3 c.p.vec), .sl (List.map c81 c.p.cloud), .i .i64 (c.d.rep), .i .i64 (c.d.num), .i .i64 (c.rep), .s (c.sku)]⟩)]⟩) cx [(1, { tell := some (.b (decide ¬(unionR [{ dot := { rep := (0 : Int), num := (3 : Int) : Dot }, sku := { data := #[(65 : UInt8)] : ByteArray }, qty := (5 : Int) : Entry }] [{ dot := { rep := (1 : Int), num := (1 : Int) : Dot }, sku := { data := #[(66 : UInt8)] : ByteArray }, qty := (2 : Int) : Entry }, { dot := { rep := (1 : Int), num := (4 : Int) : Dot }, sku := { data := #[(65 : UInt8)] : ByteArray }, qty := (1 : Int) : Entry }]).snd = (0 : Int))) }), (2, { tell := some (.b (false)) }), (4, { val := some (.sl (List.map c28 someL)) }), (5, { val := some (.b (decide ((unionR [{ dot := { rep := (0 : Int), num := (3 : Int) : Dot }, sku := { data := #[(65 : UInt8)] : ByteArray }, qty := (5 : Int) : Entry }] [{ dot := { rep := (1 : Int), num := (1 : Int) : Dot }, sku := { data := #[(66 : UInt8)] : ByteArray }, qty := (2 : Int) : Entry }, { dot := { rep := (1 : Int), num := (4 : Int) : Dot }, sku := { data := #[(65 : UInt8)] : ByteArray }, qty := (1 : Int) : Entry }]).fst = someL))) }), (6, { tell := some (.b (decide ¬(unionR [{ dot := { rep := (0 : Int), num := (3 : Int) : Dot }, sku := { data := #[(65 : UInt8)] : ByteArray }, qty := (5 : Int) : Entry }] [{ dot := { rep := (1 : Int), num := (1 : Int) : Dot }, sku := { data := #[(66 : UInt8)] : ByteArray }, qty := (2 : Int) : Entry }, { dot := { rep := (1 : Int), num := (4 : Int) : Dot }, sku := { data := #[(65 : UInt8)] : ByteArray }, qty := (1 : Int) : Entry }]).fst = someL)) }), (7, { tell := some (.b (decide (¬(unionR [{ dot := { rep := (0 : Int), num := (3 : Int) : Dot }, sku := { data := #[(65 : UInt8)] : ByteArray }, qty := (5 : Int) : Entry }] [{ dot := { rep := (1 : Int), num := (1 : Int) : Dot }, sku := { data := #[(66 : UInt8)] : ByteArray }, qty := (2 : Int) : Entry }, { dot := { rep := (1 : Int), num := (4 : Int) : Dot }, sku := { data := #[(65 : UInt8)] : ByteArray }, qty := (1 : Int) : Entry }]).snd = (0 : Int) ∨ ¬(unionR [{ dot := { rep := (0 : Int), num := (3 : Int) : Dot }, sku := { data := #[(65 : UInt8)] : ByteArray }, qty := (5 : Int) : Entry }] [{ dot := { rep := (1 : Int), num := (1 : Int) : Dot }, sku := { data := #[(66 : UInt8)] : ByteArray }, qty := (2 : Int) : Entry }, { dot := { rep := (1 : Int), num := (4 : Int) : Dot }, sku := { data := #[(65 : UInt8)] : ByteArray }, qty := (1 : Int) : Entry }]).fst = someL))) })] [1, 22] [1] (by kernel_rfl) (by kernel_rfl) ⟨(told_neq), (told_false h_1), (con17 ), (con24 ((unionR [{ dot := { rep := (0 : Int), num := (3 : Int) : Dot }, sku := { data := #[(65 : UInt8)] : ByteArray }, qty := (5 : Int) : Entry }] [{ dot := { rep := (1 : Int), num := (1 : Int) : Dot }, sku := { data := #[(66 : UInt8)] : ByteArray }, qty := (2 : Int) : Entry }, { dot := { rep := (1 : Int), num := (4 : Int) : Dot }, sku := { data := #[(65 : UInt8)] : ByteArray }, qty := (1 : Int) : Entry }]).fst) (someL)), (told_notd), (by simp only [eq_false h_1, told_simp1, told_simp2, and_true, true_and, and_false, false_and, or_true, true_or, or_false, false_or, not_true_eq_false, not_false_eq_true, decide_true, decide_false, Bool.decide_eq_true])⟩ ?_
      exact ⟨rfl, rfl⟩
  ·
    refine q_seq_normal ?_
    refine st_dec (¬(unionR [{ dot := { rep := (0 : Int), num := (3 : Int) : Dot }, sku := { data := #[(65 : UInt8)] : ByteArray }, qty := (5 : Int) : Entry }] [{ dot := { rep := (1 : Int), num := (1 : Int) : Dot }, sku := { data := #[(66 : UInt8)] : ByteArray }, qty := (2 : Int) : Entry }, { dot := { rep := (1 : Int), num := (4 : Int) : Dot }, sku := { data := #[(65 : UInt8)] : ByteArray }, qty := (1 : Int) : Entry }]).snd = (0 : Int) ∨ ¬(unionR [{ dot := { rep := (0 : Int), num := (3 : Int) : Dot }, sku := { data := #[(65 : UInt8)] : ByteArray }, qty := (5 : Int) : Entry }] [{ dot := { rep := (1 : Int), num := (1 : Int) : Dot }, sku := { data := #[(66 : UInt8)] : ByteArray }, qty := (2 : Int) : Entry }, { dot := { rep := (1 : Int), num := (4 : Int) : Dot }, sku := { data := #[(65 : UInt8)] : ByteArray }, qty := (1 : Int) : Entry }]).fst = someL) (by kernel_rfl) (by kernel_rfl) (fun h_2 => ?_) (fun h_2 => ?_)
    ·
      refine st_seq (by kernel_rfl) ?_
      refine st_reg (A := True) (σ' := ⟨[(2, .b (false))], []⟩) cx [] [2] [] (by kernel_rfl) (by kernel_rfl) trivial ?_
      refine q_seq_normal ?_
      refine st_ret (by kernel_rfl) ?_
      refine q_seq_ret ?_
      exact q_ret (r := .b (false)) (obl := []) (by kernel_rfl) trivial (AVle.eq (g3 h_2))
    ·
      refine st_skip (by kernel_rfl) ?_
      refine q_seq_normal ?_
      refine st_seq (by kernel_rfl) ?_
      refine st_reg (A := (Con Try.prog (30 : FuncId) [AV.sl (List.map c28 c.a), AV.sl (List.map c28 c.b)] (AV.tup [AV.sl (List.map c28 (unionR c.a c.b).fst), AV.i IntKind.i64 (unionR c.a c.b).snd]))) (σ' := ⟨[(1, .ptr (1) (0) (0) (0)), (5, .sl (List.map c28 (unionR c.a c.b).fst)), (6, .i .i64 ((unionR c.a c.b).snd))], [(1, ⟨0, 38, .var [.sl (List.map c28 c.a), .sl (List.map c28 c.b), .sl (List.map c3 c.p.vec), .sl (List.map c81 c.p.cloud), .i .i64 (c.d.rep), .i .i64 (c.d.num), .i .i64 (c.rep), .s (c.sku)]⟩)]⟩) cx [(4, { val := some (.tup [.sl (List.map c28 (unionR c.a c.b).fst), .i .i64 ((unionR c.a c.b).snd)]) })] [1, 5, 6] [1] (by kernel_rfl) (by kernel_rfl) (con30 (c.a) (c.b)) ?_
      refine q_seq_normal ?_
      refine st_seq (by kernel_rfl) ?_
      refine st_reg (A := (Con Try.prog (29 : FuncId) [AV.sl (List.map c28 c.a), AV.sl (List.map c28 c.b)] (AV.tup [AV.sl (List.map c28 (unionR c.a c.b).fst), AV.i IntKind.i64 (unionR c.a c.b).snd]))) (σ' := ⟨[(5, .sl (List.map c28 (unionR c.a c.b).fst)), (6, .i .i64 ((unionR c.a c.b).snd)), (3, .sl (List.map c28 (unionR c.a c.b).fst)), (4, .i .i64 ((unionR c.a c.b).snd))], []⟩) cx [(4, { val := some (.tup [.sl (List.map c28 (unionR c.a c.b).fst), .i .i64 ((unionR c.a c.b).snd)]) })] [5, 6, 3, 4] [] (by kernel_rfl) (by kernel_rfl) (con29 (c.a) (c.b)) ?_
      refine q_seq_normal ?_
      refine st_seq (by kernel_rfl) ?_
      refine st_reg (A := (AV.b ((unionR c.a c.b).snd == (unionR c.a c.b).snd) = AV.b true) ∧ (Con Try.prog (24 : FuncId) [AV.sl (List.map c28 (unionR c.a c.b).fst), AV.sl (List.map c28 (unionR c.a c.b).fst)] (AV.b (decide ((unionR c.a c.b).fst = (unionR c.a c.b).fst))))) (σ' := ⟨[(2, .b (decide ((unionR c.a c.b).fst = (unionR c.a c.b).fst)))], []⟩) cx [(2, { tell := some (.b (true)) }), (6, { val := some (.b (decide ((unionR c.a c.b).fst = (unionR c.a c.b).fst))) })] [2] [] (by kernel_rfl) (by kernel_rfl) ⟨(told_ies), (con24 ((unionR c.a c.b).fst) ((unionR c.a c.b).fst))⟩ ?_
      refine q_seq_normal ?_
      refine st_ret (by kernel_rfl) ?_
      exact q_ret (r := .b (decide ((unionR c.a c.b).fst = (unionR c.a c.b).fst))) (obl := []) (by kernel_rfl) trivial (AVle.eq (g4 h_2))
theorem con7 (c : Case) : Con Try.prog 7 [.agg (c38 c)] (.b true) :=
  walk7 c (by decide) (by decide) (by decide) (fun h => by
    have e := union_some
    simp only [someL, List.take_succ_cons, List.take_zero, List.drop_succ_cons, List.drop_zero] at e
    rw [e] at h
    rcases h with h | h
    · exact absurd rfl h
    · exact absurd rfl h) (fun h => by rw [decide_eq_true rfl])
end Go.Proofs.Ytjngmlkaijpbgaa
