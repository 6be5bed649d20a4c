/- EV: slices.Clone at any element type: it hands back a row of the caller's own. Conditions: how its body is laid; sizes. -/
import Derived.Test.YtjngmlkaijpbgaaEU
import Derived.Shelf.SlLaysE0
import Derived.Shelf.RegionOpenPlain
import Derived.WalkKit
import Derived.Deep.LoopGhost
import Derived.Lib.Walk
import Derived.Lib.SliceRun
set_option linter.unusedVariables false
set_option linter.unusedSimpArgs false
namespace Go.E
open Go Go.Proofs Go.Shelf Go.RowKit Go.Lib
variable {P : Program} {ρ : Ren}
set_option maxHeartbeats 2000000 in
set_option maxRecDepth 100000 in
theorem clone_some (L : SlLaysE0.n41 P ρ) (i0 : TypeInfo) (z : Value) (size bytes : Nat) (hi : P.info? (ρ.t 23) = some i0) (hz0 : i0.zero = some z) (hz1 : i0.size = size) (hz2 : i0.bytes = bytes) (hzs : z.cells.size = size) (hsz : 0 < size) (z23 : ∀ w, (Go.sizeOf (ρ.t 23)).run P w = .ok size w)
    (ad : Addr) (n c : Nat) (news : List Value) (w : World) (hl : news.length = n * size) (hn : n ≤ maxLen) (hbig : n * bytes ≤ 140737488355328)
    (hc : ∀ j u, news[j]? = some u → w.cell? (ad.add j) = some u) (h1 : ∀ u ∈ news, u.oneCell' = true) :
    Calls P (ρ.f 41) #[.slice (some ad) n c] w fun e w' => ∃ v', e = .returned v' ∧ w'.ownsRow w.heap.size (ρ.t 23) size v' n news ∧ Below w.heap.size w w' := by
  have mixed := L.mixed; have t4 := L.t4; have a4 := L.a4; have z4 := L.z4; have v4 := L.v4; have t22 := L.t22; have a22 := L.a22; have z22 := L.z22; have v22 := L.v22
  have q22 : ∀ (w : World) (a : Option Addr) (n c n' c' : Nat), (binOp .eql (ρ.t 22) (.slice a n c) (.slice none n' c')).run P w = .ok (.bool a.isNone) w := fun w a n c n' c' => Lib.run_eql_slice_nil w _ _ a n c n' c' L.t22
  have u22 : ∀ w, Sem.run P (underlying (ρ.t 22)) w = .ok (TypeDesc.slice (ρ.t 23)) w := run_underlying t22
  have A : Aside (∀ j u, news[j]? = some u → w.cell? (ad.add j) = some u) := hc
  clear hc
  obtain ⟨_, _, FG⟩ := L.f41
  go_enter FG, SlBodyN.n41_ntmps ρ
  go_wp2_with (at_builtin; refine wpList_append_own _ rfl _ _ (ρ.t 22) rfl w.heap.size (ρ.t 23) i0 z size bytes t22 hi hz0 hz1 hz2 hzs hsz _ _ _ rfl (World.ownsRow_made w #[] 0 (Nat.le_refl _) (Nat.zero_le _) (by simp)) ad n c news rfl ?qc1 ?qc2 ?qc3 ?qc4 ?qc5 ?qc6 ?_)
  case qc1 => exact hl
  case qc2 =>
    intro j u hj
    exact Lib.cell?_alloc_some _ (A.out j u hj)
  case qc3 => exact h1
  case qc4 => rw [Nat.zero_add]; exact hn
  case qc5 => rw [Nat.zero_add]; exact hbig
  case qc6 => simp
  intro v' w1 hown hgrow hnil
  go_wp2
  go_ret
  refine ⟨v', rfl, by simpa using hown, ?_⟩
  exact ((Below.refl _ w).alloc (Nat.le_refl _) _).grown hgrow (by simp) (by intro k hk; simp [Value.ownBlock] at hk; omega)
set_option maxHeartbeats 1000000 in
theorem clone_none (L : SlLaysE0.n41 P ρ) (n c : Nat) (w : World) :
    Calls P (ρ.f 41) #[.slice none n c] w fun e w' => e = .returned (.slice none 0 0) ∧ w' = w := by
  have mixed := L.mixed; have t4 := L.t4; have a4 := L.a4; have z4 := L.z4; have v4 := L.v4; have t22 := L.t22; have a22 := L.a22; have z22 := L.z22; have v22 := L.v22
  have q22 : ∀ (w : World) (a : Option Addr) (n c n' c' : Nat), (binOp .eql (ρ.t 22) (.slice a n c) (.slice none n' c')).run P w = .ok (.bool a.isNone) w := fun w a n c n' c' => Lib.run_eql_slice_nil w _ _ a n c n' c' L.t22
  obtain ⟨_, _, FG⟩ := L.f41
  go_enter FG, SlBodyN.n41_ntmps ρ
  go_wp2
  go_ret
  exact ⟨rfl, rfl⟩
/-- slices.Clone: a row of the caller's own, of the same elements. -/
theorem conB_clone (L : SlLaysE0.n41 P ρ) {T : Tab} (hT : TabOk P T) {te : TI} (hte : look T (ρ.t 23) = some te) (hcl : Callable P (ρ.f 41)) (hz : te.zero.length = te.size) (h0 : 0 < te.size) {rows : List (List AV)} (hsz : ∀ r ∈ rows, r.length = te.size)
    (hbig : rows.length * te.bytes ≤ 140737488355328) : ConB P (ρ.f 41) [.sl rows] (ρ.t 23) (.row te.size rows) := by
  refine ⟨hcl, fun w S0 vs hS hl hv => ?_⟩
  obtain ⟨v, rfl⟩ : ∃ v, vs = [v] := by
    match vs, hl with
    | [v], _ => exact ⟨v, rfl⟩
  have hr := hv 0 _ v rfl rfl
  have hm : rows.length ≤ maxLen := by cases hr with | sl _ A cap sz u hc hm => exact hm
  obtain ⟨i, zv, i1, i2, i3, i4, i5⟩ := inf hT hte
  rcases (shows_sl hr).flat hsz with ⟨rfl, rfl⟩ | ⟨ad, cap, xs, rfl, x1, x2, x3, x4⟩
  · refine (clone_none L 0 0 w).mono ?_
    rintro e w' ⟨rfl, rfl⟩
    exact ⟨_, rfl, ⟨fun r hr => by simp at hr, [], World.ownsRow_nil _ _ _ _, fun u hu => by simp at hu, fun j b u hb => by simp at hb⟩, Below.refl _ _⟩
  · have hzl : zv.cells.size = te.size := by
      have := congrArg List.length i5
      simpa [hz] using this
    refine (clone_some L i zv te.size te.bytes i1 i4 i2 i3 hzl h0 (szOf hT hte) ad rows.length cap xs w x1 hm hbig x2 x3).mono ?_
    rintro e w' ⟨v', rfl, ho, hb⟩
    refine ⟨v', rfl, ⟨hsz, xs, ho, x3, fun j b u hb' hu => (x4 j b u hb' hu).mono (fun k hk => ⟨.inl hk, fun e => ?_⟩) (fun k hk => hb.block k (hS k hk))⟩, hb⟩
    have := hS k hk
    rcases ho.2 with ⟨rfl, _⟩ | ⟨g, cap', cur, rfl, g1, _⟩
    · simp [blkOf] at e
    · simp [blkOf] at e; omega
end Go.E
